/-
  Texts of this claim, one behind the other: V23, SmallN, ServX, V24, ServN, V25, V26, V27.
-/
import Derived.Test.YtpkeilhilpogiaaGreatPc4
import Derived.KernelRfl
/-
  What a server takes.
-/
set_option linter.unusedSimpArgs false
set_option linter.unusedVariables false
set_option linter.unnecessarySimpa false
set_option maxRecDepth 8000
set_option maxHeartbeats 1000000
namespace Go.Proofs.YtpkeilhilpogiaaGreat
open Go.Esp
theorem F.bld26 : Bld Tryz.prog 26 [[.one (.int .i64 0)], [.one (.int .u64 0)], [.one (.slice none 0 0)], [.one (.slice none 0 0)], [.one (.int .u64 0)]] := ⟨by kernel_rfl, by kernel_rfl⟩
theorem F.bld67 : Bld Tryz.prog 67 [[.one (.int .i64 0), .one (.int .u64 0), .one (.slice none 0 0), .one (.slice none 0 0), .one (.int .u64 0)], [.one (.slice none 0 0)], [.one (.int .i64 0)], [.one (.slice none 0 0)]] := ⟨by kernel_rfl, by kernel_rfl⟩
theorem F.ok14 : okFn Tryz.prog 14 = true := by kernel_rfl
theorem F.ok18 : okFn Tryz.prog 18 = true := by kernel_rfl
theorem F.ok24 : okFn Tryz.prog 24 = true := by kernel_rfl
theorem F.ok25 : okFn Tryz.prog 25 = true := by kernel_rfl
theorem F.ok26 : okFn Tryz.prog 26 = true := by kernel_rfl
theorem F.ok27 : okFn Tryz.prog 27 = true := by kernel_rfl

theorem CloneW_nil (M : Mem) (c : Nat) (l : List WaitV) (k : SlK M WaitV.segs 28 ⟨none, c, l⟩) (hb : l.length ≤ 1000000) : Fh Tryz.prog 24 [.slice none l.length c] M [] (fun M' v Hout => M' = M ∧ OSl 54 28 v Hout (l.map WaitV.segs)) := by
  have hl0 : l = [] := SlM.none_nil k.h1
  subst hl0
  have hl0 : ([] : List WaitV).map WaitV.segs = [] := rfl
  refine fh_enter Tryz.func24 rfl Tryz.ntmps24 rfl ?_; intro H
  refine C_seq ?_
  refine C_region (l := [0]) rfl ?_
  refine Y_assign ?_
  refine XD_end ?_
  refine K_then ?_
  iterate 2 refine C_seq ?_
  refine C_region (l := [0, 1]) rfl ?_
  refine Y_move ?_
  refine Y_nil Tryz.underlying24 ?_
  refine XD_end ?_
  refine K_then ?_
  refine Y_pk [4, 2, 0] ?_
  refine C_cond rfl (fun hc1 => ?_) (fun hc1 => ?_)
  ·skip
   refine C_seq ?_
   refine C_region (l := [0]) rfl ?_
   refine Y_assign ?_
   refine XD_end ?_
   refine K_then ?_
   refine Y_pk [2, 0] ?_
   refine C_ret ?_
   refine K_ret ?_
   refine K_end (.inr rfl) (.tmp rfl .nil) (fun w hw => ?_)
   exact ⟨_, M, [], rfl, Mem.le.refl M, hw.c, rfl, by rw [hl0]; exact OSl.nil⟩
  ·skip
   (exfalso; simp [eqX] at hc1; done)
theorem CloneW_some (M : Mem) (ad : Addr) (c : Nat) (l : List WaitV) (k : SlK M WaitV.segs 28 ⟨some ad, c, l⟩) (hb : l.length ≤ 1000000) : Fh Tryz.prog 24 [.slice (some ad) l.length c] M [] (fun M' v Hout => M' = M ∧ OSl 54 28 v Hout (l.map WaitV.segs)) := by
  have hml : l.length = (l.map WaitV.segs).length := (List.length_map ..).symm
  refine fh_enter Tryz.func24 rfl Tryz.ntmps24 rfl ?_; intro H
  refine C_seq ?_
  refine C_region (l := [0]) rfl ?_
  refine Y_assign ?_
  refine XD_end ?_
  refine K_then ?_
  iterate 2 refine C_seq ?_
  refine C_region (l := [0, 1]) rfl ?_
  refine Y_move ?_
  refine Y_nil Tryz.underlying24 ?_
  refine XD_end ?_
  refine K_then ?_
  refine Y_pk [4, 2, 0] ?_
  refine C_cond rfl (fun hc1 => ?_) (fun hc1 => ?_)
  ·skip
   (exfalso; simp [eqX] at hc1; done)
  ·skip
   refine C_skip ?_
   refine K_then ?_
   refine Y_pk [2, 0] ?_
   refine C_seq ?_
   refine C_region (l := [0, 1, 2, 3]) rfl ?_
   refine X_buildSliceF rfl rfl F.elem24 F.zero54 rfl rfl (.nil) rfl rfl (by simp only [List.map_cons, List.map_nil] <;> rfl) rfl ?_; intro b2 hob3
   refine Y_move ?_
   refine X_append (m := 1000000) rfl rfl rfl rfl rfl F.elem24 F.zero54 (by exact agg_size rfl) rfl (by assumption) (by repeat first | exact Rem.here _ | exact Rem.two | apply Rem.skip | apply Rem.over) (SlM.src k.h1 (rows_one WaitV.flat _) hml) (by (simp; omega)) (by decide) rfl ?_; intro v6 hs5 ho4; obtain ⟨adv6, cpv6, rfl⟩ := ho4.val
   refine Y_assign ?_
   refine XD_end ?_
   refine K_then ?_
   refine Y_pk [2] ?_
   refine C_ret ?_
   refine K_end (.inr rfl) (.tmp rfl .nil) (fun w hw => ?_)
   exact ⟨_, M, _, rfl, Mem.le.refl M, hw.c, rfl, by assumption⟩

theorem CloneW_ok (M : Mem) (a : Option Addr) (c : Nat) (l : List WaitV) (k : SlK M WaitV.segs 28 ⟨a, c, l⟩) (hb : l.length ≤ 1000000) : Fh Tryz.prog 24 [.slice a l.length c] M [] (fun M' v Hout => M' = M ∧ OSl 54 28 v Hout (l.map WaitV.segs)) := by
  cases a with
  |none => exact CloneW_nil M c l k hb
  |some ad => exact CloneW_some M ad c l k hb

theorem Take_ok (M : Mem) (s : ServerV) (l : (Sl PeerV)) (r : Int) (frm : Int) (p : ParcelV) (hs0 : ServerV.ok M s) (hl1 : SlK M PeerV.segs 21 l) (hp2 : ParcelV.ok M p) (hb : s.waits.l.length ≤ 1000) : Esp.Fn Tryz.prog 11 [s.enc, Sl.val l, .int .i64 r, .int .i64 frm, p.enc] M (fun M' v => SrvE M' v (srvR s.pl l.l r frm p.pl)) := by
  obtain ⟨s_addr, s_epoch, ⟨s_store_a, s_store_c, s_store_l⟩, ⟨s_waits_a, s_waits_c, s_waits_l⟩, s_serial⟩ := s
  obtain ⟨l_a, l_c, l_l⟩ := l
  obtain ⟨p_kind, p_epoch, p_key, ⟨p_op_client, p_op_req, p_op_kind, p_op_version, p_op_val⟩, ⟨p_answer_code, p_answer_version, p_answer_has, p_answer_val⟩, p_serial, ⟨p_cell_version, p_cell_has, p_cell_val, ⟨p_cell_marks_a, p_cell_marks_c, p_cell_marks_l⟩⟩⟩ := p
  have k_s_store : SlK M HeldV.segs 24 ⟨s_store_a, s_store_c, s_store_l⟩ := hs0.h0
  have s_s_store : SlM M s_store_a (s_store_l.map HeldV.segs) 24 := k_s_store.h1
  have n_s_store : (s_store_l.map HeldV.segs).length = s_store_l.length := List.length_map ..
  have m_s_store : s_store_l.length ≤ 9223372036854775807 := k_s_store.h2
  have c_s_store : s_store_l.length ≤ s_store_c := k_s_store.h3
  have l_s_store : ∀ y ∈ s_store_l, HeldV.ok M y := hs0.h1
  have k_s_waits : SlK M WaitV.segs 28 ⟨s_waits_a, s_waits_c, s_waits_l⟩ := hs0.h2
  have s_s_waits : SlM M s_waits_a (s_waits_l.map WaitV.segs) 28 := k_s_waits.h1
  have n_s_waits : (s_waits_l.map WaitV.segs).length = s_waits_l.length := List.length_map ..
  have m_s_waits : s_waits_l.length ≤ 9223372036854775807 := k_s_waits.h2
  have c_s_waits : s_waits_l.length ≤ s_waits_c := k_s_waits.h3
  have l_s_waits : ∀ y ∈ s_waits_l, WaitV.ok M y := hs0.h3
  have k_l : SlK M PeerV.segs 21 ⟨l_a, l_c, l_l⟩ := hl1
  have s_l : SlM M l_a (l_l.map PeerV.segs) 21 := k_l.h1
  have n_l : (l_l.map PeerV.segs).length = l_l.length := List.length_map ..
  have m_l : l_l.length ≤ 9223372036854775807 := k_l.h2
  have c_l : l_l.length ≤ l_c := k_l.h3
  have k_p_cell : CellV.ok M ⟨p_cell_version, p_cell_has, p_cell_val, ⟨p_cell_marks_a, p_cell_marks_c, p_cell_marks_l⟩⟩ := hp2.h0
  have k_p_cell_marks : SlK M MarkV.segs 6 ⟨p_cell_marks_a, p_cell_marks_c, p_cell_marks_l⟩ := hp2.h0.h0
  have s_p_cell_marks : SlM M p_cell_marks_a (p_cell_marks_l.map MarkV.segs) 6 := k_p_cell_marks.h1
  have n_p_cell_marks : (p_cell_marks_l.map MarkV.segs).length = p_cell_marks_l.length := List.length_map ..
  have m_p_cell_marks : p_cell_marks_l.length ≤ 9223372036854775807 := k_p_cell_marks.h2
  have c_p_cell_marks : p_cell_marks_l.length ≤ p_cell_marks_c := k_p_cell_marks.h3
  simp only at hb
  show Esp.Fn _ _ _ _ (fun M' v => SrvE M' v (srvR (ServerV.pl ⟨s_addr, s_epoch, ⟨s_store_a, s_store_c, s_store_l⟩, ⟨s_waits_a, s_waits_c, s_waits_l⟩, s_serial⟩) l_l r frm (ParcelV.pl ⟨p_kind, p_epoch, p_key, ⟨p_op_client, p_op_req, p_op_kind, p_op_version, p_op_val⟩, ⟨p_answer_code, p_answer_version, p_answer_has, p_answer_val⟩, p_serial, ⟨p_cell_version, p_cell_has, p_cell_val, ⟨p_cell_marks_a, p_cell_marks_c, p_cell_marks_l⟩⟩⟩)))
  refine fn_enter Tryz.func11 rfl Tryz.ntmps11 rfl ?_; intro H
  refine C_seq ?_
  refine C_region (l := [0, 1, 2, 3, 4]) rfl ?_
  refine Y_box ?_; intro b1
  refine Y_box ?_; intro b2
  refine Y_alloc F.zero26 ?_; intro b3
  iterate 2 refine Y_assign ?_
  refine XD_end ?_
  refine K_then ?_
  refine Y_pk [12, 11, 10, 9, 5, 1, 2, 3] ?_
  iterate 2 refine C_seq ?_
  refine C_region (l := [0, 1, 2, 3, 4, 5, 6, 7, 8, 9, 10, 11, 12, 13, 14, 15, 16, 17, 18, 19, 20]) rfl ?_
  refine Y_load F.lay26 ?_
  refine X_fs rfl rfl F.ok14 rfl (SIs_ok _ ⟨s_addr, s_epoch, ⟨s_store_a, s_store_c, s_store_l⟩, ⟨s_waits_a, s_waits_c, s_waits_l⟩, s_serial⟩ hs0) rfl ?_
  rintro _ rfl
  refine Y_not ?_
  refine Y_move ?_
  refine XD_part 17 rfl (fun hc4 => ?_) (fun hc4 => ?_)
  ·replace hc4 := nT hc4
   iterate 3 refine Y_skip ?_
   refine Y_pick ?_
   refine Y_move ?_
   iterate 2 refine Y_skip ?_
   refine Y_pick ?_
   refine Y_move ?_
   iterate 2 refine Y_skip ?_
   refine Y_pick ?_
   refine Y_move ?_
   iterate 3 refine Y_skip ?_
   refine Y_pick ?_
   refine XD_end ?_
   refine K_then ?_
   refine Y_pk [34, 12, 11, 10, 9, 5, 1, 2, 3] ?_
   refine C_true rfl ?_
   refine C_seq ?_
   refine C_region (l := [0, 1, 2, 3]) rfl ?_
   refine X_build rfl rfl F.bld26 (.nil) rfl rfl ?_
   refine Y_store F.lay26 ?_
   iterate 2 refine Y_assign ?_
   refine XD_end ?_
   refine K_then ?_
   refine Y_pk [12, 11, 10, 9, 5, 1, 2, 3] ?_
   refine C_ret ?_
   refine K_ret ?_
   refine K_end (.inr rfl) (.cell rfl (by repeat first | exact List.Mem.head _ | refine List.Mem.tail _ ?_ | refine List.mem_append_right _ ?_) F.lay26 rfl rfl (.tmp rfl (.tmp rfl .nil))) (fun w hw => ?_)
   refine ⟨_, M, rfl, Mem.le.refl M, hw.c, ?_⟩
   rw [srvR_no (by rintro ⟨g1, g2, g3, g4⟩; first | contradiction | omega)]
   exact ⟨ServerV.zero, ⟨none, 0, []⟩, rfl, rfl, rfl, ServerV.zero_ok M, SlK.nil, fun y hy => by cases hy⟩
  ·replace hc4 := nF hc4
   refine Y_move ?_
   refine X_fs rfl rfl F.ok23 rfl (Circ_ok _ ⟨_, _, _⟩ (by assumption)) rfl ?_
   rintro _ rfl
   refine Y_not ?_
   refine Y_pick ?_
   refine Y_move ?_
   refine XD_part 22 rfl (fun hc5 => ?_) (fun hc5 => ?_)
   ·replace hc5 := nT hc5
    simp only [AnswerV.eta, MarkV.eta, CellV.eta, HeldV.eta, WaitV.eta, ServerV.eta, PeerV.eta, OpV.eta, ParcelV.eta, PostV.eta, WorkerV.eta] at hc5
    iterate 2 refine Y_skip ?_
    refine Y_pick ?_
    refine Y_move ?_
    iterate 2 refine Y_skip ?_
    refine Y_pick ?_
    refine Y_move ?_
    iterate 3 refine Y_skip ?_
    refine Y_pick ?_
    refine XD_end ?_
    refine K_then ?_
    refine Y_pk [34, 12, 11, 10, 9, 5, 1, 2, 3] ?_
    refine C_true rfl ?_
    refine C_seq ?_
    refine C_region (l := [0, 1, 2, 3]) rfl ?_
    refine X_build rfl rfl F.bld26 (.nil) rfl rfl ?_
    refine Y_store F.lay26 ?_
    iterate 2 refine Y_assign ?_
    refine XD_end ?_
    refine K_then ?_
    refine Y_pk [12, 11, 10, 9, 5, 1, 2, 3] ?_
    refine C_ret ?_
    refine K_ret ?_
    refine K_end (.inr rfl) (.cell rfl (by repeat first | exact List.Mem.head _ | refine List.Mem.tail _ ?_ | refine List.mem_append_right _ ?_) F.lay26 rfl rfl (.tmp rfl (.tmp rfl .nil))) (fun w hw => ?_)
    refine ⟨_, M, rfl, Mem.le.refl M, hw.c, ?_⟩
    rw [srvR_no (by rintro ⟨g1, g2, g3, g4⟩; first | contradiction | omega)]
    exact ⟨ServerV.zero, ⟨none, 0, []⟩, rfl, rfl, rfl, ServerV.zero_ok M, SlK.nil, fun y hy => by cases hy⟩
   ·replace hc5 := nF hc5
    simp only [AnswerV.eta, MarkV.eta, CellV.eta, HeldV.eta, WaitV.eta, ServerV.eta, PeerV.eta, OpV.eta, ParcelV.eta, PostV.eta, WorkerV.eta] at hc5
    refine Y_move ?_
    refine Y_cmp ?_
    refine Y_pick ?_
    refine Y_move ?_
    refine XD_part 26 rfl (fun hc6 => ?_) (fun hc6 => ?_)
    ·replace hc6 := dT hc6
     iterate 2 refine Y_skip ?_
     refine Y_pick ?_
     refine Y_move ?_
     iterate 3 refine Y_skip ?_
     refine Y_pick ?_
     refine XD_end ?_
     refine K_then ?_
     refine Y_pk [34, 12, 11, 10, 9, 5, 1, 2, 3] ?_
     refine C_true rfl ?_
     refine C_seq ?_
     refine C_region (l := [0, 1, 2, 3]) rfl ?_
     refine X_build rfl rfl F.bld26 (.nil) rfl rfl ?_
     refine Y_store F.lay26 ?_
     iterate 2 refine Y_assign ?_
     refine XD_end ?_
     refine K_then ?_
     refine Y_pk [12, 11, 10, 9, 5, 1, 2, 3] ?_
     refine C_ret ?_
     refine K_ret ?_
     refine K_end (.inr rfl) (.cell rfl (by repeat first | exact List.Mem.head _ | refine List.Mem.tail _ ?_ | refine List.mem_append_right _ ?_) F.lay26 rfl rfl (.tmp rfl (.tmp rfl .nil))) (fun w hw => ?_)
     refine ⟨_, M, rfl, Mem.le.refl M, hw.c, ?_⟩
     rw [srvR_no (by rintro ⟨g1, g2, g3, g4⟩; first | contradiction | omega)]
     exact ⟨ServerV.zero, ⟨none, 0, []⟩, rfl, rfl, rfl, ServerV.zero_ok M, SlK.nil, fun y hy => by cases hy⟩
    ·replace hc6 := dF hc6
     refine Y_move ?_
     refine Y_cmp ?_
     refine Y_pick ?_
     refine Y_move ?_
     refine XD_part 30 rfl (fun hc7 => ?_) (fun hc7 => ?_)
     ·replace hc7 := dT hc7
      iterate 3 refine Y_skip ?_
      refine Y_pick ?_
      refine XD_end ?_
      refine K_then ?_
      refine Y_pk [34, 12, 11, 10, 9, 5, 1, 2, 3] ?_
      refine C_true rfl ?_
      refine C_seq ?_
      refine C_region (l := [0, 1, 2, 3]) rfl ?_
      refine X_build rfl rfl F.bld26 (.nil) rfl rfl ?_
      refine Y_store F.lay26 ?_
      iterate 2 refine Y_assign ?_
      refine XD_end ?_
      refine K_then ?_
      refine Y_pk [12, 11, 10, 9, 5, 1, 2, 3] ?_
      refine C_ret ?_
      refine K_ret ?_
      refine K_end (.inr rfl) (.cell rfl (by repeat first | exact List.Mem.head _ | refine List.Mem.tail _ ?_ | refine List.mem_append_right _ ?_) F.lay26 rfl rfl (.tmp rfl (.tmp rfl .nil))) (fun w hw => ?_)
      refine ⟨_, M, rfl, Mem.le.refl M, hw.c, ?_⟩
      rw [srvR_no (by rintro ⟨g1, g2, g3, g4⟩; first | contradiction | omega)]
      exact ⟨ServerV.zero, ⟨none, 0, []⟩, rfl, rfl, rfl, ServerV.zero_ok M, SlK.nil, fun y hy => by cases hy⟩
     ·replace hc7 := dF hc7
      refine Y_load F.lay39 ?_
      refine X_fs rfl rfl F.ok18 rfl (pIs_ok _ ⟨_, _, _, ⟨_, _, _, _, _⟩, ⟨_, _, _, _⟩, _, ⟨_, _, _, ⟨_, _, _⟩⟩⟩ (by assumption)) rfl ?_
      rintro _ rfl
      refine Y_not ?_
      refine Y_pick ?_
      refine XD_end ?_
      refine K_then ?_
      refine Y_pk [34, 12, 11, 10, 9, 5, 1, 2, 3] ?_
      refine C_cond rfl (fun hc8 => ?_) (fun hc8 => ?_)
      ·replace hc8 := nT hc8
       refine C_seq ?_
       refine C_region (l := [0, 1, 2, 3]) rfl ?_
       refine X_build rfl rfl F.bld26 (.nil) rfl rfl ?_
       refine Y_store F.lay26 ?_
       iterate 2 refine Y_assign ?_
       refine XD_end ?_
       refine K_then ?_
       refine Y_pk [12, 11, 10, 9, 5, 1, 2, 3] ?_
       refine C_ret ?_
       refine K_ret ?_
       refine K_end (.inr rfl) (.cell rfl (by repeat first | exact List.Mem.head _ | refine List.Mem.tail _ ?_ | refine List.mem_append_right _ ?_) F.lay26 rfl rfl (.tmp rfl (.tmp rfl .nil))) (fun w hw => ?_)
       refine ⟨_, M, rfl, Mem.le.refl M, hw.c, ?_⟩
       rw [srvR_no (by rintro ⟨g1, g2, g3, g4⟩; first | contradiction | omega)]
       exact ⟨ServerV.zero, ⟨none, 0, []⟩, rfl, rfl, rfl, ServerV.zero_ok M, SlK.nil, fun y hy => by cases hy⟩
      ·replace hc8 := nF hc8
       refine C_skip ?_
       refine K_then ?_
       refine Y_pk [12, 11, 10, 9, 5, 1, 2, 3] ?_
       refine C_seq ?_
       have hA : TakeOk (ServerV.pl ⟨s_addr, s_epoch, ⟨s_store_a, s_store_c, s_store_l⟩, ⟨s_waits_a, s_waits_c, s_waits_l⟩, s_serial⟩) l_l r (ParcelV.pl ⟨p_kind, p_epoch, p_key, ⟨p_op_client, p_op_req, p_op_kind, p_op_version, p_op_val⟩, ⟨p_answer_code, p_answer_version, p_answer_has, p_answer_val⟩, p_serial, ⟨p_cell_version, p_cell_has, p_cell_val, ⟨p_cell_marks_a, p_cell_marks_c, p_cell_marks_l⟩⟩⟩) := ⟨by assumption, by assumption, ⟨by omega, by omega⟩, by assumption⟩
       refine C_region (l := [0, 1, 2, 3, 4]) rfl ?_
       refine Y_fieldAddr F.foff26_3 ?_
       refine Y_load F.lay24 ?_
       refine X_fhR rfl rfl F.ok24 rfl (CloneW_ok M s_waits_a s_waits_c s_waits_l k_s_waits (by omega)) (by repeat first | exact Rem.here _ | exact Rem.two | apply Rem.skip | apply Rem.over) (fun _ _ _ hm hw => (hw.lower (by exact hm)).c) (putE_some rfl) ?_
       rintro _ MX hs1 hmX ⟨hMX, ho1⟩
       subst MX
       clear hmX
       obtain ⟨ad1, cp1, rfl⟩ := ho1.valL
       refine Y_fieldAddr F.foff26_3 ?_
       refine Y_store F.lay24 ?_
       refine XD_end ?_
       refine K_then ?_
       refine Y_pk [12, 11, 10, 9, 5, 1, 2, 3] ?_
       refine C_seq ?_
       refine C_region (l := [0, 1, 2, 3, 4, 5]) rfl ?_
       refine Y_load F.lay26 ?_
       iterate 2 refine Y_move ?_
       refine X_build rfl rfl F.bld67 (.cons rfl (by constructor) (.cons rfl (by constructor) (.cons rfl (by constructor) .nil))) rfl rfl ?_
       refine Y_box ?_; intro b9
       refine Y_assign ?_
       refine XD_end ?_
       refine K_then ?_
       refine Y_pk [13, 12, 11, 10, 9, 5, 3] ?_
       iterate 2 refine C_seq ?_
       refine C_region (l := [0, 1, 2, 3, 4]) rfl ?_
       refine Y_fieldAddr F.foff39_1 ?_
       refine Y_load F.lay22 ?_
       refine Y_fieldAddr F.foff26_1 ?_
       refine Y_load F.lay22 ?_
       refine Y_cmp ?_
       refine XD_end ?_
       refine K_then ?_
       refine Y_pk [49, 13, 12, 11, 10, 9, 3] ?_
       refine C_cond rfl (fun hc10 => ?_) (fun hc10 => ?_)
       ·replace hc10 := nT hc10
        refine C_seq ?_
        refine C_region (l := [0, 1, 2, 3, 4, 5, 6]) rfl ?_
        refine Y_move ?_
        refine Y_nilCheck ?_
        refine Y_fieldAddr F.foff67_0 ?_
        refine Y_load F.lay26 ?_
        refine Y_store F.lay26 ?_
        iterate 2 refine Y_assign ?_
        refine XD_end ?_
        refine K_then ?_
        refine Y_pk [12, 11, 13, 10, 9, 3] ?_
        refine C_ret ?_
        refine K_ret ?_
        refine K_end (.inr rfl) (.cell rfl (by repeat first | exact List.Mem.head _ | refine List.Mem.tail _ ?_ | refine List.mem_append_right _ ?_) F.lay26 rfl rfl (.tmp rfl (.tmp rfl .nil))) (fun w hw => ?_)
        obtain ⟨M4, j4, j5, j6⟩ := OSl.frz (H := H) (l := s_waits_l) (f := WaitV.segs) ho1 (hw.c)
        refine ⟨_, M4, rfl, j4, j5, ?_⟩
        clear hw
        rw [srvR_ep (s := ServerV.pl ⟨s_addr, s_epoch, ⟨s_store_a, s_store_c, s_store_l⟩, ⟨s_waits_a, s_waits_c, s_waits_l⟩, s_serial⟩) (l := l_l) (r := r) (f := frm) (p := ParcelV.pl ⟨p_kind, p_epoch, p_key, ⟨p_op_client, p_op_req, p_op_kind, p_op_version, p_op_val⟩, ⟨p_answer_code, p_answer_version, p_answer_has, p_answer_val⟩, p_serial, ⟨p_cell_version, p_cell_has, p_cell_val, ⟨p_cell_marks_a, p_cell_marks_c, p_cell_marks_l⟩⟩⟩) hA (by show p_epoch ≠ s_epoch; omega)]
        exact ⟨⟨s_addr, s_epoch, ⟨s_store_a, s_store_c, s_store_l⟩, ⟨ad1, cp1, s_waits_l⟩, s_serial⟩, ⟨none, 0, []⟩, rfl, rfl, rfl, ⟨k_s_store.mono j4, fun h hh => (l_s_store h hh).mono j4, j6, fun h hh => (l_s_waits h hh).mono j4⟩, SlK.nil, fun y hy => by cases hy⟩
       ·replace hc10 := nF hc10
        refine C_skip ?_
        refine K_then ?_
        refine Y_pk [13, 12, 11, 10, 9, 3] ?_
        iterate 2 refine C_seq ?_
        refine C_region (l := [0, 1]) rfl ?_
        refine Y_fieldAddr F.foff39_0 ?_
        refine Y_load F.lay3 ?_
        refine XD_end ?_
        refine K_then ?_
        refine Y_pk [55, 13, 12, 11, 10, 9, 3] ?_
        refine C_block ?_
        refine C_seq ?_
        refine C_region (l := [0, 1]) rfl ?_
        refine Y_cmp ?_
        refine Y_assign ?_
        refine XD_end ?_
        refine K_then ?_
        refine Y_pk [56, 55, 13, 12, 11, 10, 9, 3] ?_
        refine C_cond rfl (fun hc11 => ?_) (fun hc11 => ?_)
        ·replace hc11 := dT hc11
         refine C_regionW (l := [0, 1, 2, 3, 4, 5]) [5] rfl ?_
         refine Y_move ?_
         refine Y_fieldAddr F.foff39_2 ?_
         refine Y_load F.lay29 ?_
         refine Y_fieldAddr F.foff39_3 ?_
         refine Y_load F.lay31 ?_
         refine X_fhW rfl rfl rfl F.ok25 rfl (request_ok M b9 s_addr s_epoch s_serial r s_store_a ad1 l_a s_store_c cp1 l_c s_store_l s_waits_l l_l hs1 ho1 hb l_s_waits k_s_store l_s_store k_l hA.2.1 hA.2.2.1 hA.1 ⟨p_kind, p_epoch, p_key, ⟨p_op_client, p_op_req, p_op_kind, p_op_version, p_op_val⟩, ⟨p_answer_code, p_answer_version, p_answer_has, p_answer_val⟩, p_serial, ⟨p_cell_version, p_cell_has, p_cell_val, ⟨p_cell_marks_a, p_cell_marks_c, p_cell_marks_l⟩⟩⟩ (prc_op hA.2.2.2 (by show p_kind = 1; omega))) (by repeat first | exact Rem.here _ | exact Rem.two | apply Rem.skip | apply Rem.over) (putE_some rfl) ?_
         rintro _ M2 Ho2 hm2 ⟨rfl, ⟨u_addr, u_epoch, ⟨u_sa, u_sc, u_sl⟩, ⟨u_wa, u_wc, u_wl⟩, u_serial⟩, ⟨o9_a, o9_c, o9_l⟩, ho9, hw9, rfl, hO9, hW9, hpl9, hpo9, k_9, l_9, w_9, p_9⟩
         simp only at hO9 hW9 hpl9 hpo9 k_9 l_9 w_9 p_9
         simp only [List.append_assoc, List.cons_append, List.nil_append]
         refine XD_end ?_
         refine K_unw ?_
         refine K_out ?_
         refine K_then ?_
         refine Y_pk [13, 12, 11, 10] ?_
         refine C_seq ?_
         refine C_region_anyWR (l := [0, 1, 2, 3, 4, 5, 6, 7, 8, 9, 10]) (Hin := [(b3, _)]) [8] #[0, 1, 3, 7, 0, 16, 48, 112, 15, 511, 1023] (by repeat first | exact Rem.here _ | exact Rem.two | apply Rem.skip | apply Rem.over) rfl (by kernel_rfl) (by kernel_rfl) ?_
         refine Y_move ?_
         refine Y_nilCheck ?_
         refine Y_fieldAddr F.foff67_0 ?_
         refine Y_load F.lay26 ?_
         refine Y_move ?_
         refine Y_nilCheck ?_
         refine Y_fieldAddr F.foff67_3 ?_
         refine Y_load F.lay43 ?_
         refine X_storeE rfl rfl rfl rfl rfl (by constructor) (by ((try simp only [cat, List.cons_append, List.nil_append, List.append_nil]); (repeat (first | exact flat_nil | refine flat_id ?_ | (refine flat_one ?_ ?_; rfl))); done)) (by repeat first | exact Upd.head | apply Upd.tail | apply Upd.over) F.lay26 rfl rfl (fun _ h => h.c) ?_
         iterate 2 refine Y_assign ?_
         refine XD_end ?_
         refine K_unw ?_
         refine K_then ?_
         refine Y_pk [12, 11, 10] ?_
         refine C_ret ?_
         refine K_end (.inr rfl) (.cell rfl (by repeat first | exact List.Mem.head _ | refine List.Mem.tail _ ?_ | refine List.mem_append_right _ ?_) F.lay26 rfl rfl (.tmp rfl (.tmp rfl .nil))) (fun w hw => ?_)
         obtain ⟨M3, j1, j2, j3⟩ := OSl.frz (H := hw9 ++ H) (l := o9_l) (f := PostV.segs) hO9 (hw.c)
         obtain ⟨M4, j4, j5, j6⟩ := OSl.frz (H := H) (l := u_wl) (f := WaitV.segs) hW9 j2
         refine ⟨_, M4, rfl, hm2.trans (j1.trans j4), j5, ?_⟩
         clear hw
         rw [srvR_req (s := ServerV.pl ⟨s_addr, s_epoch, ⟨s_store_a, s_store_c, s_store_l⟩, ⟨s_waits_a, s_waits_c, s_waits_l⟩, s_serial⟩) (l := l_l) (r := r) (f := frm) (p := ParcelV.pl ⟨p_kind, p_epoch, p_key, ⟨p_op_client, p_op_req, p_op_kind, p_op_version, p_op_val⟩, ⟨p_answer_code, p_answer_version, p_answer_has, p_answer_val⟩, p_serial, ⟨p_cell_version, p_cell_has, p_cell_val, ⟨p_cell_marks_a, p_cell_marks_c, p_cell_marks_l⟩⟩⟩) hA (by show p_epoch = s_epoch; omega) (by show p_kind = 1; omega)]
         exact ⟨⟨u_addr, u_epoch, ⟨u_sa, u_sc, u_sl⟩, ⟨u_wa, u_wc, u_wl⟩, u_serial⟩, ⟨o9_a, o9_c, o9_l⟩, rfl, hpl9, hpo9, ⟨k_9.mono (j1.trans j4), fun h hh => (l_9 h hh).mono (j1.trans j4), j6, fun h hh => (w_9 h hh).mono (j1.trans j4)⟩, j3.mono j4, fun y hy => (p_9 y hy).mono (j1.trans j4)⟩
        ·replace hc11 := dF hc11
         refine C_seq ?_
         refine C_region (l := [0, 1]) rfl ?_
         refine Y_cmp ?_
         refine Y_assign ?_
         refine XD_end ?_
         refine K_then ?_
         refine Y_pk [64, 55, 13, 12, 11, 10, 9, 3] ?_
         refine C_cond rfl (fun hc12 => ?_) (fun hc12 => ?_)
         ·replace hc12 := dT hc12
          refine C_regionW (l := [0, 1, 2, 3]) [3] rfl ?_
          iterate 2 refine Y_move ?_
          refine Y_load F.lay39 ?_
          refine X_fhW rfl rfl rfl F.ok26 rfl (copy_ok9 M b9 s_addr s_epoch s_serial r s_store_a ad1 l_a s_store_c cp1 l_c s_store_l s_waits_l l_l hs1 ho1 hb l_s_waits k_s_store l_s_store frm ⟨p_kind, p_epoch, p_key, ⟨p_op_client, p_op_req, p_op_kind, p_op_version, p_op_val⟩, ⟨p_answer_code, p_answer_version, p_answer_has, p_answer_val⟩, p_serial, ⟨p_cell_version, p_cell_has, p_cell_val, ⟨p_cell_marks_a, p_cell_marks_c, p_cell_marks_l⟩⟩⟩ hp2.h0) (by repeat first | exact Rem.here _ | exact Rem.two | apply Rem.skip | apply Rem.over) (putE_some rfl) ?_
          rintro _ M2 Ho2 hm2 ⟨rfl, ⟨u_addr, u_epoch, ⟨u_sa, u_sc, u_sl⟩, ⟨u_wa, u_wc, u_wl⟩, u_serial⟩, ⟨o9_a, o9_c, o9_l⟩, ho9, hw9, rfl, hO9, hW9, hpl9, hpo9, k_9, l_9, w_9, p_9⟩
          simp only at hO9 hW9 hpl9 hpo9 k_9 l_9 w_9 p_9
          simp only [List.append_assoc, List.cons_append, List.nil_append]
          refine XD_end ?_
          refine K_unw ?_
          refine K_out ?_
          refine K_then ?_
          refine Y_pk [13, 12, 11, 10] ?_
          refine C_seq ?_
          refine C_region_anyWR (l := [0, 1, 2, 3, 4, 5, 6, 7, 8, 9, 10]) (Hin := [(b3, _)]) [8] #[0, 1, 3, 7, 0, 16, 48, 112, 15, 511, 1023] (by repeat first | exact Rem.here _ | exact Rem.two | apply Rem.skip | apply Rem.over) rfl (by kernel_rfl) (by kernel_rfl) ?_
          refine Y_move ?_
          refine Y_nilCheck ?_
          refine Y_fieldAddr F.foff67_0 ?_
          refine Y_load F.lay26 ?_
          refine Y_move ?_
          refine Y_nilCheck ?_
          refine Y_fieldAddr F.foff67_3 ?_
          refine Y_load F.lay43 ?_
          refine X_storeE rfl rfl rfl rfl rfl (by constructor) (by ((try simp only [cat, List.cons_append, List.nil_append, List.append_nil]); (repeat (first | exact flat_nil | refine flat_id ?_ | (refine flat_one ?_ ?_; rfl))); done)) (by repeat first | exact Upd.head | apply Upd.tail | apply Upd.over) F.lay26 rfl rfl (fun _ h => h.c) ?_
          iterate 2 refine Y_assign ?_
          refine XD_end ?_
          refine K_unw ?_
          refine K_then ?_
          refine Y_pk [12, 11, 10] ?_
          refine C_ret ?_
          refine K_end (.inr rfl) (.cell rfl (by repeat first | exact List.Mem.head _ | refine List.Mem.tail _ ?_ | refine List.mem_append_right _ ?_) F.lay26 rfl rfl (.tmp rfl (.tmp rfl .nil))) (fun w hw => ?_)
          obtain ⟨M3, j1, j2, j3⟩ := OSl.frz (H := hw9 ++ H) (l := o9_l) (f := PostV.segs) hO9 (hw.c)
          obtain ⟨M4, j4, j5, j6⟩ := OSl.frz (H := H) (l := u_wl) (f := WaitV.segs) hW9 j2
          refine ⟨_, M4, rfl, hm2.trans (j1.trans j4), j5, ?_⟩
          clear hw
          rw [srvR_copy (s := ServerV.pl ⟨s_addr, s_epoch, ⟨s_store_a, s_store_c, s_store_l⟩, ⟨s_waits_a, s_waits_c, s_waits_l⟩, s_serial⟩) (l := l_l) (r := r) (f := frm) (p := ParcelV.pl ⟨p_kind, p_epoch, p_key, ⟨p_op_client, p_op_req, p_op_kind, p_op_version, p_op_val⟩, ⟨p_answer_code, p_answer_version, p_answer_has, p_answer_val⟩, p_serial, ⟨p_cell_version, p_cell_has, p_cell_val, ⟨p_cell_marks_a, p_cell_marks_c, p_cell_marks_l⟩⟩⟩) hA (by show p_epoch = s_epoch; omega) (by show p_kind = 3; omega)]
          exact ⟨⟨u_addr, u_epoch, ⟨u_sa, u_sc, u_sl⟩, ⟨u_wa, u_wc, u_wl⟩, u_serial⟩, ⟨o9_a, o9_c, o9_l⟩, rfl, hpl9, hpo9, ⟨k_9.mono (j1.trans j4), fun h hh => (l_9 h hh).mono (j1.trans j4), j6, fun h hh => (w_9 h hh).mono (j1.trans j4)⟩, j3.mono j4, fun y hy => (p_9 y hy).mono (j1.trans j4)⟩
         ·replace hc12 := dF hc12
          refine C_seq ?_
          refine C_region (l := [0, 1]) rfl ?_
          refine Y_cmp ?_
          refine Y_assign ?_
          refine XD_end ?_
          refine K_then ?_
          refine Y_pk [70, 13, 12, 11, 10, 9, 3] ?_
          refine C_cond rfl (fun hc13 => ?_) (fun hc13 => ?_)
          ·replace hc13 := dT hc13
           refine C_regionW (l := [0, 1, 2, 3, 4]) [4] rfl ?_
           iterate 2 refine Y_move ?_
           refine Y_fieldAddr F.foff39_5 ?_
           refine Y_load F.lay22 ?_
           refine X_fhW rfl rfl rfl F.ok27 rfl (copied_ok9 M b9 s_addr s_epoch s_serial r s_store_a ad1 l_a s_store_c cp1 l_c s_store_l s_waits_l l_l hs1 ho1 hb l_s_waits k_s_store l_s_store hA.1 frm p_serial) (by repeat first | exact Rem.here _ | exact Rem.two | apply Rem.skip | apply Rem.over) (putE_some rfl) ?_
           rintro _ M2 Ho2 hm2 ⟨rfl, ⟨u_addr, u_epoch, ⟨u_sa, u_sc, u_sl⟩, ⟨u_wa, u_wc, u_wl⟩, u_serial⟩, ⟨o9_a, o9_c, o9_l⟩, ho9, hw9, rfl, hO9, hW9, hpl9, hpo9, k_9, l_9, w_9, p_9⟩
           simp only at hO9 hW9 hpl9 hpo9 k_9 l_9 w_9 p_9
           simp only [List.append_assoc, List.cons_append, List.nil_append]
           refine XD_end ?_
           refine K_unw ?_
           refine K_out ?_
           refine K_then ?_
           refine Y_pk [13, 12, 11, 10] ?_
           refine C_seq ?_
           refine C_region_anyWR (l := [0, 1, 2, 3, 4, 5, 6, 7, 8, 9, 10]) (Hin := [(b3, _)]) [8] #[0, 1, 3, 7, 0, 16, 48, 112, 15, 511, 1023] (by repeat first | exact Rem.here _ | exact Rem.two | apply Rem.skip | apply Rem.over) rfl (by kernel_rfl) (by kernel_rfl) ?_
           refine Y_move ?_
           refine Y_nilCheck ?_
           refine Y_fieldAddr F.foff67_0 ?_
           refine Y_load F.lay26 ?_
           refine Y_move ?_
           refine Y_nilCheck ?_
           refine Y_fieldAddr F.foff67_3 ?_
           refine Y_load F.lay43 ?_
           refine X_storeE rfl rfl rfl rfl rfl (by constructor) (by ((try simp only [cat, List.cons_append, List.nil_append, List.append_nil]); (repeat (first | exact flat_nil | refine flat_id ?_ | (refine flat_one ?_ ?_; rfl))); done)) (by repeat first | exact Upd.head | apply Upd.tail | apply Upd.over) F.lay26 rfl rfl (fun _ h => h.c) ?_
           iterate 2 refine Y_assign ?_
           refine XD_end ?_
           refine K_unw ?_
           refine K_then ?_
           refine Y_pk [12, 11, 10] ?_
           refine C_ret ?_
           refine K_end (.inr rfl) (.cell rfl (by repeat first | exact List.Mem.head _ | refine List.Mem.tail _ ?_ | refine List.mem_append_right _ ?_) F.lay26 rfl rfl (.tmp rfl (.tmp rfl .nil))) (fun w hw => ?_)
           obtain ⟨M3, j1, j2, j3⟩ := OSl.frz (H := hw9 ++ H) (l := o9_l) (f := PostV.segs) hO9 (hw.c)
           obtain ⟨M4, j4, j5, j6⟩ := OSl.frz (H := H) (l := u_wl) (f := WaitV.segs) hW9 j2
           refine ⟨_, M4, rfl, hm2.trans (j1.trans j4), j5, ?_⟩
           clear hw
           rw [srvR_copied (s := ServerV.pl ⟨s_addr, s_epoch, ⟨s_store_a, s_store_c, s_store_l⟩, ⟨s_waits_a, s_waits_c, s_waits_l⟩, s_serial⟩) (l := l_l) (r := r) (f := frm) (p := ParcelV.pl ⟨p_kind, p_epoch, p_key, ⟨p_op_client, p_op_req, p_op_kind, p_op_version, p_op_val⟩, ⟨p_answer_code, p_answer_version, p_answer_has, p_answer_val⟩, p_serial, ⟨p_cell_version, p_cell_has, p_cell_val, ⟨p_cell_marks_a, p_cell_marks_c, p_cell_marks_l⟩⟩⟩) hA (by show p_epoch = s_epoch; omega) (by show p_kind = 4; omega)]
           exact ⟨⟨u_addr, u_epoch, ⟨u_sa, u_sc, u_sl⟩, ⟨u_wa, u_wc, u_wl⟩, u_serial⟩, ⟨o9_a, o9_c, o9_l⟩, rfl, hpl9, hpo9, ⟨k_9.mono (j1.trans j4), fun h hh => (l_9 h hh).mono (j1.trans j4), j6, fun h hh => (w_9 h hh).mono (j1.trans j4)⟩, j3.mono j4, fun y hy => (p_9 y hy).mono (j1.trans j4)⟩
          ·replace hc13 := dF hc13
           refine C_skip ?_
           refine K_out ?_
           refine K_then ?_
           refine Y_pk [13, 12, 11, 10] ?_
           refine C_seq ?_
           refine C_region_anyWR (l := [0, 1, 2, 3, 4, 5, 6, 7, 8, 9, 10]) (Hin := [(b3, _)]) [8] #[0, 1, 3, 7, 0, 16, 48, 112, 15, 511, 1023] (by repeat first | exact Rem.here _ | exact Rem.two | apply Rem.skip | apply Rem.over) rfl (by kernel_rfl) (by kernel_rfl) ?_
           refine Y_move ?_
           refine Y_nilCheck ?_
           refine Y_fieldAddr F.foff67_0 ?_
           refine Y_load F.lay26 ?_
           refine Y_move ?_
           refine Y_nilCheck ?_
           refine Y_fieldAddr F.foff67_3 ?_
           refine Y_load F.lay43 ?_
           refine X_storeE rfl rfl rfl rfl rfl (by constructor) (by ((try simp only [cat, List.cons_append, List.nil_append, List.append_nil]); (repeat (first | exact flat_nil | refine flat_id ?_ | (refine flat_one ?_ ?_; rfl))); done)) (by repeat first | exact Upd.head | apply Upd.tail | apply Upd.over) F.lay26 rfl rfl (fun _ h => h.c) ?_
           iterate 2 refine Y_assign ?_
           refine XD_end ?_
           refine K_unw ?_
           refine K_then ?_
           refine Y_pk [12, 11, 10] ?_
           refine C_ret ?_
           refine K_end (.inr rfl) (.cell rfl (by repeat first | exact List.Mem.head _ | refine List.Mem.tail _ ?_ | refine List.mem_append_right _ ?_) F.lay26 rfl rfl (.tmp rfl (.tmp rfl .nil))) (fun w hw => ?_)
           obtain ⟨M4, j4, j5, j6⟩ := OSl.frz (H := H) (l := s_waits_l) (f := WaitV.segs) ho1 (hw.c)
           refine ⟨_, M4, rfl, j4, j5, ?_⟩
           clear hw
           rw [srvR_else (s := ServerV.pl ⟨s_addr, s_epoch, ⟨s_store_a, s_store_c, s_store_l⟩, ⟨s_waits_a, s_waits_c, s_waits_l⟩, s_serial⟩) (l := l_l) (r := r) (f := frm) (p := ParcelV.pl ⟨p_kind, p_epoch, p_key, ⟨p_op_client, p_op_req, p_op_kind, p_op_version, p_op_val⟩, ⟨p_answer_code, p_answer_version, p_answer_has, p_answer_val⟩, p_serial, ⟨p_cell_version, p_cell_has, p_cell_val, ⟨p_cell_marks_a, p_cell_marks_c, p_cell_marks_l⟩⟩⟩) hA (by show p_epoch = s_epoch; omega) (by show ¬ p_kind = 1; omega) (by show ¬ p_kind = 3; omega) (by show ¬ p_kind = 4; omega)]
           exact ⟨⟨s_addr, s_epoch, ⟨s_store_a, s_store_c, s_store_l⟩, ⟨ad1, cp1, s_waits_l⟩, s_serial⟩, ⟨none, 0, []⟩, rfl, rfl, rfl, ⟨k_s_store.mono j4, fun h hh => (l_s_store h hh).mono j4, j6, fun h hh => (l_s_waits h hh).mono j4⟩, SlK.nil, fun y hy => by cases hy⟩

end Go.Proofs.YtpkeilhilpogiaaGreat
/-
  Small places.
-/
set_option linter.unusedSimpArgs false
set_option linter.unusedVariables false
set_option linter.unnecessarySimpa false
namespace Go.Esp
/-- A small number's place. -/
def smallP (n : Int) : Plc := ofBytes fun i => if i = 19 then (n % 256).toNat else if i = 18 then (n / 256 % 256).toNat else 0
theorem smallP_lt (n : Int) : ∀ i, (if i = 19 then (n % 256).toNat else if i = 18 then (n / 256 % 256).toNat else 0) < 256 := fun i => by
  split
  · omega
  · split
    · omega
    · decide
theorem idV0 {i : Nat} (h : i < 20) : (idV 0)[i] = .int .u8 0 := by rw [idV_get _ h]; simp [idB]
theorem small_seg (n : Int) : idV (smallP n) = ((idV 0).set 19 (.int .u8 (n % 256))).set 18 (.int .u8 (n / 256 % 256)) := by
  apply Vector.ext
  intro i hi
  rw [idV_get _ hi]
  unfold smallP
  rw [idB_ofBytes (smallP_lt n) hi]
  by_cases e8 : i = 18
  · subst e8
    rw [Vector.getElem_set_self]
    simp
    omega
  · rw [Vector.getElem_set_ne _ _ (Ne.symm e8)]
    by_cases e9 : i = 19
    · subst e9
      rw [Vector.getElem_set_self]
      simp
      omega
    · rw [Vector.getElem_set_ne _ _ (Ne.symm e9), idV0 hi]
      simp [e8, e9]

/-! The document's example. -/
end Go.Esp
/-
  A circle of two, by the models: what each parcel does.
-/
set_option linter.unusedSimpArgs false
set_option linter.unusedVariables false
set_option linter.unnecessarySimpa false
namespace Go.Esp
def sl2 : List PeerV := [⟨1, 10#160⟩, ⟨2, 20#160⟩]
def scA : AnswerV := ⟨0, 1, true, ⟨#[]⟩⟩
def sc1 : Cel := ⟨1, true, ⟨#[97]⟩, [⟨3, 1, scA⟩]⟩
def sp1 : Prc := ⟨1, 0, 5#160, ⟨3, 1, 2, 0, ⟨#[97]⟩⟩, AnswerV.zero, 0, Cel.zero⟩
def sA : Srv := ⟨1, 0, [⟨5#160, sc1⟩], [⟨5#160, 3, 1, scA, 1, [2]⟩], 1⟩
def sX : Pst := ⟨2, ⟨3, 0, 5#160, OpV.zero, AnswerV.zero, 1, sc1⟩⟩
def sB : Srv := ⟨2, 0, [⟨5#160, sc1⟩], [], 0⟩
def sY : Pst := ⟨1, ⟨4, 0, 0, OpV.zero, AnswerV.zero, 1, Cel.zero⟩⟩
def sC : Srv := ⟨1, 0, [⟨5#160, sc1⟩], [], 1⟩
def sZ : Pst := ⟨1003, ⟨2, 0, 0, ⟨3, 1, 0, 0, ⟨#[]⟩⟩, scA, 0, Cel.zero⟩⟩
theorem xs5 : smallP 5 = 5#160 := by kernel_rfl
theorem xs10 : smallP 10 = 10#160 := by kernel_rfl
theorem xs20 : smallP 20 = 20#160 := by kernel_rfl
theorem se1 : srvR ⟨1, 0, [], [], 0⟩ sl2 2 1003 sp1 = (sA, [sX], 0) := by kernel_rfl
theorem se2 : srvR ⟨2, 0, [], [], 0⟩ sl2 2 1 sX.parcel = (sB, [sY], 0) := by kernel_rfl
theorem se3 : srvR sA sl2 2 2 sY.parcel = (sC, [sZ], 0) := by kernel_rfl
theorem se4 : findP sB.store 5#160 = (sc1, true) := by kernel_rfl
theorem se5 : IsSrv sC := of_decide_eq_true (by kernel_rfl)
theorem pst_one {l : List PostV} {p : Pst} (h : pstl l = [p]) : ∃ y, l = [y] ∧ y.pl = p := by
  unfold pstl at h
  obtain ⟨y, rfl, hy⟩ := List.map_eq_singleton_iff.1 h
  exact ⟨y, rfl, hy⟩
end Go.Esp
/-
  The example of the document.
-/
set_option linter.unusedSimpArgs false
set_option linter.unusedVariables false
set_option linter.unnecessarySimpa false
set_option maxRecDepth 8000
set_option maxHeartbeats 1000000
namespace Go.Proofs.YtpkeilhilpogiaaGreat
open Go.Esp
theorem F.bld80 : Bld Tryz.prog 80 [[.one (.int .i64 0)], [idSeg 0]] := by rw [idSeg0]; exact ⟨by kernel_rfl, by kernel_rfl⟩
theorem F.ok11 : okFn Tryz.prog 11 = true := by kernel_rfl
theorem F.ok35 : okFn Tryz.prog 35 = true := by kernel_rfl

theorem Small_ok (M : Mem) (n : Int) (hn : 0 ≤ n ∧ n ≤ 1000000) : Fs Tryz.prog 35 [.int .i64 n] M (fun v => v = (fun x => aggV [idSeg x]) (smallP n)) := by
  refine fs_enter Tryz.func35 rfl Tryz.ntmps35 rfl ?_; intro H
  refine C_seq ?_
  refine C_region (l := [0]) rfl ?_
  refine Y_alloc F.zero29 ?_; intro b1
  refine XD_end ?_
  refine K_then ?_
  refine C_seq ?_
  refine C_region (l := [0]) rfl ?_
  refine Y_alloc F.zero29 ?_; intro b2
  refine XD_end ?_
  refine K_then ?_
  refine C_seq ?_
  refine C_region (l := [0, 1, 2, 3, 4]) rfl ?_
  refine Y_move ?_
  refine X_rem rfl rfl rfl rfl (by decide) (by exact rem_nn (by omega)) rfl ?_
  refine X_conv rfl rfl rfl Tryz.underlying3 Tryz.underlying5 (by exact wrap_u8_in (by decide) (by omega)) rfl ?_
  refine X_indexAddr_arr rfl rfl rfl rfl F.arr29 (by rfl) (by decide) rfl ?_
  refine X_store_cell rfl rfl rfl rfl rfl rfl (by repeat first | exact Upd.head | apply Upd.tail | apply Upd.over) F.lay5 (arr_len (by decide)) (arr_set (by decide)) ?_
  refine XD_end ?_
  refine K_then ?_
  refine Y_pk [3, 2, 0] ?_
  refine C_seq ?_
  refine C_region (l := [0, 1, 2, 3, 4, 5]) rfl ?_
  refine Y_move ?_
  refine X_quo rfl rfl rfl rfl (by decide) (by exact quo_in rfl (by omega) (by omega) (by omega)) rfl ?_
  refine X_rem rfl rfl rfl rfl (by decide) (by exact rem_nn (by omega)) rfl ?_
  refine X_conv rfl rfl rfl Tryz.underlying3 Tryz.underlying5 (by exact wrap_u8_in (by decide) (by omega)) rfl ?_
  refine X_indexAddr_arr rfl rfl rfl rfl F.arr29 (by rfl) (by decide) rfl ?_
  refine X_store_cell rfl rfl rfl rfl rfl rfl (by repeat first | exact Upd.head | apply Upd.tail | apply Upd.over) F.lay5 (arr_len (by decide)) (arr_set (by decide)) ?_
  refine XD_end ?_
  refine K_then ?_
  refine Y_pk [3, 2] ?_
  refine C_seq ?_
  refine C_region (l := [0, 1]) rfl ?_
  refine Y_load F.lay29 ?_
  refine XD_is 13 rfl (show aggV [.arr 20 _] = aggV [idSeg (smallP n)] from by unfold idSeg; rw [small_seg]) ?_
  refine Y_store F.lay29 ?_
  refine XD_end ?_
  refine K_then ?_
  refine Y_pk [2] ?_
  refine C_ret ?_
  refine K_end (.inr rfl) (.cell rfl (by repeat first | exact List.Mem.head _ | refine List.Mem.tail _ ?_ | refine List.mem_append_right _ ?_) F.lay29 rfl rfl .nil) (fun w hw => ?_)
  refine ⟨_, rfl, (hw.c), ?_⟩
  clear hw
  rfl

theorem small5_ok (M : Mem) : Fs Tryz.prog 35 [.int .i64 5] M (fun v => v = aggV [idSeg 5#160]) := by
  have h := Small_ok M 5 (by decide)
  rw [xs5] at h
  exact h

theorem small10_ok (M : Mem) : Fs Tryz.prog 35 [.int .i64 10] M (fun v => v = aggV [idSeg 10#160]) := by
  have h := Small_ok M 10 (by decide)
  rw [xs10] at h
  exact h

theorem small20_ok (M : Mem) : Fs Tryz.prog 35 [.int .i64 20] M (fun v => v = aggV [idSeg 20#160]) := by
  have h := Small_ok M 20 (by decide)
  rw [xs20] at h
  exact h

theorem served_ok (M : Mem) : Esp.Fn Tryz.prog 13 [] M (fun _ v => v = .bool true) := by
  refine fn_enter Tryz.func13 rfl Tryz.ntmps13 rfl ?_; intro H
  refine C_seq ?_
  refine C_region (l := [0]) rfl ?_
  refine Y_assign ?_
  refine XD_end ?_
  refine K_then ?_
  refine C_seq ?_
  refine C_region (l := [0, 1, 2, 3, 4, 5]) rfl ?_
  refine X_fs rfl rfl F.ok35 rfl (small10_ok _) rfl ?_
  rintro _ rfl
  refine X_build rfl rfl F.bld80 (.cons rfl (by constructor) (.cons rfl (by constructor) .nil)) rfl rfl ?_
  refine X_fs rfl rfl F.ok35 rfl (small20_ok _) rfl ?_
  rintro _ rfl
  refine X_build rfl rfl F.bld80 (.cons rfl (by constructor) (.cons rfl (by constructor) .nil)) rfl rfl ?_
  refine X_buildSliceF rfl rfl F.elem27 F.zero80 rfl rfl (.cons rfl (by constructor) (.cons rfl (by constructor) .nil)) rfl rfl (by simp only [List.map_cons, List.map_nil] <;> rfl) rfl ?_; intro b1 hob2
  refine Y_assign ?_
  refine XD_end ?_
  refine K_then ?_
  refine Y_pk [1, 0] ?_
  refine C_seq ?_
  refine C_frz (f := PeerV.segs) (l := sl2) (show OSl 80 21 (.slice _ 2 2) _ (sl2.map PeerV.segs) from hob2) (by repeat first | exact Rem.here _ | exact Rem.two | apply Rem.skip | apply Rem.over) (fun M1 hm1 k_l => ?_)
  refine C_region (l := [0, 1, 2]) rfl ?_
  refine X_fs rfl rfl F.ok35 rfl (small5_ok _) rfl ?_
  rintro _ rfl
  refine Y_alloc F.zero29 ?_; intro b3
  refine Y_store F.lay29 ?_
  refine XD_end ?_
  refine K_then ?_
  refine Y_pk [2, 1, 0] ?_
  refine C_seq ?_
  refine C_region (l := [0, 1, 2, 3, 4]) rfl ?_
  refine Y_load F.lay29 ?_
  refine X_build rfl rfl F.bld31 (.cons rfl (by constructor) (.cons rfl (by constructor) (.cons rfl (by constructor) (.cons rfl (by constructor) .nil)))) rfl rfl ?_
  refine X_build rfl rfl F.bld39 (.cons rfl (by constructor) (.cons rfl (by constructor) (.cons rfl (by constructor) .nil))) rfl rfl ?_
  refine Y_alloc F.zero39 ?_; intro b4
  refine Y_store F.lay39 ?_
  refine XD_end ?_
  refine K_then ?_
  refine Y_pk [3, 2, 1, 0] ?_
  refine C_seq ?_
  refine C_region (l := [0, 1, 2, 3, 4, 5, 6, 7, 8, 9, 10, 11]) rfl ?_
  refine X_build rfl rfl F.bld26 (.cons rfl (by constructor) .nil) rfl rfl ?_
  refine Y_move ?_
  refine Y_load F.lay39 ?_
  refine X_fn rfl rfl F.ok11 rfl (Take_ok M1 ⟨1, 0, ⟨none, 0, []⟩, ⟨none, 0, []⟩, 0⟩ ⟨_, 2, sl2⟩ 2 1003 ⟨1, 0, 5#160, ⟨3, 1, 2, 0, ⟨#[97]⟩⟩, AnswerV.zero, 0, CellV.zero⟩ ⟨SlK.nil, (fun y hy => by cases hy), SlK.nil, (fun y hy => by cases hy)⟩ k_l ⟨CellV.zero_ok _⟩ (by show 0 ≤ 1000; omega)) rfl ?_
  rintro _ M2 hm2 hv
  replace hv : SrvE _ _ (srvR ⟨1, 0, [], [], 0⟩ sl2 2 1003 sp1) := hv
  rw [se1] at hv
  obtain ⟨⟨a_addr, a_epoch, ⟨a_sa, a_sc, a_sl⟩, ⟨a_wa, a_wc, a_wl⟩, a_serial⟩, ⟨x_pa, x_pc, x_pl⟩, rfl, ha, hpx, ok_a, k_x, l_x⟩ := hv
  simp only at ha hpx l_x
  obtain ⟨⟨x_to, ⟨x_kind, x_epoch, x_key, ⟨x_oc, x_or, x_ok, x_ov, x_os⟩, ⟨x_ac, x_av, x_ah, x_as⟩, x_serial, ⟨x_cv, x_ch, x_cs, ⟨x_ma, x_mc, x_ml⟩⟩⟩⟩, rfl, hxx⟩ := pst_one hpx
  have s_x := k_x.h1
  simp only at s_x
  have hparx : ParcelV.pl ⟨x_kind, x_epoch, x_key, ⟨x_oc, x_or, x_ok, x_ov, x_os⟩, ⟨x_ac, x_av, x_ah, x_as⟩, x_serial, ⟨x_cv, x_ch, x_cs, ⟨x_ma, x_mc, x_ml⟩⟩⟩ = sX.parcel := congrArg Pst.parcel hxx
  have n_x : [(⟨x_to, ⟨x_kind, x_epoch, x_key, ⟨x_oc, x_or, x_ok, x_ov, x_os⟩, ⟨x_ac, x_av, x_ah, x_as⟩, x_serial, ⟨x_cv, x_ch, x_cs, ⟨x_ma, x_mc, x_ml⟩⟩⟩⟩ : PostV)].length = 1 := rfl
  obtain rfl : x_to = 2 := congrArg Pst.to hxx
  have hxk : x_kind = 3 := congrArg (fun p : Pst => p.parcel.kind) hxx
  have hawl : a_wl.length = 1 := by rw [← wtl_len]; exact congrArg (fun s : Srv => s.waits.length) ha
  refine Y_move ?_
  iterate 3 refine Y_extract ?_
  refine Y_alloc F.zero26 ?_; intro b5
  refine Y_store F.lay26 ?_
  iterate 2 refine Y_assign ?_
  refine XD_end ?_
  refine K_then ?_
  refine Y_pk [6, 5, 4, 2, 1, 0] ?_
  iterate 2 refine C_seq ?_
  refine C_region (l := [0, 1, 2, 3, 4, 5, 6, 7, 8, 9, 10, 11, 12, 13, 14, 15, 16, 17, 18, 19, 20, 21, 22, 23, 24, 25, 26, 27]) rfl ?_
  refine Y_move ?_
  refine Y_cmp ?_
  refine Y_move ?_
  refine XD_part 34 rfl (fun hc6 => ?_) (fun hc6 => ?_)
  ·replace hc6 := nT hc6
   simp only [AnswerV.eta, MarkV.eta, CellV.eta, HeldV.eta, WaitV.eta, ServerV.eta, PeerV.eta, OpV.eta, ParcelV.eta, PostV.eta, WorkerV.eta] at hc6
   (exfalso; simp [eqX] at hc6; done)
  ·replace hc6 := nF hc6
   simp only [AnswerV.eta, MarkV.eta, CellV.eta, HeldV.eta, WaitV.eta, ServerV.eta, PeerV.eta, OpV.eta, ParcelV.eta, PostV.eta, WorkerV.eta] at hc6
   refine Y_move ?_
   refine Y_len_sl F.elem43 ?_
   refine Y_cmp ?_
   refine Y_pick ?_
   refine Y_move ?_
   refine XD_part 39 rfl (fun hc7 => ?_) (fun hc7 => ?_)
   ·replace hc7 := nT hc7
    (exfalso; omega)
   ·replace hc7 := nF hc7
    refine Y_move ?_
    refine X_indexAddr rfl rfl rfl rfl F.elem43 (by rfl) (by (simp; done)) (by exact SlM.plain (by assumption) (by (simp; done))) rfl ?_
    refine X_fieldAddr_el rfl rfl rfl (by exact SlM.plain (by assumption) (by (simp; done))) F.foff51_0 rfl ?_
    refine X_load_el rfl rfl rfl (by assumption) (by exact rfl) F.lay3 rfl rfl rfl ?_
    refine Y_cmp ?_
    refine Y_pick ?_
    refine Y_move ?_
    refine XD_part 46 rfl (fun hc8 => ?_) (fun hc8 => ?_)
    ·replace hc8 := nT hc8
     simp only [AnswerV.eta, MarkV.eta, CellV.eta, HeldV.eta, WaitV.eta, ServerV.eta, PeerV.eta, OpV.eta, ParcelV.eta, PostV.eta, WorkerV.eta] at hc8
     (exfalso; simp [eqX] at hc8; done)
    ·replace hc8 := nF hc8
     simp only [AnswerV.eta, MarkV.eta, CellV.eta, HeldV.eta, WaitV.eta, ServerV.eta, PeerV.eta, OpV.eta, ParcelV.eta, PostV.eta, WorkerV.eta] at hc8
     refine Y_move ?_
     refine X_indexAddr rfl rfl rfl rfl F.elem43 (by rfl) (by (simp; done)) (by exact SlM.plain (by assumption) (by (simp; done))) rfl ?_
     refine X_fieldAddr_el rfl rfl rfl (by exact SlM.plain (by assumption) (by (simp; done))) F.foff51_1 rfl ?_
     refine X_fieldAddr_el rfl rfl rfl (by exact SlM.plain (by assumption) (by (simp; done))) F.foff39_0 rfl ?_
     refine X_load_el rfl rfl rfl (by assumption) (by exact rfl) F.lay3 rfl rfl rfl ?_
     refine Y_cmp ?_
     refine Y_pick ?_
     refine Y_move ?_
     refine XD_part 54 rfl (fun hc9 => ?_) (fun hc9 => ?_)
     ·replace hc9 := nT hc9
      (exfalso; omega)
     ·replace hc9 := nF hc9
      refine Y_fieldAddr F.foff26_3 ?_
      refine Y_load F.lay24 ?_
      refine Y_len_sl F.elem24 ?_
      refine Y_cmp ?_
      refine Y_pick ?_
      refine XD_end ?_
      refine K_then ?_
      refine Y_pk [59, 5, 4, 2, 1, 0] ?_
      refine C_cond rfl (fun hc10 => ?_) (fun hc10 => ?_)
      ·replace hc10 := nT hc10
       (exfalso; omega)
      ·replace hc10 := nF hc10
       refine C_skip ?_
       refine K_then ?_
       refine Y_pk [5, 4, 2, 1, 0] ?_
       refine C_seq ?_
       refine C_region (l := [0, 1, 2, 3, 4, 5, 6, 7, 8, 9, 10, 11, 12, 13, 14]) rfl ?_
       refine X_build rfl rfl F.bld26 (.cons rfl (by constructor) .nil) rfl rfl ?_
       iterate 2 refine Y_move ?_
       refine X_indexAddr rfl rfl rfl rfl F.elem43 (by rfl) (by (simp; done)) (by exact SlM.plain (by assumption) (by (simp; done))) rfl ?_
       refine X_fieldAddr_el rfl rfl rfl (by exact SlM.plain (by assumption) (by (simp; done))) F.foff51_1 rfl ?_
       refine X_load_el rfl rfl rfl (by assumption) (by exact rfl) F.lay39 rfl rfl rfl ?_
       refine X_fn rfl rfl F.ok11 rfl (Take_ok M2 ⟨2, 0, ⟨none, 0, []⟩, ⟨none, 0, []⟩, 0⟩ ⟨_, 2, sl2⟩ 2 1 ⟨x_kind, x_epoch, x_key, ⟨x_oc, x_or, x_ok, x_ov, x_os⟩, ⟨x_ac, x_av, x_ah, x_as⟩, x_serial, ⟨x_cv, x_ch, x_cs, ⟨x_ma, x_mc, x_ml⟩⟩⟩ ⟨SlK.nil, (fun y hy => by cases hy), SlK.nil, (fun y hy => by cases hy)⟩ (k_l.mono hm2) (l_x _ (.head _)).h0 (by show 0 ≤ 1000; omega)) rfl ?_
       rintro _ M3 hm3 hv
       replace hv : SrvE _ _ (srvR ⟨2, 0, [], [], 0⟩ sl2 2 1 (ParcelV.pl ⟨x_kind, x_epoch, x_key, ⟨x_oc, x_or, x_ok, x_ov, x_os⟩, ⟨x_ac, x_av, x_ah, x_as⟩, x_serial, ⟨x_cv, x_ch, x_cs, ⟨x_ma, x_mc, x_ml⟩⟩⟩)) := hv
       rw [hparx, se2] at hv
       obtain ⟨⟨b_addr, b_epoch, ⟨b_sa, b_sc, b_sl⟩, ⟨b_wa, b_wc, b_wl⟩, b_serial⟩, ⟨y_pa, y_pc, y_pl⟩, rfl, hb, hpy, ok_b, k_y, l_y⟩ := hv
       simp only at hb hpy l_y
       obtain ⟨⟨y_to, ⟨y_kind, y_epoch, y_key, ⟨y_oc, y_or, y_ok, y_ov, y_os⟩, ⟨y_ac, y_av, y_ah, y_as⟩, y_serial, ⟨y_cv, y_ch, y_cs, ⟨y_ma, y_mc, y_ml⟩⟩⟩⟩, rfl, hxy⟩ := pst_one hpy
       have s_y := k_y.h1
       simp only at s_y
       have hpary : ParcelV.pl ⟨y_kind, y_epoch, y_key, ⟨y_oc, y_or, y_ok, y_ov, y_os⟩, ⟨y_ac, y_av, y_ah, y_as⟩, y_serial, ⟨y_cv, y_ch, y_cs, ⟨y_ma, y_mc, y_ml⟩⟩⟩ = sY.parcel := congrArg Pst.parcel hxy
       have n_y : [(⟨y_to, ⟨y_kind, y_epoch, y_key, ⟨y_oc, y_or, y_ok, y_ov, y_os⟩, ⟨y_ac, y_av, y_ah, y_as⟩, y_serial, ⟨y_cv, y_ch, y_cs, ⟨y_ma, y_mc, y_ml⟩⟩⟩⟩ : PostV)].length = 1 := rfl
       obtain rfl : y_to = 1 := congrArg Pst.to hxy
       refine Y_move ?_
       iterate 3 refine Y_extract ?_
       refine Y_alloc F.zero26 ?_; intro b11
       refine Y_store F.lay26 ?_
       iterate 2 refine Y_assign ?_
       refine XD_end ?_
       refine K_then ?_
       refine Y_pk [9, 8, 7, 4, 2, 1, 0] ?_
       iterate 2 refine C_seq ?_
       refine C_region (l := [0, 1, 2, 3, 4, 5, 6, 7, 8, 9, 10, 11, 12, 13]) rfl ?_
       refine Y_move ?_
       refine Y_cmp ?_
       refine Y_move ?_
       refine XD_part 73 rfl (fun hc12 => ?_) (fun hc12 => ?_)
       ·replace hc12 := nT hc12
        simp only [AnswerV.eta, MarkV.eta, CellV.eta, HeldV.eta, WaitV.eta, ServerV.eta, PeerV.eta, OpV.eta, ParcelV.eta, PostV.eta, WorkerV.eta] at hc12
        (exfalso; simp [eqX] at hc12; done)
       ·replace hc12 := nF hc12
        simp only [AnswerV.eta, MarkV.eta, CellV.eta, HeldV.eta, WaitV.eta, ServerV.eta, PeerV.eta, OpV.eta, ParcelV.eta, PostV.eta, WorkerV.eta] at hc12
        refine Y_move ?_
        refine Y_len_sl F.elem43 ?_
        refine Y_cmp ?_
        refine Y_pick ?_
        refine Y_move ?_
        refine XD_part 78 rfl (fun hc13 => ?_) (fun hc13 => ?_)
        ·replace hc13 := nT hc13
         (exfalso; omega)
        ·replace hc13 := nF hc13
         refine Y_move ?_
         refine X_indexAddr rfl rfl rfl rfl F.elem43 (by rfl) (by (simp; done)) (by exact SlM.plain (by assumption) (by (simp; done))) rfl ?_
         refine X_fieldAddr_el rfl rfl rfl (by exact SlM.plain (by assumption) (by (simp; done))) F.foff51_0 rfl ?_
         refine X_load_el rfl rfl rfl (by assumption) (by exact rfl) F.lay3 rfl rfl rfl ?_
         refine Y_cmp ?_
         refine Y_pick ?_
         refine XD_end ?_
         refine K_then ?_
         refine Y_pk [84, 8, 7, 4, 2, 1, 0] ?_
         refine C_cond rfl (fun hc14 => ?_) (fun hc14 => ?_)
         ·replace hc14 := nT hc14
          simp only [AnswerV.eta, MarkV.eta, CellV.eta, HeldV.eta, WaitV.eta, ServerV.eta, PeerV.eta, OpV.eta, ParcelV.eta, PostV.eta, WorkerV.eta] at hc14
          (exfalso; simp [eqX] at hc14; done)
         ·replace hc14 := nF hc14
          simp only [AnswerV.eta, MarkV.eta, CellV.eta, HeldV.eta, WaitV.eta, ServerV.eta, PeerV.eta, OpV.eta, ParcelV.eta, PostV.eta, WorkerV.eta] at hc14
          refine C_skip ?_
          refine K_then ?_
          refine Y_pk [8, 7, 4, 2, 1, 0] ?_
          refine C_seq ?_
          refine C_region_any (l := [0, 1, 2, 3, 4, 5, 6, 7, 8, 9, 10, 11, 12, 13, 14]) #[0, 0, 0, 4, 12, 28, 63, 127, 255, 255, 255, 0, 2559, 7167, 16383] _ rfl (by kernel_rfl) (by kernel_rfl) St.drawn (fun _ h => h) ?_
          refine Y_load F.lay26 ?_
          iterate 2 refine Y_move ?_
          refine X_indexAddr rfl rfl rfl rfl F.elem43 (by rfl) (by (simp; done)) (by exact SlM.plain (by assumption) (by (simp; done))) rfl ?_
          refine X_fieldAddr_el rfl rfl rfl (by exact SlM.plain (by assumption) (by (simp; done))) F.foff51_1 rfl ?_
          refine X_load_el rfl rfl rfl (by assumption) (by exact rfl) F.lay39 rfl rfl rfl ?_
          refine X_fn rfl rfl F.ok11 rfl (Take_ok M3 ⟨a_addr, a_epoch, ⟨a_sa, a_sc, a_sl⟩, ⟨a_wa, a_wc, a_wl⟩, a_serial⟩ ⟨_, 2, sl2⟩ 2 2 ⟨y_kind, y_epoch, y_key, ⟨y_oc, y_or, y_ok, y_ov, y_os⟩, ⟨y_ac, y_av, y_ah, y_as⟩, y_serial, ⟨y_cv, y_ch, y_cs, ⟨y_ma, y_mc, y_ml⟩⟩⟩ (ok_a.mono hm3) (k_l.mono (hm2.trans hm3)) (l_y _ (.head _)).h0 (by show a_wl.length ≤ 1000; omega)) rfl ?_
          rintro _ M4 hm4 hv
          replace hv : SrvE _ _ (srvR (ServerV.pl ⟨a_addr, a_epoch, ⟨a_sa, a_sc, a_sl⟩, ⟨a_wa, a_wc, a_wl⟩, a_serial⟩) sl2 2 2 (ParcelV.pl ⟨y_kind, y_epoch, y_key, ⟨y_oc, y_or, y_ok, y_ov, y_os⟩, ⟨y_ac, y_av, y_ah, y_as⟩, y_serial, ⟨y_cv, y_ch, y_cs, ⟨y_ma, y_mc, y_ml⟩⟩⟩)) := hv
          rw [hpary, ha, se3] at hv
          obtain ⟨⟨c_addr, c_epoch, ⟨c_sa, c_sc, c_sl⟩, ⟨c_wa, c_wc, c_wl⟩, c_serial⟩, ⟨z_pa, z_pc, z_pl⟩, rfl, hc, hpz, ok_c, k_z, l_z⟩ := hv
          simp only at hc hpz l_z
          obtain ⟨⟨z_to, ⟨z_kind, z_epoch, z_key, ⟨z_oc, z_or, z_ok, z_ov, z_os⟩, ⟨z_ac, z_av, z_ah, z_as⟩, z_serial, ⟨z_cv, z_ch, z_cs, ⟨z_ma, z_mc, z_ml⟩⟩⟩⟩, rfl, hxz⟩ := pst_one hpz
          have s_z := k_z.h1
          simp only at s_z
          have hparz : ParcelV.pl ⟨z_kind, z_epoch, z_key, ⟨z_oc, z_or, z_ok, z_ov, z_os⟩, ⟨z_ac, z_av, z_ah, z_as⟩, z_serial, ⟨z_cv, z_ch, z_cs, ⟨z_ma, z_mc, z_ml⟩⟩⟩ = sZ.parcel := congrArg Pst.parcel hxz
          have n_z : [(⟨z_to, ⟨z_kind, z_epoch, z_key, ⟨z_oc, z_or, z_ok, z_ov, z_os⟩, ⟨z_ac, z_av, z_ah, z_as⟩, z_serial, ⟨z_cv, z_ch, z_cs, ⟨z_ma, z_mc, z_ml⟩⟩⟩⟩ : PostV)].length = 1 := rfl
          obtain rfl : z_to = 1003 := congrArg Pst.to hxz
          obtain ⟨rfl, rfl, rfl, rfl⟩ : z_ac = 0 ∧ z_av = 1 ∧ z_ah = true ∧ z_as = ⟨#[]⟩ := by
           have h9 := congrArg (fun p : Pst => p.parcel.answer) hxz
           replace h9 : (⟨z_ac, z_av, z_ah, z_as⟩ : AnswerV) = ⟨0, 1, true, ⟨#[]⟩⟩ := h9
           simpa only [AnswerV.mk.injEq] using h9
          have hcwl : c_wl.length = 0 := by rw [← wtl_len]; exact congrArg (fun s : Srv => s.waits.length) hc
          refine Y_move ?_
          iterate 3 refine Y_extract ?_
          refine Y_alloc F.zero26 ?_; intro b15
          refine Y_store F.lay26 ?_
          iterate 2 refine Y_assign ?_
          refine XD_end ?_
          refine K_then ?_
          refine Y_pk [12, 11, 10, 7, 2, 0] ?_
          refine C_seq ?_
          refine C_region (l := [0, 1, 2, 3, 4, 5, 6, 7, 8, 9]) rfl ?_
          refine Y_fieldAddr F.foff26_2 ?_
          refine Y_load F.lay23 ?_
          refine Y_load F.lay29 ?_
          refine X_fs rfl rfl F.ok19 rfl (Find_ok _ ⟨b_sa, b_sc, b_sl⟩ 5#160 (ok_b.h0.mono hm4) (fun h hh => (ok_b.h1 h hh).mono hm4)) rfl ?_
          rintro _ hv
          obtain ⟨⟨⟨e_v, e_h, e_s, ⟨e_a, e_c, e_l⟩⟩, eb⟩, he⟩ : ∃ r, findX b_sl 5#160 = r := ⟨_, rfl⟩
          replace hv : _ = findXv (findX b_sl 5#160) := hv
          rw [he] at hv
          subst hv
          have hpl := findX_pl b_sl 5#160
          rw [he, show pls b_sl = sB.store from congrArg Srv.store hb, se4] at hpl
          obtain rfl : eb = true := congrArg Prod.snd hpl
          obtain rfl : e_s = ⟨#[97]⟩ := congrArg (fun x : Cel × Bool => x.1.val) hpl
          refine Y_move ?_
          iterate 2 refine Y_extract ?_
          refine Y_alloc F.zero37 ?_; intro b16
          refine Y_store F.lay37 ?_
          refine Y_assign ?_
          refine XD_end ?_
          refine K_then ?_
          refine Y_pk [14, 13, 12, 11, 10, 0] ?_
          refine C_seq ?_
          refine C_region (l := [0, 1, 2, 3, 4, 5, 6, 7, 8, 9, 10, 11, 12, 13, 14, 15, 16, 17, 18, 19, 20, 21, 22, 23, 24, 25, 26, 27, 28, 29, 30, 31, 32, 33, 34, 35, 36, 37, 38, 39, 40, 41]) rfl ?_
          refine Y_move ?_
          refine Y_cmp ?_
          refine Y_move ?_
          refine XD_part 105 rfl (fun hc17 => ?_) (fun hc17 => ?_)
          ·replace hc17 := dT hc17
           simp only [AnswerV.eta, MarkV.eta, CellV.eta, HeldV.eta, WaitV.eta, ServerV.eta, PeerV.eta, OpV.eta, ParcelV.eta, PostV.eta, WorkerV.eta] at hc17
           refine Y_move ?_
           refine Y_len_sl F.elem43 ?_
           refine Y_cmp ?_
           refine Y_pick ?_
           refine Y_move ?_
           refine XD_part 110 rfl (fun hc18 => ?_) (fun hc18 => ?_)
           ·replace hc18 := dT hc18
            refine Y_move ?_
            refine X_indexAddr rfl rfl rfl rfl F.elem43 (by rfl) (by (simp; done)) (by exact SlM.plain (by assumption) (by (simp; done))) rfl ?_
            refine X_fieldAddr_el rfl rfl rfl (by exact SlM.plain (by assumption) (by (simp; done))) F.foff51_0 rfl ?_
            refine X_load_el rfl rfl rfl (by assumption) (by exact rfl) F.lay3 rfl rfl rfl ?_
            refine Y_cmp ?_
            refine Y_pick ?_
            refine Y_move ?_
            refine XD_part 117 rfl (fun hc19 => ?_) (fun hc19 => ?_)
            ·replace hc19 := dT hc19
             simp only [AnswerV.eta, MarkV.eta, CellV.eta, HeldV.eta, WaitV.eta, ServerV.eta, PeerV.eta, OpV.eta, ParcelV.eta, PostV.eta, WorkerV.eta] at hc19
             refine Y_move ?_
             refine X_indexAddr rfl rfl rfl rfl F.elem43 (by rfl) (by (simp; done)) (by exact SlM.plain (by assumption) (by (simp; done))) rfl ?_
             refine X_fieldAddr_el rfl rfl rfl (by exact SlM.plain (by assumption) (by (simp; done))) F.foff51_1 rfl ?_
             refine X_fieldAddr_el rfl rfl rfl (by exact SlM.plain (by assumption) (by (simp; done))) F.foff39_4 rfl ?_
             refine X_load_el rfl rfl rfl (by assumption) (by exact rfl) F.lay34 rfl rfl rfl ?_
             refine X_build rfl rfl F.bld34 (.cons rfl (by constructor) (.cons rfl (by constructor) .nil)) rfl rfl ?_
             refine X_same (m := 20) rfl rfl rfl rfl rfl (by constructor) (by constructor) F.lay34 F.kinds34 rfl F.guard34 (by exact FitAnswerV (⟨_, _, _, _⟩)) (by exact FitAnswerV (⟨_, _, _, _⟩)) rfl rfl rfl ?_; intro c20 he21
             replace he21 : c20 = true ↔ Segs.cells _ = Segs.cells _ := he21
             obtain rfl := eqD he21 (AnswerV.inj (x := ⟨_, _, _, _⟩) (y := ⟨_, _, _, _⟩)); clear he21
             refine Y_pick ?_
             refine Y_move ?_
             refine XD_part 126 rfl (fun hc22 => ?_) (fun hc22 => ?_)
             ·replace hc22 := dT hc22
              simp only [AnswerV.eta, MarkV.eta, CellV.eta, HeldV.eta, WaitV.eta, ServerV.eta, PeerV.eta, OpV.eta, ParcelV.eta, PostV.eta, WorkerV.eta] at hc22
              refine Y_fieldAddr F.foff26_3 ?_
              refine Y_load F.lay24 ?_
              refine Y_len_sl F.elem24 ?_
              refine Y_cmp ?_
              refine Y_pick ?_
              refine Y_move ?_
              refine XD_part 132 rfl (fun hc23 => ?_) (fun hc23 => ?_)
              ·replace hc23 := dT hc23
               refine Y_move ?_
               refine Y_pick ?_
               refine Y_move ?_
               refine XD_part 135 rfl (fun hc24 => ?_) (fun hc24 => ?_)
               ·skip
                simp only [AnswerV.eta, MarkV.eta, CellV.eta, HeldV.eta, WaitV.eta, ServerV.eta, PeerV.eta, OpV.eta, ParcelV.eta, PostV.eta, WorkerV.eta] at hc24
                refine Y_fieldAddr F.foff37_2 ?_
                refine Y_load F.lay9 ?_
                refine Y_str ?_
                refine Y_pick ?_
                refine Y_move ?_
                refine XD_part 140 rfl (fun hc25 => ?_) (fun hc25 => ?_)
                ·replace hc25 := dT hc25
                 simp only [AnswerV.eta, MarkV.eta, CellV.eta, HeldV.eta, WaitV.eta, ServerV.eta, PeerV.eta, OpV.eta, ParcelV.eta, PostV.eta, WorkerV.eta] at hc25
                 refine Y_load F.lay26 ?_
                 refine X_fs rfl rfl F.ok14 rfl (SIs_ok _ ⟨c_addr, c_epoch, ⟨c_sa, c_sc, c_sl⟩, ⟨c_wa, c_wc, c_wl⟩, c_serial⟩ ok_c) rfl ?_
                 rintro _ hv
                 rw [hc, decide_eq_true se5] at hv
                 subst hv
                 refine Y_pick ?_
                 refine Y_assign ?_
                 refine XD_end ?_
                 refine K_then ?_
                 refine Y_pk [0] ?_
                 refine C_ret ?_
                 refine K_end (.inr rfl) (.tmp rfl .nil) (fun w hw => ?_)
                 refine ⟨_, _, rfl, hm1.trans (hm2.trans (hm3.trans hm4)), hw.c, ?_⟩
                 clear hw
                 rfl
                ·replace hc25 := dF hc25
                 simp only [AnswerV.eta, MarkV.eta, CellV.eta, HeldV.eta, WaitV.eta, ServerV.eta, PeerV.eta, OpV.eta, ParcelV.eta, PostV.eta, WorkerV.eta] at hc25
                 (exfalso; simp [eqX] at hc25; done)
               ·skip
                simp only [AnswerV.eta, MarkV.eta, CellV.eta, HeldV.eta, WaitV.eta, ServerV.eta, PeerV.eta, OpV.eta, ParcelV.eta, PostV.eta, WorkerV.eta] at hc24
                (exfalso; simp [eqX] at hc24; done)
              ·replace hc23 := dF hc23
               (exfalso; omega)
             ·replace hc22 := dF hc22
              simp only [AnswerV.eta, MarkV.eta, CellV.eta, HeldV.eta, WaitV.eta, ServerV.eta, PeerV.eta, OpV.eta, ParcelV.eta, PostV.eta, WorkerV.eta] at hc22
              (exfalso; simp [eqX] at hc22; done)
            ·replace hc19 := dF hc19
             simp only [AnswerV.eta, MarkV.eta, CellV.eta, HeldV.eta, WaitV.eta, ServerV.eta, PeerV.eta, OpV.eta, ParcelV.eta, PostV.eta, WorkerV.eta] at hc19
             (exfalso; simp [eqX] at hc19; done)
           ·replace hc18 := dF hc18
            (exfalso; omega)
          ·replace hc17 := dF hc17
           simp only [AnswerV.eta, MarkV.eta, CellV.eta, HeldV.eta, WaitV.eta, ServerV.eta, PeerV.eta, OpV.eta, ParcelV.eta, PostV.eta, WorkerV.eta] at hc17
           (exfalso; simp [eqX] at hc17; done)

end Go.Proofs.YtpkeilhilpogiaaGreat
/-
  What a server takes, for the laws.
-/
set_option linter.unusedSimpArgs false
set_option linter.unusedVariables false
set_option linter.unnecessarySimpa false
namespace Go.Esp
theorem waitR_len {l : List Wt} {w : Wt} : (waitR l w).length = l.length + 1 := by
  unfold waitR
  rw [List.length_append, List.length_cons]
  have h := congrArg List.length (List.takeWhile_append_dropWhile (p := fun x : Wt => decide (LessP x.key w.key)) (l := l))
  rw [List.length_append] at h
  omega
theorem req_len {s : Srv} {l : List PeerV} {r : Int} {p : Prc} : (requestR s l r p).1.waits.length ≤ s.waits.length + 1 := by
  rcases req_cases s l r p with ⟨_, e⟩ | ⟨w, _, _, e⟩ | ⟨_, _, _, e⟩ | ⟨_, _, _, _, e⟩ | ⟨_, _, _, _, _, e⟩ | ⟨W, v, to, _, _, _, _, _, _, _, _, hW, e⟩
  · rw [e]; exact Nat.le_succ _
  · rw [e]; exact Nat.le_succ _
  · rw [e]; exact Nat.le_succ _
  · rw [e]; exact Nat.le_succ _
  · rw [e]; exact Nat.le_succ _
  · rw [e, hW]; exact Nat.le_of_eq waitR_len
theorem copy_len {s : Srv} {f : Int} {p : Prc} : (copyR s f p).1.waits = s.waits := by
  unfold copyR
  simp only
  split <;> rfl
theorem take_len {s : Srv} {l : List PeerV} {r f : Int} {p : Prc} (h : TakeOk s l r p) : (srvR s l r f p).1.waits.length ≤ s.waits.length + 1 := by
  by_cases he : p.epoch = s.epoch
  · by_cases h1 : p.kind = 1
    · rw [srvR_req h he h1]; exact req_len
    · by_cases h3 : p.kind = 3
      · rw [srvR_copy h he h3]
        show (copyR s f p).1.waits.length ≤ _
        rw [copy_len]; exact Nat.le_succ _
      · by_cases h4 : p.kind = 4
        · rw [srvR_copied h he h4]
          exact Nat.le_succ_of_le (List.length_filterMap_le ..)
        · rw [srvR_else h he h1 h3 h4]; exact Nat.le_succ _
  · rw [srvR_ep h he]; exact Nat.le_succ _
/-- What Take gives: refused, or what stays right. -/
theorem take_or {s : Srv} {l : List PeerV} {r f : Int} {p : Prc} {R1 : Srv} {R2 : List Pst} {R3 : Int} (hR : srvR s l r f p = (R1, R2, R3)) :
    (R3 = 0 ∧ TakeOk s l r p ∧ IsSrv R1 ∧ R1.addr = s.addr ∧ R1.epoch = s.epoch ∧ (∀ x ∈ R2, Sent s.epoch x) ∧ (p.epoch ≠ s.epoch → R1 = s ∧ R2 = []) ∧ R1.waits.length ≤ s.waits.length + 1) ∨ (R3 = 1 ∧ R1 = Srv.zero ∧ R2 = []) := by
  by_cases hA : TakeOk s l r p
  · have h1 := stay_take (f := f) hA
    have h2 := take_len (f := f) hA
    rw [hR] at h1 h2
    exact .inl ⟨h1.1, hA, h1.2.1, h1.2.2.1, h1.2.2.2.1, h1.2.2.2.2.1, fun e => ⟨congrArg Prod.fst (h1.2.2.2.2.2 e), congrArg (fun x : Srv × List Pst × Int => x.2.1) (h1.2.2.2.2.2 e)⟩, h2⟩
  · have h1 := srvR_no (f := f) hA
    rw [hR] at h1
    cases h1
    exact .inr ⟨rfl, rfl, rfl⟩
theorem take_waits {s : Srv} {l : List PeerV} {r f : Int} {p : Prc} {R1 : Srv} {R2 : List Pst} {R3 : Int} (hR : srvR s l r f p = (R1, R2, R3)) (hA : TakeOk s l r p) (hk : p.kind = 1) (he : p.epoch = s.epoch) (h : ∃ w ∈ s.waits, w.key = p.key) :
    R1 = s ∧ ∀ x ∈ R2, (x.parcel.kind = 2 → x.parcel.answer.code = 7) ∧ x.parcel.kind ≠ 4 := by
  rw [srvR_req hA he hk] at hR
  have h1 := waits_request (l := l) (r := r) h
  cases hR
  exact h1
end Go.Esp
/-
  The law of staying.
-/
set_option linter.unusedSimpArgs false
set_option linter.unusedVariables false
set_option linter.unnecessarySimpa false
set_option maxRecDepth 8000
set_option maxHeartbeats 1000000
namespace Go.Proofs.YtpkeilhilpogiaaGreat
open Go.Esp
theorem F.ok13 : okFn Tryz.prog 13 = true := by kernel_rfl
theorem F.ok8 : okFn Tryz.prog 8 = true := by kernel_rfl
theorem F.ok9 : okFn Tryz.prog 9 = true := by kernel_rfl

end Go.Proofs.YtpkeilhilpogiaaGreat
/-
  The law of once.
-/
set_option linter.unusedSimpArgs false
set_option linter.unusedVariables false
set_option linter.unnecessarySimpa false
set_option maxRecDepth 8000
set_option maxHeartbeats 1000000
namespace Go.Proofs.YtpkeilhilpogiaaGreat
open Go.Esp
end Go.Proofs.YtpkeilhilpogiaaGreat
/-
  The law of waiting.
-/
set_option linter.unusedSimpArgs false
set_option linter.unusedVariables false
set_option linter.unnecessarySimpa false
set_option maxRecDepth 8000
set_option maxHeartbeats 1000000
namespace Go.Proofs.YtpkeilhilpogiaaGreat
open Go.Esp


theorem lawWaits_ok (M : Mem) (s : ServerV) (l : (Sl PeerV)) (r : Int) (frm : Int) (p : ParcelV) (hs0 : ServerV.ok M s) (hl1 : SlK M PeerV.segs 21 l) (hp2 : ParcelV.ok M p) : Esp.Fn Tryz.prog 6 [s.enc, Sl.val l, .int .i64 r, .int .i64 frm, p.enc] M (fun _ v => v = .bool true) := by
  obtain ⟨s_addr, s_epoch, ⟨s_store_a, s_store_c, s_store_l⟩, ⟨s_waits_a, s_waits_c, s_waits_l⟩, s_serial⟩ := s
  obtain ⟨l_a, l_c, l_l⟩ := l
  obtain ⟨p_kind, p_epoch, p_key, ⟨p_op_client, p_op_req, p_op_kind, p_op_version, p_op_val⟩, ⟨p_answer_code, p_answer_version, p_answer_has, p_answer_val⟩, p_serial, ⟨p_cell_version, p_cell_has, p_cell_val, ⟨p_cell_marks_a, p_cell_marks_c, p_cell_marks_l⟩⟩⟩ := p
  have k_s_store : SlK M HeldV.segs 24 ⟨s_store_a, s_store_c, s_store_l⟩ := hs0.h0
  have s_s_store : SlM M s_store_a (s_store_l.map HeldV.segs) 24 := k_s_store.h1
  have n_s_store : (s_store_l.map HeldV.segs).length = s_store_l.length := List.length_map ..
  have m_s_store : s_store_l.length ≤ 9223372036854775807 := k_s_store.h2
  have c_s_store : s_store_l.length ≤ s_store_c := k_s_store.h3
  have l_s_store : ∀ y ∈ s_store_l, HeldV.ok M y := hs0.h1
  have k_s_waits : SlK M WaitV.segs 28 ⟨s_waits_a, s_waits_c, s_waits_l⟩ := hs0.h2
  have s_s_waits : SlM M s_waits_a (s_waits_l.map WaitV.segs) 28 := k_s_waits.h1
  have n_s_waits : (s_waits_l.map WaitV.segs).length = s_waits_l.length := List.length_map ..
  have m_s_waits : s_waits_l.length ≤ 9223372036854775807 := k_s_waits.h2
  have c_s_waits : s_waits_l.length ≤ s_waits_c := k_s_waits.h3
  have l_s_waits : ∀ y ∈ s_waits_l, WaitV.ok M y := hs0.h3
  have k_l : SlK M PeerV.segs 21 ⟨l_a, l_c, l_l⟩ := hl1
  have s_l : SlM M l_a (l_l.map PeerV.segs) 21 := k_l.h1
  have n_l : (l_l.map PeerV.segs).length = l_l.length := List.length_map ..
  have m_l : l_l.length ≤ 9223372036854775807 := k_l.h2
  have c_l : l_l.length ≤ l_c := k_l.h3
  have k_p_cell : CellV.ok M ⟨p_cell_version, p_cell_has, p_cell_val, ⟨p_cell_marks_a, p_cell_marks_c, p_cell_marks_l⟩⟩ := hp2.h0
  have k_p_cell_marks : SlK M MarkV.segs 6 ⟨p_cell_marks_a, p_cell_marks_c, p_cell_marks_l⟩ := hp2.h0.h0
  have s_p_cell_marks : SlM M p_cell_marks_a (p_cell_marks_l.map MarkV.segs) 6 := k_p_cell_marks.h1
  have n_p_cell_marks : (p_cell_marks_l.map MarkV.segs).length = p_cell_marks_l.length := List.length_map ..
  have m_p_cell_marks : p_cell_marks_l.length ≤ 9223372036854775807 := k_p_cell_marks.h2
  have c_p_cell_marks : p_cell_marks_l.length ≤ p_cell_marks_c := k_p_cell_marks.h3
  obtain ⟨⟨R1, R2, R3⟩, hR⟩ : ∃ x, srvR (ServerV.pl ⟨s_addr, s_epoch, ⟨s_store_a, s_store_c, s_store_l⟩, ⟨s_waits_a, s_waits_c, s_waits_l⟩, s_serial⟩) l_l r frm (ParcelV.pl ⟨p_kind, p_epoch, p_key, ⟨p_op_client, p_op_req, p_op_kind, p_op_version, p_op_val⟩, ⟨p_answer_code, p_answer_version, p_answer_has, p_answer_val⟩, p_serial, ⟨p_cell_version, p_cell_has, p_cell_val, ⟨p_cell_marks_a, p_cell_marks_c, p_cell_marks_l⟩⟩⟩) = x := ⟨_, rfl⟩
  refine fn_enter Tryz.func6 rfl Tryz.ntmps6 rfl ?_; intro H
  refine C_seq ?_
  refine C_region (l := [0, 1, 2]) rfl ?_
  refine Y_box ?_; intro b1
  refine Y_box ?_; intro b2
  refine Y_assign ?_
  refine XD_end ?_
  refine K_then ?_
  refine Y_pk [10, 9, 5, 1, 2, 3] ?_
  iterate 2 refine C_seq ?_
  refine C_region (l := [0, 1, 2, 3, 4, 5, 6, 7, 8, 9, 10]) rfl ?_
  refine Y_load F.lay26 ?_
  refine X_fs rfl rfl F.ok8 rfl (BigV_ok _ ⟨s_addr, s_epoch, ⟨s_store_a, s_store_c, s_store_l⟩, ⟨s_waits_a, s_waits_c, s_waits_l⟩, s_serial⟩ hs0) rfl ?_
  rintro _ ⟨bb, rfl, hbb⟩
  refine Y_move ?_
  refine XD_part 24 rfl (fun hc3 => ?_) (fun hc3 => ?_)
  ·skip
   iterate 3 refine Y_skip ?_
   refine Y_pick ?_
   refine Y_move ?_
   iterate 2 refine Y_skip ?_
   refine Y_pick ?_
   refine XD_end ?_
   refine K_then ?_
   refine Y_pk [32, 10, 9, 5, 1, 2, 3] ?_
   refine C_true rfl ?_
   refine C_seq ?_
   refine C_region (l := [0]) rfl ?_
   refine Y_assign ?_
   refine XD_end ?_
   refine K_then ?_
   refine Y_pk [10, 9, 5, 1, 2, 3] ?_
   refine C_ret ?_
   refine K_ret ?_
   refine K_end (.inr rfl) (.tmp rfl .nil) (fun w hw => ?_)
   refine ⟨_, _, rfl, (by exact Mem.le.refl _), (hw.c), ?_⟩
   clear hw
   rfl
  ·skip
   refine Y_move ?_
   refine Y_len_sl F.elem27 ?_
   refine Y_cmp ?_
   refine Y_pick ?_
   refine Y_move ?_
   refine XD_part 29 rfl (fun hc4 => ?_) (fun hc4 => ?_)
   ·replace hc4 := dT hc4
    iterate 2 refine Y_skip ?_
    refine Y_pick ?_
    refine XD_end ?_
    refine K_then ?_
    refine Y_pk [32, 10, 9, 5, 1, 2, 3] ?_
    refine C_true rfl ?_
    refine C_seq ?_
    refine C_region (l := [0]) rfl ?_
    refine Y_assign ?_
    refine XD_end ?_
    refine K_then ?_
    refine Y_pk [10, 9, 5, 1, 2, 3] ?_
    refine C_ret ?_
    refine K_ret ?_
    refine K_end (.inr rfl) (.tmp rfl .nil) (fun w hw => ?_)
    refine ⟨_, _, rfl, (by exact Mem.le.refl _), (hw.c), ?_⟩
    clear hw
    rfl
   ·replace hc4 := dF hc4
    refine Y_load F.lay39 ?_
    refine X_fs rfl rfl F.ok9 rfl (BigP_ok _ ⟨p_kind, p_epoch, p_key, ⟨p_op_client, p_op_req, p_op_kind, p_op_version, p_op_val⟩, ⟨p_answer_code, p_answer_version, p_answer_has, p_answer_val⟩, p_serial, ⟨p_cell_version, p_cell_has, p_cell_val, ⟨p_cell_marks_a, p_cell_marks_c, p_cell_marks_l⟩⟩⟩ hp2) rfl ?_
    rintro _ ⟨bp, rfl, -⟩
    refine Y_pick ?_
    refine XD_end ?_
    refine K_then ?_
    refine Y_pk [32, 10, 9, 5, 1, 2, 3] ?_
    refine C_cond rfl (fun hc5 => ?_) (fun hc5 => ?_)
    ·skip
     refine C_seq ?_
     refine C_region (l := [0]) rfl ?_
     refine Y_assign ?_
     refine XD_end ?_
     refine K_then ?_
     refine Y_pk [10, 9, 5, 1, 2, 3] ?_
     refine C_ret ?_
     refine K_ret ?_
     refine K_end (.inr rfl) (.tmp rfl .nil) (fun w hw => ?_)
     refine ⟨_, _, rfl, (by exact Mem.le.refl _), (hw.c), ?_⟩
     clear hw
     rfl
    ·skip
     refine C_skip ?_
     refine K_then ?_
     refine Y_pk [10, 9, 5, 1, 2, 3] ?_
     refine C_seq ?_
     obtain ⟨hb1, hb2, hb3⟩ := hbb (by assumption)
     try simp only at hb1 hb2 hb3
     have s_w1 : SlM M s_waits_a (s_waits_l.map WaitV.segs) 28 := s_s_waits
     refine C_region (l := [0, 1, 2, 3, 4, 5, 6, 7, 8, 9, 10, 11, 12, 13]) rfl ?_
     refine Y_load F.lay26 ?_
     iterate 3 refine Y_move ?_
     refine Y_load F.lay39 ?_
     refine X_fn rfl rfl F.ok11 rfl (Take_ok _ ⟨s_addr, s_epoch, ⟨s_store_a, s_store_c, s_store_l⟩, ⟨s_waits_a, s_waits_c, s_waits_l⟩, s_serial⟩ ⟨l_a, l_c, l_l⟩ r frm ⟨p_kind, p_epoch, p_key, ⟨p_op_client, p_op_req, p_op_kind, p_op_version, p_op_val⟩, ⟨p_answer_code, p_answer_version, p_answer_has, p_answer_val⟩, p_serial, ⟨p_cell_version, p_cell_has, p_cell_val, ⟨p_cell_marks_a, p_cell_marks_c, p_cell_marks_l⟩⟩⟩ hs0 k_l hp2 (by show s_waits_l.length ≤ 1000; omega)) rfl ?_
     rintro _ M1 hm1 hv
     replace hv : SrvE _ _ (srvR (ServerV.pl ⟨s_addr, s_epoch, ⟨s_store_a, s_store_c, s_store_l⟩, ⟨s_waits_a, s_waits_c, s_waits_l⟩, s_serial⟩) l_l r frm (ParcelV.pl ⟨p_kind, p_epoch, p_key, ⟨p_op_client, p_op_req, p_op_kind, p_op_version, p_op_val⟩, ⟨p_answer_code, p_answer_version, p_answer_has, p_answer_val⟩, p_serial, ⟨p_cell_version, p_cell_has, p_cell_val, ⟨p_cell_marks_a, p_cell_marks_c, p_cell_marks_l⟩⟩⟩)) := hv
     rw [hR] at hv
     obtain ⟨⟨a_addr, a_epoch, ⟨a_sa, a_sc, a_sl⟩, ⟨a_wa, a_wc, a_wl⟩, a_serial⟩, ⟨x_a, x_c, x_l⟩, rfl, ha, hx, ok_a, k_x, l_x⟩ := hv
     simp only at ha hx l_x
     have htk := take_or hR
     have s_x := k_x.h1
     simp only at s_x
     have m_x : x_l.length ≤ 9223372036854775807 := k_x.h2
     have n_x : (x_l.map PostV.segs).length = x_l.length := List.length_map ..
     have hno : R3 ≠ 0 → x_l.length = 0 ∧ a_sl.length = 0 := fun h9 => by
      obtain ⟨_, hz1, hz2⟩ := htk.resolve_left (fun h => h9 h.1)
      exact ⟨by rw [← pstl_len, hx, hz2]; rfl, by rw [← pls_len]; exact congrArg (fun s : Srv => s.store.length) (ha.trans hz1)⟩
     refine Y_move ?_
     iterate 3 refine Y_extract ?_
     refine Y_alloc F.zero26 ?_; intro b6
     refine Y_store F.lay26 ?_
     iterate 2 refine Y_assign ?_
     refine XD_end ?_
     refine K_then ?_
     refine Y_pk [13, 12, 11, 10, 9, 5] ?_
     refine C_seq ?_
     refine C_region (l := [0]) rfl ?_
     refine Y_assign ?_
     refine XD_end ?_
     refine K_then ?_
     iterate 2 refine C_seq ?_
     have s_w1 := s_s_waits.mono hm1
     refine C_region (l := [0]) rfl ?_
     refine Y_assign ?_
     refine XD_end ?_
     refine K_then ?_
     refine C_block ?_
     refine Y_pk [15, 14, 13, 12, 11, 10, 9, 5] ?_
     refine C_loopS (.succ (.succ .zero)) (fun (k : Nat) z => ∃ b : Bool, z = [(15, .int .i64 (k : Int)), (14, .bool b)] ∧ k ≤ s_waits_l.length ∧ (b = true → ∃ w ∈ s_waits_l, w.key = p_key)) (fun k => s_waits_l.length - k) (0) (⟨false, rfl, by omega, fun h => by cases h⟩) ?_
     rintro k _ ⟨b, rfl, hk, hb⟩
     iterate 2 refine C_seq ?_
     refine C_region (l := [0, 1, 2, 3, 4]) rfl ?_
     refine Y_move ?_
     refine Y_fieldAddr F.foff26_3 ?_
     refine Y_load F.lay24 ?_
     refine Y_len_sl F.elem24 ?_
     refine Y_cmp ?_
     refine XD_end ?_
     refine K_then ?_
     refine C_cond rfl (fun hc7 => ?_) (fun hc7 => ?_)
     ·replace hc7 := dT hc7
      refine C_skip ?_
      refine K_then ?_
      refine C_seq ?_
      refine C_block ?_
      refine C_region_any (l := [0, 1, 2, 3, 4, 5, 6, 7, 8, 9, 10, 11, 12]) #[0, 1, 3, 7, 3, 31, 63, 127, 3, 259, 1023, 2047, 4095] _ rfl (by kernel_rfl) (by kernel_rfl) St.drawn (fun _ h => h) ?_
      iterate 2 refine Y_move ?_
      refine XD_part 51 rfl (fun hc8 => ?_) (fun hc8 => ?_)
      ·skip
       iterate 9 refine Y_skip ?_
       refine Y_pick ?_
       refine Y_assign ?_
       refine XD_end ?_
       refine K_out ?_
       refine K_then ?_
       refine C_region (l := [0, 1, 2]) rfl ?_
       refine Y_move ?_
       refine X_ari rfl rfl rfl rfl rfl (by exact wrap_in (by decide) (by omega)) rfl ?_
       refine Y_assign ?_
       refine XD_end ?_
       refine K_roundS (a' := [(15, _), (14, _)]) (k + 1) (.cons (k := 15) rfl (.cons (k := 14) rfl (.cons (k := 13) rfl (.cons (k := 12) rfl (.cons (k := 11) rfl (.cons (k := 10) rfl (.cons (k := 9) rfl (.cons (k := 5) rfl (.nil))))))))) (fun w hw => by first | exact hw | exact hw.c) ?_ ?_
       ·refine ⟨_, rfl, by omega, fun h9 => ?_⟩
        exact hb (by assumption)
       ·omega
      ·skip
       refine Y_fieldAddr F.foff26_3 ?_
       refine Y_load F.lay24 ?_
       refine Y_move ?_
       refine X_indexAddr rfl rfl rfl rfl F.elem24 (by rfl) (by omega) (by exact SlM.plain (by assumption) (by (simp; omega))) rfl ?_
       refine X_fieldAddr_el rfl rfl rfl (by exact SlM.plain (by assumption) (by (simp; omega))) F.foff54_0 rfl ?_
       refine X_load_el rfl rfl rfl (by assumption) (by exact row_map (by omega)) F.lay29 rfl rfl rfl ?_
       refine Y_fieldAddr F.foff39_2 ?_
       refine Y_load F.lay29 ?_
       refine X_same (m := 20) rfl rfl rfl rfl rfl (by constructor) (by constructor) F.lay29 F.kinds29 rfl F.guard29 (fit_id fit_nil) (fit_id fit_nil) rfl rfl rfl ?_; intro c9 he10
       replace he10 : c9 = true ↔ Segs.cells _ = Segs.cells _ := he10
       obtain rfl := eqD he10 (cells_id1 (x := _) (y := _)); clear he10
       refine Y_pick ?_
       refine Y_assign ?_
       refine XD_end ?_
       refine K_out ?_
       refine K_then ?_
       refine C_region (l := [0, 1, 2]) rfl ?_
       refine Y_move ?_
       refine X_ari rfl rfl rfl rfl rfl (by exact wrap_in (by decide) (by omega)) rfl ?_
       refine Y_assign ?_
       refine XD_end ?_
       refine K_roundS (a' := [(15, _), (14, _)]) (k + 1) (.cons (k := 15) rfl (.cons (k := 14) rfl (.cons (k := 13) rfl (.cons (k := 12) rfl (.cons (k := 11) rfl (.cons (k := 10) rfl (.cons (k := 9) rfl (.cons (k := 5) rfl (.nil))))))))) (fun w hw => by first | exact hw | exact hw.c) ?_ ?_
       ·refine ⟨_, rfl, by omega, fun h9 => ?_⟩
        exact ⟨_, List.getElem_mem (n := k) (by omega), of_decide_eq_true h9⟩
       ·omega
     ·replace hc7 := dF hc7
      refine C_exit ?_
      iterate 2 refine K_exit ?_
      refine K_hit ?_
      refine K_then ?_
      refine Y_pk [14, 13, 12, 11, 10, 9, 5] ?_
      iterate 2 refine C_seq ?_
      refine C_region (l := [0, 1, 2, 3, 4, 5, 6, 7, 8, 9, 10, 11, 12, 13, 14, 15, 16, 17]) rfl ?_
      refine Y_move ?_
      refine Y_cmp ?_
      refine Y_move ?_
      refine XD_part 64 rfl (fun hc11 => ?_) (fun hc11 => ?_)
      ·replace hc11 := nT hc11
       simp only [AnswerV.eta, MarkV.eta, CellV.eta, HeldV.eta, WaitV.eta, ServerV.eta, PeerV.eta, OpV.eta, ParcelV.eta, PostV.eta, WorkerV.eta] at hc11
       iterate 3 refine Y_skip ?_
       refine Y_pick ?_
       refine Y_move ?_
       iterate 2 refine Y_skip ?_
       refine Y_pick ?_
       refine Y_move ?_
       iterate 5 refine Y_skip ?_
       refine Y_pick ?_
       refine XD_end ?_
       refine K_then ?_
       refine Y_pk [79, 12, 11, 10, 9, 5] ?_
       refine C_true rfl ?_
       refine C_seq ?_
       refine C_region (l := [0, 1]) rfl ?_
       refine X_fn rfl rfl F.ok13 rfl (served_ok _) rfl ?_
       rintro _ M99 hm99 rfl
       refine Y_assign ?_
       refine XD_end ?_
       refine K_then ?_
       refine Y_pk [10, 12, 11, 9, 5] ?_
       refine C_ret ?_
       refine K_ret ?_
       refine K_end (.inr rfl) (.tmp rfl .nil) (fun w hw => ?_)
       refine ⟨_, _, rfl, (by exact Mem.le.trans (by assumption) (by assumption)), (hw.c), ?_⟩
       clear hw
       rfl
      ·replace hc11 := nF hc11
       simp only [AnswerV.eta, MarkV.eta, CellV.eta, HeldV.eta, WaitV.eta, ServerV.eta, PeerV.eta, OpV.eta, ParcelV.eta, PostV.eta, WorkerV.eta] at hc11
       refine Y_fieldAddr F.foff39_0 ?_
       refine Y_load F.lay3 ?_
       refine Y_cmp ?_
       refine Y_pick ?_
       refine Y_move ?_
       refine XD_part 69 rfl (fun hc12 => ?_) (fun hc12 => ?_)
       ·replace hc12 := nT hc12
        iterate 2 refine Y_skip ?_
        refine Y_pick ?_
        refine Y_move ?_
        iterate 5 refine Y_skip ?_
        refine Y_pick ?_
        refine XD_end ?_
        refine K_then ?_
        refine Y_pk [79, 12, 11, 10, 9, 5] ?_
        refine C_true rfl ?_
        refine C_seq ?_
        refine C_region (l := [0, 1]) rfl ?_
        refine X_fn rfl rfl F.ok13 rfl (served_ok _) rfl ?_
        rintro _ M99 hm99 rfl
        refine Y_assign ?_
        refine XD_end ?_
        refine K_then ?_
        refine Y_pk [10, 12, 11, 9, 5] ?_
        refine C_ret ?_
        refine K_ret ?_
        refine K_end (.inr rfl) (.tmp rfl .nil) (fun w hw => ?_)
        refine ⟨_, _, rfl, (by exact Mem.le.trans (by assumption) (by assumption)), (hw.c), ?_⟩
        clear hw
        rfl
       ·replace hc12 := nF hc12
        refine Y_move ?_
        refine Y_not ?_
        refine Y_pick ?_
        refine Y_move ?_
        refine XD_part 73 rfl (fun hc13 => ?_) (fun hc13 => ?_)
        ·skip
         iterate 5 refine Y_skip ?_
         refine Y_pick ?_
         refine XD_end ?_
         refine K_then ?_
         refine Y_pk [79, 12, 11, 10, 9, 5] ?_
         refine C_true rfl ?_
         refine C_seq ?_
         refine C_region (l := [0, 1]) rfl ?_
         refine X_fn rfl rfl F.ok13 rfl (served_ok _) rfl ?_
         rintro _ M99 hm99 rfl
         refine Y_assign ?_
         refine XD_end ?_
         refine K_then ?_
         refine Y_pk [10, 12, 11, 9, 5] ?_
         refine C_ret ?_
         refine K_ret ?_
         refine K_end (.inr rfl) (.tmp rfl .nil) (fun w hw => ?_)
         refine ⟨_, _, rfl, (by exact Mem.le.trans (by assumption) (by assumption)), (hw.c), ?_⟩
         clear hw
         rfl
        ·skip
         refine Y_fieldAddr F.foff39_1 ?_
         refine Y_load F.lay22 ?_
         refine Y_fieldAddr F.foff26_1 ?_
         refine Y_load F.lay22 ?_
         refine Y_cmp ?_
         refine Y_pick ?_
         refine XD_end ?_
         refine K_then ?_
         refine Y_pk [79, 12, 11, 10, 9, 5] ?_
         refine C_cond rfl (fun hc14 => ?_) (fun hc14 => ?_)
         ·replace hc14 := nT hc14
          refine C_seq ?_
          refine C_region (l := [0, 1]) rfl ?_
          refine X_fn rfl rfl F.ok13 rfl (served_ok _) rfl ?_
          rintro _ M99 hm99 rfl
          refine Y_assign ?_
          refine XD_end ?_
          refine K_then ?_
          refine Y_pk [10, 12, 11, 9, 5] ?_
          refine C_ret ?_
          refine K_ret ?_
          refine K_end (.inr rfl) (.tmp rfl .nil) (fun w hw => ?_)
          refine ⟨_, _, rfl, (by exact Mem.le.trans (by assumption) (by assumption)), (hw.c), ?_⟩
          clear hw
          rfl
         ·replace hc14 := nF hc14
          refine C_skip ?_
          refine K_then ?_
          refine Y_pk [12, 11, 10, 9, 5] ?_
          refine C_seq ?_
          have h0R : R3 = 0 := by omega
          obtain ⟨_, hA, hSrv, hAdr, hEp, hSent, hSame, hLen⟩ := htk.resolve_right (fun h => by have := h.1; omega)
          have hAwl : a_wl.length ≤ s_waits_l.length + 1 := by have h9 := hLen; rw [← ha] at h9; simp only [ServerV.pl, wtl_len] at h9; exact h9
          obtain ⟨hWs, hWx⟩ := take_waits hR hA (show p_kind = 1 by omega) (show p_epoch = s_epoch by omega) (by obtain ⟨w9, hw8, hw9⟩ := hb (by (simp_all; done)); exact ⟨w9.pl, List.mem_map_of_mem hw8, hw9⟩)
          have hsame : ServerV.pl ⟨a_addr, a_epoch, ⟨a_sa, a_sc, a_sl⟩, ⟨a_wa, a_wc, a_wl⟩, a_serial⟩ = (ServerV.pl ⟨s_addr, s_epoch, ⟨s_store_a, s_store_c, s_store_l⟩, ⟨s_waits_a, s_waits_c, s_waits_l⟩, s_serial⟩) := ha.trans hWs
          have haw : ∀ k (hk : k < x_l.length), (x_l[k].parcel.kind = 2 → x_l[k].parcel.answer.code = 7) ∧ x_l[k].parcel.kind ≠ 4 := fun k hk => hWx (PostV.pl x_l[k]) (by rw [← hx]; exact List.mem_map_of_mem (List.getElem_mem hk))
          refine C_region (l := [0, 1, 2, 3, 4, 5, 6, 7, 8, 9, 10]) rfl ?_
          refine Y_fieldAddr F.foff26_2 ?_
          refine Y_load F.lay23 ?_
          refine Y_fieldAddr F.foff39_2 ?_
          refine Y_load F.lay29 ?_
          refine X_fs rfl rfl F.ok19 rfl (Find_ok _ ⟨s_store_a, s_store_c, s_store_l⟩ p_key (k_s_store.mono hm1) (fun h hh => (l_s_store h hh).mono hm1)) rfl ?_
          rintro _ hv
          obtain ⟨⟨⟨c_v, c_h, c_s, ⟨c_a, c_c, c_l⟩⟩, cb⟩, hc1⟩ : ∃ r, findX s_store_l p_key = r := ⟨_, rfl⟩
          replace hv : _ = findXv (findX s_store_l p_key) := hv
          rw [hc1] at hv
          subst hv
          have hpl1 := findX_pl s_store_l p_key
          rw [hc1] at hpl1
          refine Y_move ?_
          iterate 2 refine Y_extract ?_
          refine Y_alloc F.zero37 ?_; intro b15
          refine Y_store F.lay37 ?_
          refine Y_assign ?_
          refine XD_end ?_
          refine K_then ?_
          refine Y_pk [17, 16, 12, 11, 10, 9] ?_
          refine C_seq ?_
          refine C_region (l := [0, 1, 2, 3, 4, 5, 6, 7, 8, 9, 10]) rfl ?_
          refine Y_fieldAddr F.foff26_2 ?_
          refine Y_load F.lay23 ?_
          refine Y_fieldAddr F.foff39_2 ?_
          refine Y_load F.lay29 ?_
          refine X_fs rfl rfl F.ok19 rfl (Find_ok _ ⟨a_sa, a_sc, a_sl⟩ p_key ok_a.h0 ok_a.h1) rfl ?_
          rintro _ hv
          obtain ⟨⟨⟨d_v, d_h, d_s, ⟨d_a, d_c, d_l⟩⟩, db⟩, hc2⟩ : ∃ r, findX a_sl p_key = r := ⟨_, rfl⟩
          replace hv : _ = findXv (findX a_sl p_key) := hv
          rw [hc2] at hv
          subst hv
          have hpl2 := findX_pl a_sl p_key
          rw [hc2] at hpl2
          have hcd := hpl2.trans ((congrArg (fun s : Srv => findP s.store p_key) hsame).trans hpl1.symm)
          obtain rfl : db = cb := congrArg Prod.snd hcd
          obtain rfl : d_v = c_v := congrArg (fun x : Cel × Bool => x.1.version) hcd
          obtain rfl : d_s = c_s := congrArg (fun x : Cel × Bool => x.1.val) hcd
          refine Y_move ?_
          iterate 2 refine Y_extract ?_
          refine Y_alloc F.zero37 ?_; intro b16
          refine Y_store F.lay37 ?_
          refine Y_assign ?_
          refine XD_end ?_
          refine K_then ?_
          refine Y_pk [19, 18, 17, 16, 12, 10] ?_
          iterate 2 refine C_seq ?_
          refine C_region (l := [0, 1, 2, 3, 4, 5, 6, 7, 8, 9, 10, 11, 12, 13, 14, 15, 16]) rfl ?_
          iterate 2 refine Y_move ?_
          refine X_eqb rfl rfl rfl rfl rfl Tryz.underlying4 rfl ?_
          refine Y_move ?_
          refine XD_part 100 rfl (fun hc17 => ?_) (fun hc17 => ?_)
          ·replace hc17 := nT hc17
           simp only [AnswerV.eta, MarkV.eta, CellV.eta, HeldV.eta, WaitV.eta, ServerV.eta, PeerV.eta, OpV.eta, ParcelV.eta, PostV.eta, WorkerV.eta] at hc17
           (exfalso; first | (simp [eqX] at hc17; done) | exact hc17 (hw1 (by assumption)) | exact hw2 hc17)
          ·replace hc17 := nF hc17
           simp only [AnswerV.eta, MarkV.eta, CellV.eta, HeldV.eta, WaitV.eta, ServerV.eta, PeerV.eta, OpV.eta, ParcelV.eta, PostV.eta, WorkerV.eta] at hc17
           refine Y_fieldAddr F.foff37_0 ?_
           refine Y_load F.lay22 ?_
           refine Y_fieldAddr F.foff37_0 ?_
           refine Y_load F.lay22 ?_
           refine Y_cmp ?_
           refine Y_pick ?_
           refine Y_move ?_
           refine XD_part 107 rfl (fun hc18 => ?_) (fun hc18 => ?_)
           ·replace hc18 := nT hc18
            simp only [AnswerV.eta, MarkV.eta, CellV.eta, HeldV.eta, WaitV.eta, ServerV.eta, PeerV.eta, OpV.eta, ParcelV.eta, PostV.eta, WorkerV.eta] at hc18
            (exfalso; first | (simp [eqX] at hc18; done) | exact hc18 (hw1 (by assumption)) | exact hw2 hc18)
           ·replace hc18 := nF hc18
            simp only [AnswerV.eta, MarkV.eta, CellV.eta, HeldV.eta, WaitV.eta, ServerV.eta, PeerV.eta, OpV.eta, ParcelV.eta, PostV.eta, WorkerV.eta] at hc18
            refine Y_fieldAddr F.foff37_2 ?_
            refine Y_load F.lay9 ?_
            refine Y_fieldAddr F.foff37_2 ?_
            refine Y_load F.lay9 ?_
            refine Y_str ?_
            refine Y_pick ?_
            refine XD_end ?_
            refine K_then ?_
            refine Y_pk [113, 12, 10] ?_
            refine C_cond rfl (fun hc19 => ?_) (fun hc19 => ?_)
            ·replace hc19 := nT hc19
             simp only [AnswerV.eta, MarkV.eta, CellV.eta, HeldV.eta, WaitV.eta, ServerV.eta, PeerV.eta, OpV.eta, ParcelV.eta, PostV.eta, WorkerV.eta] at hc19
             (exfalso; first | (simp [eqX] at hc19; done) | exact hc19 (hw1 (by assumption)) | exact hw2 hc19)
            ·replace hc19 := nF hc19
             simp only [AnswerV.eta, MarkV.eta, CellV.eta, HeldV.eta, WaitV.eta, ServerV.eta, PeerV.eta, OpV.eta, ParcelV.eta, PostV.eta, WorkerV.eta] at hc19
             refine C_skip ?_
             refine K_then ?_
             refine Y_pk [12, 10] ?_
             iterate 2 refine C_seq ?_
             refine C_region (l := [0]) rfl ?_
             refine Y_assign ?_
             refine XD_end ?_
             refine K_then ?_
             refine C_block ?_
             refine Y_pk [20, 12, 10] ?_
             refine C_loopS (.succ .zero) (fun (k : Nat) z => z = [(20, .int .i64 (k : Int))] ∧ k ≤ x_l.length) (fun k => x_l.length - k) (0) (⟨rfl, by omega⟩) ?_
             rintro k _ ⟨rfl, hk⟩
             iterate 2 refine C_seq ?_
             refine C_region (l := [0, 1, 2, 3]) rfl ?_
             iterate 2 refine Y_move ?_
             refine Y_len_sl F.elem43 ?_
             refine Y_cmp ?_
             refine XD_end ?_
             refine K_then ?_
             refine C_cond rfl (fun hc20 => ?_) (fun hc20 => ?_)
             ·replace hc20 := dT hc20
              refine C_skip ?_
              refine K_then ?_
              refine C_seq ?_
              refine C_block ?_
              refine C_seq ?_
              obtain ⟨hw1, hw2⟩ := haw k (by omega)
              refine C_region (l := [0, 1, 2, 3, 4, 5, 6, 7]) rfl ?_
              iterate 2 refine Y_move ?_
              refine X_indexAddr rfl rfl rfl rfl F.elem43 (by rfl) (by omega) (by exact SlM.plain (by assumption) (by (simp; omega))) rfl ?_
              refine X_fieldAddr_el rfl rfl rfl (by exact SlM.plain (by assumption) (by (simp; omega))) F.foff51_1 rfl ?_
              refine X_fieldAddr_el rfl rfl rfl (by exact SlM.plain (by assumption) (by (simp; omega))) F.foff39_4 rfl ?_
              refine X_fieldAddr_el rfl rfl rfl (by exact SlM.plain (by assumption) (by (simp; omega))) F.foff34_0 rfl ?_
              refine X_load_el rfl rfl rfl (by assumption) (by exact row_map (by omega)) F.lay32 rfl rfl rfl ?_
              refine Y_assign ?_
              refine XD_end ?_
              refine K_then ?_
              refine C_seq ?_
              refine C_region (l := [0, 1, 2, 3, 4, 5, 6, 7, 8, 9, 10, 11, 12, 13, 14, 15, 16, 17, 18, 19]) rfl ?_
              iterate 2 refine Y_move ?_
              refine X_indexAddr rfl rfl rfl rfl F.elem43 (by rfl) (by omega) (by exact SlM.plain (by assumption) (by (simp; omega))) rfl ?_
              refine X_fieldAddr_el rfl rfl rfl (by exact SlM.plain (by assumption) (by (simp; omega))) F.foff51_1 rfl ?_
              refine X_fieldAddr_el rfl rfl rfl (by exact SlM.plain (by assumption) (by (simp; omega))) F.foff39_0 rfl ?_
              refine X_load_el rfl rfl rfl (by assumption) (by exact row_map (by omega)) F.lay3 rfl rfl rfl ?_
              refine Y_cmp ?_
              refine Y_move ?_
              refine XD_part 134 rfl (fun hc21 => ?_) (fun hc21 => ?_)
              ·replace hc21 := dT hc21
               simp only [List.get_eq_getElem] at hc21
               refine Y_move ?_
               refine Y_cmp ?_
               refine Y_pick ?_
               refine Y_move ?_
               refine XD_part 138 rfl (fun hc22 => ?_) (fun hc22 => ?_)
               ·replace hc22 := nT hc22
                simp only [List.get_eq_getElem] at hc22
                (exfalso; first | (simp [eqX] at hc22; done) | exact hc22 (hw1 (by assumption)) | exact hw2 hc22)
               ·replace hc22 := nF hc22
                simp only [List.get_eq_getElem] at hc22
                iterate 2 refine Y_move ?_
                refine X_indexAddr rfl rfl rfl rfl F.elem43 (by rfl) (by omega) (by exact SlM.plain (by assumption) (by (simp; omega))) rfl ?_
                refine X_fieldAddr_el rfl rfl rfl (by exact SlM.plain (by assumption) (by (simp; omega))) F.foff51_1 rfl ?_
                refine X_fieldAddr_el rfl rfl rfl (by exact SlM.plain (by assumption) (by (simp; omega))) F.foff39_0 rfl ?_
                refine X_load_el rfl rfl rfl (by assumption) (by exact row_map (by omega)) F.lay3 rfl rfl rfl ?_
                refine Y_cmp ?_
                refine Y_pick ?_
                refine XD_end ?_
                refine K_then ?_
                refine C_cond rfl (fun hc23 => ?_) (fun hc23 => ?_)
                ·replace hc23 := dT hc23
                 simp only [List.get_eq_getElem] at hc23
                 (exfalso; omega)
                ·replace hc23 := dF hc23
                 simp only [List.get_eq_getElem] at hc23
                 refine C_skip ?_
                 refine K_out ?_
                 refine K_then ?_
                 refine C_region (l := [0, 1, 2]) rfl ?_
                 refine Y_move ?_
                 refine X_ari rfl rfl rfl rfl rfl (by exact wrap_in (by decide) (by omega)) rfl ?_
                 refine Y_assign ?_
                 refine XD_end ?_
                 refine K_roundS (a' := [(20, _)]) (k + 1) (.cons (k := 20) rfl (.cons (k := 12) rfl (.cons (k := 10) rfl (.nil)))) (fun w hw => by first | exact hw | exact hw.c) ?_ ?_
                 ·exact ⟨rfl, by omega⟩
                 ·omega
              ·replace hc21 := dF hc21
               simp only [List.get_eq_getElem] at hc21
               iterate 2 refine Y_skip ?_
               refine Y_pick ?_
               iterate 3 refine Y_move ?_
               refine X_indexAddr rfl rfl rfl rfl F.elem43 (by rfl) (by omega) (by exact SlM.plain (by assumption) (by (simp; omega))) rfl ?_
               refine X_fieldAddr_el rfl rfl rfl (by exact SlM.plain (by assumption) (by (simp; omega))) F.foff51_1 rfl ?_
               refine X_fieldAddr_el rfl rfl rfl (by exact SlM.plain (by assumption) (by (simp; omega))) F.foff39_0 rfl ?_
               refine X_load_el rfl rfl rfl (by assumption) (by exact row_map (by omega)) F.lay3 rfl rfl rfl ?_
               refine Y_cmp ?_
               refine Y_pick ?_
               refine XD_end ?_
               refine K_then ?_
               refine C_cond rfl (fun hc24 => ?_) (fun hc24 => ?_)
               ·replace hc24 := dT hc24
                simp only [List.get_eq_getElem] at hc24
                (exfalso; first | (simp [eqX] at hc24; done) | exact hc24 (hw1 (by assumption)) | exact hw2 hc24)
               ·replace hc24 := dF hc24
                simp only [List.get_eq_getElem] at hc24
                refine C_skip ?_
                refine K_out ?_
                refine K_then ?_
                refine C_region (l := [0, 1, 2]) rfl ?_
                refine Y_move ?_
                refine X_ari rfl rfl rfl rfl rfl (by exact wrap_in (by decide) (by omega)) rfl ?_
                refine Y_assign ?_
                refine XD_end ?_
                refine K_roundS (a' := [(20, _)]) (k + 1) (.cons (k := 20) rfl (.cons (k := 12) rfl (.cons (k := 10) rfl (.nil)))) (fun w hw => by first | exact hw | exact hw.c) ?_ ?_
                ·exact ⟨rfl, by omega⟩
                ·omega
             ·replace hc20 := dF hc20
              refine C_exit ?_
              iterate 2 refine K_exit ?_
              refine K_hit ?_
              refine K_then ?_
              refine Y_pk [10] ?_
              refine C_seq ?_
              refine C_region (l := [0, 1]) rfl ?_
              refine X_fn rfl rfl F.ok13 rfl (served_ok _) rfl ?_
              rintro _ M99 hm99 rfl
              refine Y_assign ?_
              refine XD_end ?_
              refine K_then ?_
              refine Y_pk [10] ?_
              refine C_ret ?_
              refine K_end (.inr rfl) (.tmp rfl .nil) (fun w hw => ?_)
              refine ⟨_, _, rfl, (by exact Mem.le.trans (by assumption) (by assumption)), (hw.c), ?_⟩
              clear hw
              rfl

end Go.Proofs.YtpkeilhilpogiaaGreat
