/-
  Texts of this claim, one behind the other: V22, V23, SmallN, ServX, V24, ServN, V25, V26, V27, AnsL, V28.
-/
import Derived.Test.YtpkeilhilpogiaaGreatPd4
import Derived.KernelRfl
/-
  A copy; one told.
-/
set_option linter.unusedSimpArgs false
set_option linter.unusedVariables false
set_option linter.unnecessarySimpa false
set_option maxRecDepth 8000
set_option maxHeartbeats 1000000
namespace Go.Proofs.YtpkeilhilpogiaaGreat
open Go.Esp
theorem F.ok60 : okFn Tryz.prog 60 = true := by kernel_rfl
theorem F.ok62 : okFn Tryz.prog 62 = true := by kernel_rfl
theorem F.ok63 : okFn Tryz.prog 63 = true := by kernel_rfl

theorem copy_ok9 (M : Mem) (bw : Nat) (s_addr s_epoch s_serial r : Int) (s_store_a s_waits_a l_a : Option Addr) (s_store_c s_waits_c l_c : Nat) (s_store_l : List HeldV) (s_waits_l : List WaitV) (l_l : List PeerV) (hw0 : Hp) (hW : OSl 54 28 (.slice s_waits_a s_waits_l.length s_waits_c) hw0 (s_waits_l.map WaitV.segs)) (hLw : s_waits_l.length ≤ 1000) (okw : ∀ x ∈ s_waits_l, WaitV.ok M x) (k_st : SlK M HeldV.segs 24 ⟨s_store_a, s_store_c, s_store_l⟩) (hsto : ∀ y ∈ s_store_l, HeldV.ok M y) (frm : Int) (p : ParcelV) (okp : CellV.ok M p.cell) : Fh Tryz.prog 26 [.pointer (some ⟨bw, 0, none⟩), .int .i64 frm, p.enc] M ((bw, rowO (WorkerV.segs ⟨⟨s_addr, s_epoch, ⟨s_store_a, s_store_c, s_store_l⟩, ⟨s_waits_a, s_waits_c, s_waits_l⟩, s_serial⟩, ⟨l_a, l_c, l_l⟩, r, ⟨none, 0, []⟩⟩) 67) :: hw0) (fun M' v Hout => v = .tuple #[] ∧ WkE bw 67 51 54 ⟨l_a, l_c, l_l⟩ r M' Hout (copyR (ServerV.pl ⟨s_addr, s_epoch, ⟨s_store_a, s_store_c, s_store_l⟩, ⟨s_waits_a, s_waits_c, s_waits_l⟩, s_serial⟩) frm p.pl)) := by
  obtain ⟨p_kind, p_epoch, p_key, ⟨p_op_client, p_op_req, p_op_kind, p_op_version, p_op_val⟩, ⟨p_answer_code, p_answer_version, p_answer_has, p_answer_val⟩, p_serial, ⟨p_cell_version, p_cell_has, p_cell_val, ⟨p_cell_marks_a, p_cell_marks_c, p_cell_marks_l⟩⟩⟩ := p
  simp only at okp
  show Fh _ _ _ _ _ (fun M' v Hout => v = .tuple #[] ∧ WkE bw 67 51 54 ⟨l_a, l_c, l_l⟩ r M' Hout (copyR (ServerV.pl ⟨s_addr, s_epoch, ⟨s_store_a, s_store_c, s_store_l⟩, ⟨s_waits_a, s_waits_c, s_waits_l⟩, s_serial⟩) frm (ParcelV.pl ⟨p_kind, p_epoch, p_key, ⟨p_op_client, p_op_req, p_op_kind, p_op_version, p_op_val⟩, ⟨p_answer_code, p_answer_version, p_answer_has, p_answer_val⟩, p_serial, ⟨p_cell_version, p_cell_has, p_cell_val, ⟨p_cell_marks_a, p_cell_marks_c, p_cell_marks_l⟩⟩⟩)))
  refine fh_enterF (fun H => (bw, rowO (WorkerV.segs ⟨⟨s_addr, s_epoch, ⟨s_store_a, s_store_c, s_store_l⟩, ⟨s_waits_a, s_waits_c, s_waits_l⟩, s_serial⟩, ⟨l_a, l_c, l_l⟩, r, ⟨none, 0, []⟩⟩) 67) :: (hw0 ++ H)) (fun _ => by simp only [List.append_assoc, List.cons_append, List.nil_append]) Tryz.func26 rfl Tryz.ntmps26 rfl ?_; intro H
  refine C_seq ?_
  refine C_region (l := [0]) rfl ?_
  refine Y_box ?_; intro b1
  refine XD_end ?_
  refine K_then ?_
  refine Y_pk [5, 0, 1] ?_
  refine C_seq ?_
  refine C_region (l := [0, 1, 2, 3]) rfl ?_
  refine Y_fieldAddr F.foff39_6 ?_
  refine Y_load F.lay37 ?_
  refine Y_alloc F.zero37 ?_; intro b2
  refine Y_store F.lay37 ?_
  refine XD_end ?_
  refine K_then ?_
  refine Y_pk [6, 5, 0, 1] ?_
  iterate 2 refine C_seq ?_
  refine C_region_any (l := [0, 1, 2, 3, 4, 5, 6, 7, 8, 9, 10, 11, 12, 13]) #[0, 1, 3, 7, 15, 0, 32, 127, 255, 511, 511, 0, 3071, 8191] _ rfl (by kernel_rfl) (by kernel_rfl) St.drawn (fun _ h => h) ?_
  refine Y_move ?_
  refine Y_nilCheck ?_
  refine Y_fieldAddr F.foff67_0 ?_
  refine Y_fieldAddr F.foff26_2 ?_
  refine Y_load F.lay23 ?_
  refine Y_fieldAddr F.foff39_2 ?_
  refine Y_load F.lay29 ?_
  refine X_fs rfl rfl F.ok19 rfl (Find_ok _ ⟨s_store_a, s_store_c, s_store_l⟩ p_key k_st hsto) rfl ?_
  rintro _ hv
  obtain ⟨⟨xc, xb⟩, hx⟩ : ∃ r, findX s_store_l p_key = r := ⟨_, rfl⟩
  replace hv : _ = findXv (findX s_store_l p_key) := hv
  rw [hx] at hv
  subst hv
  have hfs := findX_S hx
  have okx : CellV.ok M xc := by have h9 := findX_ok hsto p_key; rw [hx] at h9; exact h9
  obtain ⟨x_v, x_h, x_s, ⟨x_a, x_c, x_l⟩⟩ := xc
  refine Y_move ?_
  iterate 2 refine Y_extract ?_
  refine Y_alloc F.zero37 ?_; intro b3
  refine Y_store F.lay37 ?_
  refine Y_assign ?_
  refine XD_end ?_
  refine K_then ?_
  refine Y_pk [8, 7, 6, 5, 0, 1] ?_
  refine C_seq ?_
  refine C_region (l := [0]) rfl ?_
  refine Y_move ?_
  refine XD_end ?_
  refine K_then ?_
  refine Y_pk [22, 7, 6, 5, 0, 1] ?_
  refine C_cond rfl (fun hc4 => ?_) (fun hc4 => ?_)
  ·skip
   simp only [AnswerV.eta, MarkV.eta, CellV.eta, HeldV.eta, WaitV.eta, ServerV.eta, PeerV.eta, OpV.eta, ParcelV.eta, PostV.eta, WorkerV.eta] at hc4
   refine C_region (l := [0, 1, 2, 3, 4, 5, 6]) rfl ?_
   iterate 2 refine Y_load F.lay37 ?_
   refine X_fn rfl rfl F.ok60 rfl (Merge_ok _ ⟨x_v, x_h, x_s, ⟨x_a, x_c, x_l⟩⟩ ⟨p_cell_version, p_cell_has, p_cell_val, ⟨p_cell_marks_a, p_cell_marks_c, p_cell_marks_l⟩⟩ okx okp) rfl ?_
   rintro _ M1 hm1 ⟨⟨y_v, y_h, y_s, ⟨y_a, y_c, y_l⟩⟩, rfl, hy, oky⟩
   refine Y_move ?_
   iterate 2 refine Y_extract ?_
   refine Y_store F.lay37 ?_
   refine XD_end ?_
   refine K_then ?_
   refine Y_pk [6, 5, 0, 1] ?_
   refine C_seq ?_
   refine C_regionW (l := [0, 1, 2, 3, 4]) [4] rfl ?_
   refine Y_move ?_
   refine Y_fieldAddr F.foff39_2 ?_
   refine Y_load F.lay29 ?_
   refine Y_load F.lay37 ?_
   refine X_fhW rfl rfl rfl F.ok57 rfl (put_ok9 M1 bw s_addr s_epoch s_serial r s_store_a s_waits_a l_a none s_store_c s_waits_c l_c 0 s_store_l s_waits_l l_l [] (k_st.mono hm1) (fun h hh => (hsto h hh).mono hm1) p_key ⟨y_v, y_h, y_s, ⟨y_a, y_c, y_l⟩⟩ oky) (by repeat first | exact Rem.here _ | exact Rem.two | apply Rem.skip | apply Rem.over) (putE_some rfl) ?_
   rintro _ M2 hs2 hm2 ⟨⟨u_a, u_c, u_l⟩, rfl, rfl, k_u, l_u, hu⟩
   obtain ⟨⟨Q1, qe⟩, hQ⟩ : ∃ x, putR (pls s_store_l) p_key (CellV.pl ⟨y_v, y_h, y_s, ⟨y_a, y_c, y_l⟩⟩) = x := ⟨_, rfl⟩
   rw [hQ] at hu ⊢
   simp only at hu l_u ⊢
   simp only [List.append_assoc, List.cons_append, List.nil_append]
   refine XD_end ?_
   refine K_unw ?_
   refine K_then ?_
   refine Y_pk [33, 5, 0, 1] ?_
   refine C_cond rfl (fun hc5 => ?_) (fun hc5 => ?_)
   ·replace hc5 := dT hc5
    refine C_regionW (l := [0, 1, 2, 3, 4, 5]) [5] rfl ?_
    iterate 2 refine Y_move ?_
    refine Y_fieldAddr F.foff39_5 ?_
    refine Y_load F.lay22 ?_
    refine X_build rfl rfl F.bld39 (.cons rfl (by constructor) (.cons rfl (by constructor) .nil)) rfl rfl ?_
    refine X_fhW rfl rfl rfl F.ok61 rfl (send_ok M2 bw s_addr s_epoch s_serial r u_a s_waits_a l_a none u_c s_waits_c l_c 0 u_l s_waits_l l_l [] [] OSl.nil (by show 0 ≤ 100000; omega) frm ⟨4, 0, 0, OpV.zero, AnswerV.zero, p_serial, CellV.zero⟩) (by repeat first | exact Rem.here _ | exact Rem.two | apply Rem.skip | apply Rem.over) (putE_some rfl) ?_
    rintro _ MX hsX hmX ⟨hMX, rfl, ⟨o2_a, o2_c, o2_l⟩, ho2, rfl, hO2, ho2l⟩
    subst MX
    clear hmX
    simp only at ho2l hO2
    rw [List.nil_append] at ho2l
    simp only [List.append_assoc, List.cons_append, List.nil_append]
    refine XD_end ?_
    refine K_unw ?_
    refine K_end (.inl rfl) (.nil) (fun w hw => ?_)
    have hxb : xb = true := by first | assumption | (simp_all; done)
    subst hxb
    replace hfs := hfs.trans (if_pos rfl)
    have hcm : copyM (ServerV.pl ⟨s_addr, s_epoch, ⟨s_store_a, s_store_c, s_store_l⟩, ⟨s_waits_a, s_waits_c, s_waits_l⟩, s_serial⟩) (ParcelV.pl ⟨p_kind, p_epoch, p_key, ⟨p_op_client, p_op_req, p_op_kind, p_op_version, p_op_val⟩, ⟨p_answer_code, p_answer_version, p_answer_has, p_answer_val⟩, p_serial, ⟨p_cell_version, p_cell_has, p_cell_val, ⟨p_cell_marks_a, p_cell_marks_c, p_cell_marks_l⟩⟩⟩) = CellV.pl ⟨y_v, y_h, y_s, ⟨y_a, y_c, y_l⟩⟩ := (copyM_some (s := ServerV.pl ⟨s_addr, s_epoch, ⟨s_store_a, s_store_c, s_store_l⟩, ⟨s_waits_a, s_waits_c, s_waits_l⟩, s_serial⟩) (p := ParcelV.pl ⟨p_kind, p_epoch, p_key, ⟨p_op_client, p_op_req, p_op_kind, p_op_version, p_op_val⟩, ⟨p_answer_code, p_answer_version, p_answer_has, p_answer_val⟩, p_serial, ⟨p_cell_version, p_cell_has, p_cell_val, ⟨p_cell_marks_a, p_cell_marks_c, p_cell_marks_l⟩⟩⟩) hfs).trans hy.symm
    have hqe : qe = 0 := by first | assumption | (simp_all; done)
    rw [if_pos hqe] at hu
    have hcy := copyR_yes (s := ServerV.pl ⟨s_addr, s_epoch, ⟨s_store_a, s_store_c, s_store_l⟩, ⟨s_waits_a, s_waits_c, s_waits_l⟩, s_serial⟩) (f := frm) (p := ParcelV.pl ⟨p_kind, p_epoch, p_key, ⟨p_op_client, p_op_req, p_op_kind, p_op_version, p_op_val⟩, ⟨p_answer_code, p_answer_version, p_answer_has, p_answer_val⟩, p_serial, ⟨p_cell_version, p_cell_has, p_cell_val, ⟨p_cell_marks_a, p_cell_marks_c, p_cell_marks_l⟩⟩⟩) hcm hQ hqe
    refine ⟨_, M2, (bw, rowO (WorkerV.segs ⟨⟨s_addr, s_epoch, ⟨u_a, u_c, u_l⟩, ⟨s_waits_a, s_waits_c, s_waits_l⟩, s_serial⟩, ⟨l_a, l_c, l_l⟩, r, ⟨o2_a, o2_c, o2_l⟩⟩) 67) :: (ho2 ++ hw0), rfl, (hm1.trans hm2), ?_, rfl, ⟨⟨s_addr, s_epoch, ⟨u_a, u_c, u_l⟩, ⟨s_waits_a, s_waits_c, s_waits_l⟩, s_serial⟩, ⟨o2_a, o2_c, o2_l⟩, ho2, hw0, rfl, hO2, hW, (by rw [hcy]; show Srv.mk _ _ (pls u_l) _ _ = Srv.mk _ _ Q1 _ _; rw [hu] <;> rfl), (by rw [hcy, ho2l]; rfl), k_u, l_u, (fun h hh => (okw h hh).mono (hm1.trans hm2)), (fun y hy => by rw [ho2l] at hy; obtain rfl := List.mem_singleton.1 hy; exact ⟨⟨CellV.zero_ok _⟩⟩)⟩⟩
    ·simp only [WorkerV.segs, Sl.val] at hw ⊢
     exact hw.c
   ·replace hc5 := dF hc5
    refine C_skip ?_
    refine K_end (.inl rfl) (.nil) (fun w hw => ?_)
    have hxb : xb = true := by first | assumption | (simp_all; done)
    subst hxb
    replace hfs := hfs.trans (if_pos rfl)
    have hcm : copyM (ServerV.pl ⟨s_addr, s_epoch, ⟨s_store_a, s_store_c, s_store_l⟩, ⟨s_waits_a, s_waits_c, s_waits_l⟩, s_serial⟩) (ParcelV.pl ⟨p_kind, p_epoch, p_key, ⟨p_op_client, p_op_req, p_op_kind, p_op_version, p_op_val⟩, ⟨p_answer_code, p_answer_version, p_answer_has, p_answer_val⟩, p_serial, ⟨p_cell_version, p_cell_has, p_cell_val, ⟨p_cell_marks_a, p_cell_marks_c, p_cell_marks_l⟩⟩⟩) = CellV.pl ⟨y_v, y_h, y_s, ⟨y_a, y_c, y_l⟩⟩ := (copyM_some (s := ServerV.pl ⟨s_addr, s_epoch, ⟨s_store_a, s_store_c, s_store_l⟩, ⟨s_waits_a, s_waits_c, s_waits_l⟩, s_serial⟩) (p := ParcelV.pl ⟨p_kind, p_epoch, p_key, ⟨p_op_client, p_op_req, p_op_kind, p_op_version, p_op_val⟩, ⟨p_answer_code, p_answer_version, p_answer_has, p_answer_val⟩, p_serial, ⟨p_cell_version, p_cell_has, p_cell_val, ⟨p_cell_marks_a, p_cell_marks_c, p_cell_marks_l⟩⟩⟩) hfs).trans hy.symm
    have hqe : ¬ qe = 0 := by first | assumption | (simp_all; done)
    rw [if_neg hqe] at hu
    have hcy := copyR_no (s := ServerV.pl ⟨s_addr, s_epoch, ⟨s_store_a, s_store_c, s_store_l⟩, ⟨s_waits_a, s_waits_c, s_waits_l⟩, s_serial⟩) (f := frm) (p := ParcelV.pl ⟨p_kind, p_epoch, p_key, ⟨p_op_client, p_op_req, p_op_kind, p_op_version, p_op_val⟩, ⟨p_answer_code, p_answer_version, p_answer_has, p_answer_val⟩, p_serial, ⟨p_cell_version, p_cell_has, p_cell_val, ⟨p_cell_marks_a, p_cell_marks_c, p_cell_marks_l⟩⟩⟩) hcm hQ hqe
    refine ⟨_, M2, (bw, rowO (WorkerV.segs ⟨⟨s_addr, s_epoch, ⟨u_a, u_c, u_l⟩, ⟨s_waits_a, s_waits_c, s_waits_l⟩, s_serial⟩, ⟨l_a, l_c, l_l⟩, r, ⟨none, 0, []⟩⟩) 67) :: ([] ++ hw0), rfl, (hm1.trans hm2), ?_, rfl, ⟨⟨s_addr, s_epoch, ⟨u_a, u_c, u_l⟩, ⟨s_waits_a, s_waits_c, s_waits_l⟩, s_serial⟩, ⟨none, 0, []⟩, [], hw0, rfl, OSl.nil, hW, (by rw [hcy]; show Srv.mk _ _ (pls u_l) _ _ = Srv.mk _ _ (pls s_store_l) _ _; rw [hu] <;> rfl), (by rw [hcy]; rfl), k_u, l_u, (fun h hh => (okw h hh).mono (hm1.trans hm2)), (fun y hy => by cases hy)⟩⟩
    ·simp only [WorkerV.segs, Sl.val] at hw ⊢
     exact hw.c
  ·skip
   simp only [AnswerV.eta, MarkV.eta, CellV.eta, HeldV.eta, WaitV.eta, ServerV.eta, PeerV.eta, OpV.eta, ParcelV.eta, PostV.eta, WorkerV.eta] at hc4
   refine C_skip ?_
   refine K_then ?_
   refine Y_pk [6, 5, 0, 1] ?_
   refine C_seq ?_
   refine C_regionW (l := [0, 1, 2, 3, 4]) [4] rfl ?_
   refine Y_move ?_
   refine Y_fieldAddr F.foff39_2 ?_
   refine Y_load F.lay29 ?_
   refine Y_load F.lay37 ?_
   refine X_fhW rfl rfl rfl F.ok57 rfl (put_ok9 M bw s_addr s_epoch s_serial r s_store_a s_waits_a l_a none s_store_c s_waits_c l_c 0 s_store_l s_waits_l l_l [] k_st hsto p_key ⟨p_cell_version, p_cell_has, p_cell_val, ⟨p_cell_marks_a, p_cell_marks_c, p_cell_marks_l⟩⟩ okp) (by repeat first | exact Rem.here _ | exact Rem.two | apply Rem.skip | apply Rem.over) (putE_some rfl) ?_
   rintro _ M2 hs2 hm2 ⟨⟨u_a, u_c, u_l⟩, rfl, rfl, k_u, l_u, hu⟩
   obtain ⟨⟨Q1, qe⟩, hQ⟩ : ∃ x, putR (pls s_store_l) p_key (CellV.pl ⟨p_cell_version, p_cell_has, p_cell_val, ⟨p_cell_marks_a, p_cell_marks_c, p_cell_marks_l⟩⟩) = x := ⟨_, rfl⟩
   rw [hQ] at hu ⊢
   simp only at hu l_u ⊢
   simp only [List.append_assoc, List.cons_append, List.nil_append]
   refine XD_end ?_
   refine K_unw ?_
   refine K_then ?_
   refine Y_pk [33, 5, 0, 1] ?_
   refine C_cond rfl (fun hc6 => ?_) (fun hc6 => ?_)
   ·replace hc6 := dT hc6
    refine C_regionW (l := [0, 1, 2, 3, 4, 5]) [5] rfl ?_
    iterate 2 refine Y_move ?_
    refine Y_fieldAddr F.foff39_5 ?_
    refine Y_load F.lay22 ?_
    refine X_build rfl rfl F.bld39 (.cons rfl (by constructor) (.cons rfl (by constructor) .nil)) rfl rfl ?_
    refine X_fhW rfl rfl rfl F.ok61 rfl (send_ok M2 bw s_addr s_epoch s_serial r u_a s_waits_a l_a none u_c s_waits_c l_c 0 u_l s_waits_l l_l [] [] OSl.nil (by show 0 ≤ 100000; omega) frm ⟨4, 0, 0, OpV.zero, AnswerV.zero, p_serial, CellV.zero⟩) (by repeat first | exact Rem.here _ | exact Rem.two | apply Rem.skip | apply Rem.over) (putE_some rfl) ?_
    rintro _ MX hsX hmX ⟨hMX, rfl, ⟨o2_a, o2_c, o2_l⟩, ho2, rfl, hO2, ho2l⟩
    subst MX
    clear hmX
    simp only at ho2l hO2
    rw [List.nil_append] at ho2l
    simp only [List.append_assoc, List.cons_append, List.nil_append]
    refine XD_end ?_
    refine K_unw ?_
    refine K_end (.inl rfl) (.nil) (fun w hw => ?_)
    have hxb : xb = false := by first | assumption | (simp_all; done)
    subst hxb
    replace hfs := hfs.trans (if_neg (fun e => by cases e))
    have hcm : copyM (ServerV.pl ⟨s_addr, s_epoch, ⟨s_store_a, s_store_c, s_store_l⟩, ⟨s_waits_a, s_waits_c, s_waits_l⟩, s_serial⟩) (ParcelV.pl ⟨p_kind, p_epoch, p_key, ⟨p_op_client, p_op_req, p_op_kind, p_op_version, p_op_val⟩, ⟨p_answer_code, p_answer_version, p_answer_has, p_answer_val⟩, p_serial, ⟨p_cell_version, p_cell_has, p_cell_val, ⟨p_cell_marks_a, p_cell_marks_c, p_cell_marks_l⟩⟩⟩) = CellV.pl ⟨p_cell_version, p_cell_has, p_cell_val, ⟨p_cell_marks_a, p_cell_marks_c, p_cell_marks_l⟩⟩ := copyM_none (s := ServerV.pl ⟨s_addr, s_epoch, ⟨s_store_a, s_store_c, s_store_l⟩, ⟨s_waits_a, s_waits_c, s_waits_l⟩, s_serial⟩) (p := ParcelV.pl ⟨p_kind, p_epoch, p_key, ⟨p_op_client, p_op_req, p_op_kind, p_op_version, p_op_val⟩, ⟨p_answer_code, p_answer_version, p_answer_has, p_answer_val⟩, p_serial, ⟨p_cell_version, p_cell_has, p_cell_val, ⟨p_cell_marks_a, p_cell_marks_c, p_cell_marks_l⟩⟩⟩) hfs
    have hqe : qe = 0 := by first | assumption | (simp_all; done)
    rw [if_pos hqe] at hu
    have hcy := copyR_yes (s := ServerV.pl ⟨s_addr, s_epoch, ⟨s_store_a, s_store_c, s_store_l⟩, ⟨s_waits_a, s_waits_c, s_waits_l⟩, s_serial⟩) (f := frm) (p := ParcelV.pl ⟨p_kind, p_epoch, p_key, ⟨p_op_client, p_op_req, p_op_kind, p_op_version, p_op_val⟩, ⟨p_answer_code, p_answer_version, p_answer_has, p_answer_val⟩, p_serial, ⟨p_cell_version, p_cell_has, p_cell_val, ⟨p_cell_marks_a, p_cell_marks_c, p_cell_marks_l⟩⟩⟩) hcm hQ hqe
    refine ⟨_, M2, (bw, rowO (WorkerV.segs ⟨⟨s_addr, s_epoch, ⟨u_a, u_c, u_l⟩, ⟨s_waits_a, s_waits_c, s_waits_l⟩, s_serial⟩, ⟨l_a, l_c, l_l⟩, r, ⟨o2_a, o2_c, o2_l⟩⟩) 67) :: (ho2 ++ hw0), rfl, hm2, ?_, rfl, ⟨⟨s_addr, s_epoch, ⟨u_a, u_c, u_l⟩, ⟨s_waits_a, s_waits_c, s_waits_l⟩, s_serial⟩, ⟨o2_a, o2_c, o2_l⟩, ho2, hw0, rfl, hO2, hW, (by rw [hcy]; show Srv.mk _ _ (pls u_l) _ _ = Srv.mk _ _ Q1 _ _; rw [hu] <;> rfl), (by rw [hcy, ho2l]; rfl), k_u, l_u, (fun h hh => (okw h hh).mono hm2), (fun y hy => by rw [ho2l] at hy; obtain rfl := List.mem_singleton.1 hy; exact ⟨⟨CellV.zero_ok _⟩⟩)⟩⟩
    ·simp only [WorkerV.segs, Sl.val] at hw ⊢
     exact hw.c
   ·replace hc6 := dF hc6
    refine C_skip ?_
    refine K_end (.inl rfl) (.nil) (fun w hw => ?_)
    have hxb : xb = false := by first | assumption | (simp_all; done)
    subst hxb
    replace hfs := hfs.trans (if_neg (fun e => by cases e))
    have hcm : copyM (ServerV.pl ⟨s_addr, s_epoch, ⟨s_store_a, s_store_c, s_store_l⟩, ⟨s_waits_a, s_waits_c, s_waits_l⟩, s_serial⟩) (ParcelV.pl ⟨p_kind, p_epoch, p_key, ⟨p_op_client, p_op_req, p_op_kind, p_op_version, p_op_val⟩, ⟨p_answer_code, p_answer_version, p_answer_has, p_answer_val⟩, p_serial, ⟨p_cell_version, p_cell_has, p_cell_val, ⟨p_cell_marks_a, p_cell_marks_c, p_cell_marks_l⟩⟩⟩) = CellV.pl ⟨p_cell_version, p_cell_has, p_cell_val, ⟨p_cell_marks_a, p_cell_marks_c, p_cell_marks_l⟩⟩ := copyM_none (s := ServerV.pl ⟨s_addr, s_epoch, ⟨s_store_a, s_store_c, s_store_l⟩, ⟨s_waits_a, s_waits_c, s_waits_l⟩, s_serial⟩) (p := ParcelV.pl ⟨p_kind, p_epoch, p_key, ⟨p_op_client, p_op_req, p_op_kind, p_op_version, p_op_val⟩, ⟨p_answer_code, p_answer_version, p_answer_has, p_answer_val⟩, p_serial, ⟨p_cell_version, p_cell_has, p_cell_val, ⟨p_cell_marks_a, p_cell_marks_c, p_cell_marks_l⟩⟩⟩) hfs
    have hqe : ¬ qe = 0 := by first | assumption | (simp_all; done)
    rw [if_neg hqe] at hu
    have hcy := copyR_no (s := ServerV.pl ⟨s_addr, s_epoch, ⟨s_store_a, s_store_c, s_store_l⟩, ⟨s_waits_a, s_waits_c, s_waits_l⟩, s_serial⟩) (f := frm) (p := ParcelV.pl ⟨p_kind, p_epoch, p_key, ⟨p_op_client, p_op_req, p_op_kind, p_op_version, p_op_val⟩, ⟨p_answer_code, p_answer_version, p_answer_has, p_answer_val⟩, p_serial, ⟨p_cell_version, p_cell_has, p_cell_val, ⟨p_cell_marks_a, p_cell_marks_c, p_cell_marks_l⟩⟩⟩) hcm hQ hqe
    refine ⟨_, M2, (bw, rowO (WorkerV.segs ⟨⟨s_addr, s_epoch, ⟨u_a, u_c, u_l⟩, ⟨s_waits_a, s_waits_c, s_waits_l⟩, s_serial⟩, ⟨l_a, l_c, l_l⟩, r, ⟨none, 0, []⟩⟩) 67) :: ([] ++ hw0), rfl, hm2, ?_, rfl, ⟨⟨s_addr, s_epoch, ⟨u_a, u_c, u_l⟩, ⟨s_waits_a, s_waits_c, s_waits_l⟩, s_serial⟩, ⟨none, 0, []⟩, [], hw0, rfl, OSl.nil, hW, (by rw [hcy]; show Srv.mk _ _ (pls u_l) _ _ = Srv.mk _ _ (pls s_store_l) _ _; rw [hu] <;> rfl), (by rw [hcy]; rfl), k_u, l_u, (fun h hh => (okw h hh).mono hm2), (fun y hy => by cases hy)⟩⟩
    ·simp only [WorkerV.segs, Sl.val] at hw ⊢
     exact hw.c

theorem copied_ok9 (M : Mem) (bw : Nat) (s_addr s_epoch s_serial r : Int) (s_store_a s_waits_a l_a : Option Addr) (s_store_c s_waits_c l_c : Nat) (s_store_l : List HeldV) (s_waits_l : List WaitV) (l_l : List PeerV) (hw0 : Hp) (hW : OSl 54 28 (.slice s_waits_a s_waits_l.length s_waits_c) hw0 (s_waits_l.map WaitV.segs)) (hLw : s_waits_l.length ≤ 1000) (okw : ∀ x ∈ s_waits_l, WaitV.ok M x) (k_st : SlK M HeldV.segs 24 ⟨s_store_a, s_store_c, s_store_l⟩) (hsto : ∀ y ∈ s_store_l, HeldV.ok M y) (hsv : IsSrv (ServerV.pl ⟨s_addr, s_epoch, ⟨s_store_a, s_store_c, s_store_l⟩, ⟨s_waits_a, s_waits_c, s_waits_l⟩, s_serial⟩)) (frm serial : Int) : Fh Tryz.prog 27 [.pointer (some ⟨bw, 0, none⟩), .int .i64 frm, .int .u64 serial] M ((bw, rowO (WorkerV.segs ⟨⟨s_addr, s_epoch, ⟨s_store_a, s_store_c, s_store_l⟩, ⟨s_waits_a, s_waits_c, s_waits_l⟩, s_serial⟩, ⟨l_a, l_c, l_l⟩, r, ⟨none, 0, []⟩⟩) 67) :: hw0) (fun M' v Hout => v = .tuple #[] ∧ WkE bw 67 51 54 ⟨l_a, l_c, l_l⟩ r M' Hout (copiedR (ServerV.pl ⟨s_addr, s_epoch, ⟨s_store_a, s_store_c, s_store_l⟩, ⟨s_waits_a, s_waits_c, s_waits_l⟩, s_serial⟩) frm serial)) := by
  refine fh_enterF (fun H => (bw, rowO (WorkerV.segs ⟨⟨s_addr, s_epoch, ⟨s_store_a, s_store_c, s_store_l⟩, ⟨s_waits_a, s_waits_c, s_waits_l⟩, s_serial⟩, ⟨l_a, l_c, l_l⟩, r, ⟨none, 0, []⟩⟩) 67) :: (hw0 ++ H)) (fun _ => by simp only [List.append_assoc, List.cons_append, List.nil_append]) Tryz.func27 rfl Tryz.ntmps27 rfl ?_; intro H
  refine C_seq ?_
  refine C_region (l := [0, 1, 2]) rfl ?_
  refine Y_box ?_; intro b1
  refine Y_box ?_; intro b2
  refine Y_box ?_; intro b3
  refine XD_end ?_
  refine K_then ?_
  refine Y_pk [5, 4, 3] ?_
  refine C_seq ?_
  refine C_region_anyW (l := [0, 1, 2, 3, 4, 5, 6, 7, 8, 9, 10, 11]) [5] #[0, 0, 2, 6, 14, 30, 0, 126, 255, 511, 1023, 2047] (St M ((b3, rowO [.one (.int .u64 serial)] 22) :: (b1, rowO [.one (.pointer (some ⟨bw, 0, none⟩))] 65) :: (b2, rowO [.one (.int .i64 frm)] 3) :: H)) rfl (by kernel_rfl) (by kernel_rfl) St.drawn (fun _ hw => hw.c) ?_
  iterate 2 refine Y_load F.lay65 ?_
  refine Y_nilCheck ?_
  refine Y_fieldAddr F.foff67_0 ?_
  refine Y_fieldAddr F.foff26_3 ?_
  refine X_loadA rfl rfl rfl rfl (by repeat first | exact List.Mem.head _ | refine List.Mem.tail _ ?_ | refine List.mem_append_right _ ?_) F.lay24 rfl rfl rfl ?_
  refine X_makeFunc rfl rfl rfl rfl rfl ?_
  refine X_fhC H rfl rfl F.ok62 rfl (DeleteIW_ok M hw0 ((b3, rowO [.one (.int .u64 serial)] 22) :: (b1, rowO [.one (.pointer (some ⟨bw, 0, none⟩))] 65) :: (b2, rowO [.one (.int .i64 frm)] 3) :: (bw, rowO (WorkerV.segs ⟨⟨s_addr, s_epoch, ⟨s_store_a, s_store_c, s_store_l⟩, ⟨s_waits_a, s_waits_c, s_waits_l⟩, s_serial⟩, ⟨l_a, l_c, l_l⟩, r, ⟨none, 0, []⟩⟩) 67) :: []) s_waits_a s_waits_c s_waits_l hW (by omega) 63 [.pointer (some ⟨b3, 0, none⟩), .pointer (some ⟨b1, 0, none⟩), .pointer (some ⟨b2, 0, none⟩)] (goneW frm serial) (fun j h => ∃ (o9 : Sl PostV) (ho9 : Hp), h = (b3, rowO [.one (.int .u64 serial)] 22) :: (b1, rowO [.one (.pointer (some ⟨bw, 0, none⟩))] 65) :: (b2, rowO [.one (.int .i64 frm)] 3) :: (bw, rowO (WorkerV.segs ⟨⟨s_addr, s_epoch, ⟨s_store_a, s_store_c, s_store_l⟩, ⟨s_waits_a, s_waits_c, s_waits_l⟩, s_serial⟩, ⟨l_a, l_c, l_l⟩, r, o9⟩) 67) :: ho9 ∧ OSl 51 37 o9.val ho9 (o9.l.map PostV.segs) ∧ o9.l = (s_waits_l.take j).filterMap (doneV s_epoch frm serial)) F.ok63 (fun j hj h hin => by
   obtain ⟨⟨o5_a, o5_c, o5_l⟩, ho5, rfl, hO5, ho5l⟩ := hin
   simp only at ho5l hO5
   have hl5 : o5_l.length ≤ 1000 := by rw [ho5l]; exact Nat.le_trans (List.length_filterMap_le ..) (by simp; omega)
   have hwo : WtOk (WaitV.pl s_waits_l[j]) := hsv.1.1 _ (List.mem_map_of_mem (f := WaitV.pl) (List.getElem_mem hj))
   have hnb : s_waits_l[j].need.l.length ≤ 1000 := by have h9 := hwo.2.1.2; simp only [WaitV.pl] at h9; omega
   exact fh_weak (goneW_ok M bw s_addr s_epoch s_serial r s_store_a s_waits_a l_a o5_a s_store_c s_waits_c l_c o5_c s_store_l s_waits_l l_l o5_l b3 b1 b2 serial ho5 hO5 (by omega) s_waits_l[j] (okw _ (List.getElem_mem hj)).h0 hnb hwo.2.2.1 frm) fun M9 v9 Ho9 ⟨g1, g2, o6, ho6, g3, g4, g5⟩ => ⟨g1, g2, o6, ho6, g3, g4, by rw [g5, ho5l, fm_take hj]⟩) ⟨⟨none, 0, []⟩, [], rfl, OSl.nil, rfl⟩) (by intro zz; first | exact Nat.le_refl _ | (simp only [cnt_app, cnt_cons, cnt_nil, cat, List.append_eq, List.append_assoc, List.cons_append, List.nil_append, List.append_nil]; omega) | (simp only [cnt_app, cnt_cons, cnt_nil, cat, List.append_eq, List.append_assoc, List.cons_append, List.nil_append, List.append_nil, AnswerV.segs, MarkV.segs, CellV.segs, HeldV.segs, WaitV.segs, ServerV.segs, PeerV.segs, OpV.segs, ParcelV.segs, PostV.segs, WorkerV.segs]; omega)) (by rintro v M9 _ w hm ⟨rfl, hs9, h9, rfl, _, o9, ho9, rfl, _⟩ hw; exact hw.c) (putE_some rfl) ?_
  rintro v9 MX _ hmX ⟨hMX, hs9, h9, rfl, ho9, ⟨o2_a, o2_c, o2_l⟩, ho2, rfl, hO2, ho2l⟩
  subst MX
  clear hmX
  simp only at ho2l hO2
  rw [List.take_length] at ho2l
  obtain ⟨L9, hL9⟩ : ∃ L, kept (goneW frm serial) s_waits_l = L := ⟨_, rfl⟩
  rw [hL9] at ho9
  have hL9l : L9.length ≤ 1000 := by rw [← hL9]; exact Nat.le_trans kept_le hLw
  have hL9o : ∀ w ∈ L9, WaitV.ok M w ∧ WtOk w.pl := fun w hw => by rw [← hL9] at hw; have h8 := kept_mem hw; exact ⟨okw w h8, hsv.1.1 _ (List.mem_map_of_mem (f := WaitV.pl) h8)⟩
  obtain ⟨ad9, cp9, rfl⟩ := ho9.valL
  simp only [List.append_assoc, List.cons_append, List.nil_append]
  refine Y_nilCheck ?_
  refine Y_fieldAddr F.foff67_0 ?_
  refine Y_fieldAddr F.foff26_3 ?_
  refine Y_store F.lay24 ?_
  refine XD_end ?_
  refine K_unw ?_
  refine K_then ?_
  refine Y_pk [5, 4, 3] ?_
  refine C_seq ?_
  refine C_region (l := [0, 1, 2, 3, 4, 5, 6]) rfl ?_
  refine Y_load F.lay65 ?_
  refine Y_nilCheck ?_
  refine Y_fieldAddr F.foff67_0 ?_
  refine Y_fieldAddr F.foff26_3 ?_
  refine Y_load F.lay24 ?_
  refine Y_len_sl F.elem24 ?_
  refine Y_move ?_
  refine XD_end ?_
  refine K_then ?_
  refine Y_pk [25, 24, 23, 5, 4, 3] ?_
  refine C_block ?_
  refine Y_pk [25, 24, 23, 5, 4, 3] ?_
  refine C_loopO (Hin := hs9) (.succ .zero) (by repeat first | exact Rem.here _ | exact Rem.two | apply Rem.skip | apply Rem.over) (fun (k : Nat) M1 h1 z => ∃ W : List WaitV, z = [(25, .int .i64 (k : Int))] ∧ k ≤ L9.length ∧ W.length = L9.length ∧ (∀ w ∈ W, WaitV.ok M1 w) ∧ (wtl W).take k = ((wtl L9).take k).map (less9 frm serial) ∧ W.drop k = L9.drop k ∧ OSl 54 28 (.slice ad9 L9.length cp9) h1 (W.map WaitV.segs)) (fun k => L9.length - k) (0) (⟨L9, rfl, by omega, rfl, (fun w hw => (hL9o w hw).1), by simp, rfl, ho9⟩) ?_
  rintro k M1 h1 z hm1 ⟨W, rfl, hk9, hWl, hWo, hW1, hW2, ho1⟩
  have hnw : (W.map WaitV.segs).length = W.length := List.length_map ..
  have ho1w : OSl 54 28 (.slice ad9 (W.map WaitV.segs).length cp9) h1 (W.map WaitV.segs) := by rw [hnw, hWl]; exact ho1
  refine C_seq ?_
  refine C_region (l := [0]) rfl ?_
  refine Y_cmp ?_
  refine XD_end ?_
  refine K_then ?_
  refine C_seq ?_
  refine C_cond rfl (fun hc4 => ?_) (fun hc4 => ?_)
  ·replace hc4 := dT hc4
   refine C_skip ?_
   refine K_then ?_
   refine C_seq ?_
   refine C_block ?_
   refine C_seq ?_
   refine C_region (l := [0, 1, 2, 3, 4, 5]) rfl ?_
   refine Y_move ?_
   refine X_indexAddr rfl rfl rfl rfl F.elem24 (by rfl) (by omega) (by exact OSl.plain (by assumption) (by (simp; omega))) rfl ?_
   refine X_load_osl rfl rfl rfl (by assumption) (by repeat first | exact Rem.here _ | exact Rem.two | apply Rem.skip | apply Rem.over) (by exact row_map (by omega)) F.lay54 rfl rfl rfl ?_
   have hkl : k < L9.length := by omega
   have hkW : k < W.length := by omega
   have hwd := drop_at hWl hkl hW2
   obtain ⟨⟨w_key, w_client, w_req, ⟨w_answer_code, w_answer_version, w_answer_has, w_answer_val⟩, w_serial, ⟨w_need_a, w_need_c, w_need_l⟩⟩, hwk⟩ : ∃ w, W[k]'hkW = w := ⟨_, rfl⟩
   have hlk := hwd.symm.trans hwk
   refine XD_is 29 rfl (show _ = aggV (WaitV.segs ⟨w_key, w_client, w_req, ⟨w_answer_code, w_answer_version, w_answer_has, w_answer_val⟩, w_serial, ⟨w_need_a, w_need_c, w_need_l⟩⟩) from by rw [← hwk]; rfl) ?_
   have okw9 := hWo _ (List.getElem_mem hkW)
   rw [hwk] at okw9
   have hwo := (hL9o _ (List.getElem_mem hkl)).2
   rw [hlk] at hwo
   have hnl : w_need_l.length ≤ 1000 := by have h9 := hwo.2.1.2; simp only [WaitV.pl] at h9; omega
   refine Y_alloc F.zero54 ?_; intro b5
   refine Y_assign ?_
   refine Y_store F.lay54 ?_
   refine XD_end ?_
   refine K_then ?_
   refine C_seq ?_
   refine C_region (l := [0, 1, 2, 3]) rfl ?_
   refine Y_fieldAddr F.foff54_4 ?_
   iterate 2 refine Y_load F.lay22 ?_
   refine Y_cmp ?_
   refine XD_end ?_
   refine K_then ?_
   refine C_cond rfl (fun hc6 => ?_) (fun hc6 => ?_)
   ·replace hc6 := dT hc6
    refine C_region_any (l := [0, 1, 2, 3, 4, 5, 6, 7, 8, 9, 10, 11, 12]) #[0, 1, 3, 7, 15, 0, 0, 64, 0, 448, 1023, 2047, 4095] _ rfl (by kernel_rfl) (by kernel_rfl) St.drawn (fun _ h => h) ?_
    refine Y_load F.lay65 ?_
    refine Y_nilCheck ?_
    refine Y_fieldAddr F.foff67_0 ?_
    refine Y_fieldAddr F.foff26_3 ?_
    refine Y_load F.lay24 ?_
    refine Y_move ?_
    refine Y_fieldAddr F.foff54_5 ?_
    refine Y_load F.lay52 ?_
    refine Y_load F.lay3 ?_
    refine X_fhR rfl rfl F.ok65 rfl (without_ok M1 w_need_a w_need_c w_need_l okw9.h0 hnl frm) (by repeat first | exact Rem.here _ | exact Rem.two | apply Rem.skip | apply Rem.over) (fun _ _ _ hm hw => (hw.lower (by exact hm)).c) (putE_some rfl) ?_
    rintro _ MX hsx hmX ⟨hMX, adx, cpx, rfl, hox⟩
    subst MX
    clear hmX
    refine X_indexAddr rfl rfl rfl rfl F.elem24 (by rfl) (by omega) (by exact OSl.plain (by assumption) (by (simp; omega))) rfl ?_
    refine X_fieldAddr_el rfl rfl rfl (by exact OSl.plain (by assumption) (by (simp; omega))) F.foff54_5 rfl ?_
    obtain ⟨b9, rfl⟩ := ho1.someB (by omega)
    refine X_storeOF (b := b9) (j := k) (r := WaitV.segs ⟨w_key, w_client, w_req, ⟨w_answer_code, w_answer_version, w_answer_has, w_answer_val⟩, w_serial, ⟨w_need_a, w_need_c, w_need_l⟩⟩) (u := WaitV.segs (⟨w_key, w_client, w_req, ⟨w_answer_code, w_answer_version, w_answer_has, w_answer_val⟩, w_serial, ⟨adx, cpx, w_need_l.filter (notI frm)⟩⟩ : WaitV)) rfl rfl rfl rfl (by constructor) (flat_one rfl flat_nil) F.lay52 rfl ho1 (by repeat first | exact Rem.here _ | exact Rem.two | apply Rem.skip | apply Rem.over) (by rw [List.getElem?_map, List.getElem?_eq_getElem hkW, hwk]; rfl) rfl ?_; intro hs8 ho8
    rw [hnw, hWl] at ho8
    refine XD_end ?_
    refine K_out ?_
    refine K_then ?_
    refine C_frz hox (by repeat first | exact Rem.here _ | exact Rem.two | apply Rem.skip | apply Rem.over) (fun M3 hm3 k_t => ?_)
    refine C_region (l := [0, 1]) rfl ?_
    refine X_ari rfl rfl rfl rfl rfl (by exact wrap_in (by decide) (by omega)) rfl ?_
    refine Y_move ?_
    refine XD_end ?_
    refine K_roundO (a' := [(25, _)]) (k + 1) (hs8) (.cons (k := 25) rfl (.cons (k := 24) rfl (.cons (k := 23) rfl (.cons (k := 5) rfl (.cons (k := 4) rfl (.cons (k := 3) rfl (.nil))))))) (hm1.trans hm3) (fun w hw => by first | exact hw | exact hw.c) ?_ ?_
    ·obtain ⟨g1, g2, g3⟩ := turnW_step (f := less9 frm serial) hWl hkl hW1 hW2 (x := (⟨w_key, w_client, w_req, ⟨w_answer_code, w_answer_version, w_answer_has, w_answer_val⟩, w_serial, ⟨adx, cpx, w_need_l.filter (notI frm)⟩⟩ : WaitV)) (by rw [hlk]; exact (if_pos (show w_serial = serial by first | assumption | omega)).symm)
     refine ⟨W.set k (⟨w_key, w_client, w_req, ⟨w_answer_code, w_answer_version, w_answer_has, w_answer_val⟩, w_serial, ⟨adx, cpx, w_need_l.filter (notI frm)⟩⟩ : WaitV), rfl, by omega, g1, fun w hw => ?_, g2, g3, ?_⟩
     ·rcases List.mem_or_eq_of_mem_set hw with hw | rfl
      ·exact (hWo w hw).mono hm3
      ·exact ⟨k_t⟩
     ·rw [List.map_set]
      exact ho8
    ·omega
   ·replace hc6 := dF hc6
    refine C_skip ?_
    refine K_out ?_
    refine K_then ?_
    refine C_region (l := [0, 1]) rfl ?_
    refine X_ari rfl rfl rfl rfl rfl (by exact wrap_in (by decide) (by omega)) rfl ?_
    refine Y_move ?_
    refine XD_end ?_
    refine K_roundO (a' := [(25, _)]) (k + 1) (h1) (.cons (k := 25) rfl (.cons (k := 24) rfl (.cons (k := 23) rfl (.cons (k := 5) rfl (.cons (k := 4) rfl (.cons (k := 3) rfl (.nil))))))) hm1 (fun w hw => by first | exact hw | exact hw.c) ?_ ?_
    ·obtain ⟨g1, g2⟩ := turnW_stay (f := less9 frm serial) hWl hkl hW1 hW2 (by rw [hlk]; exact (if_neg (show ¬ w_serial = serial by first | assumption | omega)).symm)
     exact ⟨W, rfl, by omega, hWl, hWo, g1, g2, ho1⟩
    ·omega
  ·replace hc4 := dF hc4
   refine C_exit ?_
   iterate 2 refine K_exit ?_
   refine K_hit ?_
   refine K_end (.inl rfl) (.nil) (fun w hw => ?_)
   obtain rfl : k = L9.length := by omega
   rw [List.take_of_length_le (by rw [wtl_len]; omega), List.take_of_length_le (by rw [wtl_len]; omega), ← hL9, less_kept] at hW1
   refine ⟨_, M1, (bw, rowO (WorkerV.segs ⟨⟨s_addr, s_epoch, ⟨s_store_a, s_store_c, s_store_l⟩, ⟨ad9, cp9, W⟩, s_serial⟩, ⟨l_a, l_c, l_l⟩, r, ⟨o2_a, o2_c, o2_l⟩⟩) 67) :: (ho2 ++ h1), rfl, hm1, ?_, rfl, ⟨⟨s_addr, s_epoch, ⟨s_store_a, s_store_c, s_store_l⟩, ⟨ad9, cp9, W⟩, s_serial⟩, ⟨o2_a, o2_c, o2_l⟩, ho2, h1, rfl, hO2, (by show OSl 54 28 (.slice ad9 W.length cp9) h1 (W.map WaitV.segs); rw [hWl]; exact ho1), (by show Srv.mk _ _ _ (wtl W) _ = Srv.mk _ _ _ ((wtl s_waits_l).filterMap _) _; rw [hW1]; rfl), (by show pstl o2_l = _; rw [ho2l]; exact doneV_all (s := ServerV.pl ⟨s_addr, s_epoch, ⟨s_store_a, s_store_c, s_store_l⟩, ⟨s_waits_a, s_waits_c, s_waits_l⟩, s_serial⟩)), k_st.mono hm1, (fun h hh => (hsto h hh).mono hm1), hWo, (by show ∀ y ∈ o2_l, _; rw [ho2l]; exact doneV_ok)⟩⟩
   simp only [WorkerV.segs, Sl.val] at hw ⊢
   rw [hWl]
   exact hw.c

end Go.Proofs.YtpkeilhilpogiaaGreat
/-
  What a server takes.
-/
set_option linter.unusedSimpArgs false
set_option linter.unusedVariables false
set_option linter.unnecessarySimpa false
set_option maxRecDepth 8000
set_option maxHeartbeats 1000000
namespace Go.Proofs.YtpkeilhilpogiaaGreat
open Go.Esp
theorem F.bld26 : Bld Tryz.prog 26 [[.one (.int .i64 0)], [.one (.int .u64 0)], [.one (.slice none 0 0)], [.one (.slice none 0 0)], [.one (.int .u64 0)]] := ⟨by kernel_rfl, by kernel_rfl⟩
theorem F.bld67 : Bld Tryz.prog 67 [[.one (.int .i64 0), .one (.int .u64 0), .one (.slice none 0 0), .one (.slice none 0 0), .one (.int .u64 0)], [.one (.slice none 0 0)], [.one (.int .i64 0)], [.one (.slice none 0 0)]] := ⟨by kernel_rfl, by kernel_rfl⟩
theorem F.ok14 : okFn Tryz.prog 14 = true := by kernel_rfl
theorem F.ok18 : okFn Tryz.prog 18 = true := by kernel_rfl
theorem F.ok24 : okFn Tryz.prog 24 = true := by kernel_rfl
theorem F.ok25 : okFn Tryz.prog 25 = true := by kernel_rfl
theorem F.ok26 : okFn Tryz.prog 26 = true := by kernel_rfl
theorem F.ok27 : okFn Tryz.prog 27 = true := by kernel_rfl

theorem CloneW_nil (M : Mem) (c : Nat) (l : List WaitV) (k : SlK M WaitV.segs 28 ⟨none, c, l⟩) (hb : l.length ≤ 1000000) : Fh Tryz.prog 24 [.slice none l.length c] M [] (fun M' v Hout => M' = M ∧ OSl 54 28 v Hout (l.map WaitV.segs)) := by
  have hl0 : l = [] := SlM.none_nil k.h1
  subst hl0
  have hl0 : ([] : List WaitV).map WaitV.segs = [] := rfl
  refine fh_enter Tryz.func24 rfl Tryz.ntmps24 rfl ?_; intro H
  refine C_seq ?_
  refine C_region (l := [0]) rfl ?_
  refine Y_assign ?_
  refine XD_end ?_
  refine K_then ?_
  iterate 2 refine C_seq ?_
  refine C_region (l := [0, 1]) rfl ?_
  refine Y_move ?_
  refine Y_nil Tryz.underlying24 ?_
  refine XD_end ?_
  refine K_then ?_
  refine Y_pk [4, 2, 0] ?_
  refine C_cond rfl (fun hc1 => ?_) (fun hc1 => ?_)
  ·skip
   refine C_seq ?_
   refine C_region (l := [0]) rfl ?_
   refine Y_assign ?_
   refine XD_end ?_
   refine K_then ?_
   refine Y_pk [2, 0] ?_
   refine C_ret ?_
   refine K_ret ?_
   refine K_end (.inr rfl) (.tmp rfl .nil) (fun w hw => ?_)
   exact ⟨_, M, [], rfl, Mem.le.refl M, hw.c, rfl, by rw [hl0]; exact OSl.nil⟩
  ·skip
   (exfalso; simp [eqX] at hc1; done)
theorem CloneW_some (M : Mem) (ad : Addr) (c : Nat) (l : List WaitV) (k : SlK M WaitV.segs 28 ⟨some ad, c, l⟩) (hb : l.length ≤ 1000000) : Fh Tryz.prog 24 [.slice (some ad) l.length c] M [] (fun M' v Hout => M' = M ∧ OSl 54 28 v Hout (l.map WaitV.segs)) := by
  have hml : l.length = (l.map WaitV.segs).length := (List.length_map ..).symm
  refine fh_enter Tryz.func24 rfl Tryz.ntmps24 rfl ?_; intro H
  refine C_seq ?_
  refine C_region (l := [0]) rfl ?_
  refine Y_assign ?_
  refine XD_end ?_
  refine K_then ?_
  iterate 2 refine C_seq ?_
  refine C_region (l := [0, 1]) rfl ?_
  refine Y_move ?_
  refine Y_nil Tryz.underlying24 ?_
  refine XD_end ?_
  refine K_then ?_
  refine Y_pk [4, 2, 0] ?_
  refine C_cond rfl (fun hc1 => ?_) (fun hc1 => ?_)
  ·skip
   (exfalso; simp [eqX] at hc1; done)
  ·skip
   refine C_skip ?_
   refine K_then ?_
   refine Y_pk [2, 0] ?_
   refine C_seq ?_
   refine C_region (l := [0, 1, 2, 3]) rfl ?_
   refine X_buildSliceF rfl rfl F.elem24 F.zero54 rfl rfl (.nil) rfl rfl (by simp only [List.map_cons, List.map_nil] <;> rfl) rfl ?_; intro b2 hob3
   refine Y_move ?_
   refine X_append (m := 1000000) rfl rfl rfl rfl rfl F.elem24 F.zero54 (by exact agg_size rfl) rfl (by assumption) (by repeat first | exact Rem.here _ | exact Rem.two | apply Rem.skip | apply Rem.over) (SlM.src k.h1 (rows_one WaitV.flat _) hml) (by (simp; omega)) (by decide) rfl ?_; intro v6 hs5 ho4; obtain ⟨adv6, cpv6, rfl⟩ := ho4.val
   refine Y_assign ?_
   refine XD_end ?_
   refine K_then ?_
   refine Y_pk [2] ?_
   refine C_ret ?_
   refine K_end (.inr rfl) (.tmp rfl .nil) (fun w hw => ?_)
   exact ⟨_, M, _, rfl, Mem.le.refl M, hw.c, rfl, by assumption⟩

theorem CloneW_ok (M : Mem) (a : Option Addr) (c : Nat) (l : List WaitV) (k : SlK M WaitV.segs 28 ⟨a, c, l⟩) (hb : l.length ≤ 1000000) : Fh Tryz.prog 24 [.slice a l.length c] M [] (fun M' v Hout => M' = M ∧ OSl 54 28 v Hout (l.map WaitV.segs)) := by
  cases a with
  |none => exact CloneW_nil M c l k hb
  |some ad => exact CloneW_some M ad c l k hb

theorem Take_ok (M : Mem) (s : ServerV) (l : (Sl PeerV)) (r : Int) (frm : Int) (p : ParcelV) (hs0 : ServerV.ok M s) (hl1 : SlK M PeerV.segs 21 l) (hp2 : ParcelV.ok M p) (hb : s.waits.l.length ≤ 1000) : Esp.Fn Tryz.prog 11 [s.enc, Sl.val l, .int .i64 r, .int .i64 frm, p.enc] M (fun M' v => SrvE M' v (srvR s.pl l.l r frm p.pl)) := by
  obtain ⟨s_addr, s_epoch, ⟨s_store_a, s_store_c, s_store_l⟩, ⟨s_waits_a, s_waits_c, s_waits_l⟩, s_serial⟩ := s
  obtain ⟨l_a, l_c, l_l⟩ := l
  obtain ⟨p_kind, p_epoch, p_key, ⟨p_op_client, p_op_req, p_op_kind, p_op_version, p_op_val⟩, ⟨p_answer_code, p_answer_version, p_answer_has, p_answer_val⟩, p_serial, ⟨p_cell_version, p_cell_has, p_cell_val, ⟨p_cell_marks_a, p_cell_marks_c, p_cell_marks_l⟩⟩⟩ := p
  have k_s_store : SlK M HeldV.segs 24 ⟨s_store_a, s_store_c, s_store_l⟩ := hs0.h0
  have s_s_store : SlM M s_store_a (s_store_l.map HeldV.segs) 24 := k_s_store.h1
  have n_s_store : (s_store_l.map HeldV.segs).length = s_store_l.length := List.length_map ..
  have m_s_store : s_store_l.length ≤ 9223372036854775807 := k_s_store.h2
  have c_s_store : s_store_l.length ≤ s_store_c := k_s_store.h3
  have l_s_store : ∀ y ∈ s_store_l, HeldV.ok M y := hs0.h1
  have k_s_waits : SlK M WaitV.segs 28 ⟨s_waits_a, s_waits_c, s_waits_l⟩ := hs0.h2
  have s_s_waits : SlM M s_waits_a (s_waits_l.map WaitV.segs) 28 := k_s_waits.h1
  have n_s_waits : (s_waits_l.map WaitV.segs).length = s_waits_l.length := List.length_map ..
  have m_s_waits : s_waits_l.length ≤ 9223372036854775807 := k_s_waits.h2
  have c_s_waits : s_waits_l.length ≤ s_waits_c := k_s_waits.h3
  have l_s_waits : ∀ y ∈ s_waits_l, WaitV.ok M y := hs0.h3
  have k_l : SlK M PeerV.segs 21 ⟨l_a, l_c, l_l⟩ := hl1
  have s_l : SlM M l_a (l_l.map PeerV.segs) 21 := k_l.h1
  have n_l : (l_l.map PeerV.segs).length = l_l.length := List.length_map ..
  have m_l : l_l.length ≤ 9223372036854775807 := k_l.h2
  have c_l : l_l.length ≤ l_c := k_l.h3
  have k_p_cell : CellV.ok M ⟨p_cell_version, p_cell_has, p_cell_val, ⟨p_cell_marks_a, p_cell_marks_c, p_cell_marks_l⟩⟩ := hp2.h0
  have k_p_cell_marks : SlK M MarkV.segs 6 ⟨p_cell_marks_a, p_cell_marks_c, p_cell_marks_l⟩ := hp2.h0.h0
  have s_p_cell_marks : SlM M p_cell_marks_a (p_cell_marks_l.map MarkV.segs) 6 := k_p_cell_marks.h1
  have n_p_cell_marks : (p_cell_marks_l.map MarkV.segs).length = p_cell_marks_l.length := List.length_map ..
  have m_p_cell_marks : p_cell_marks_l.length ≤ 9223372036854775807 := k_p_cell_marks.h2
  have c_p_cell_marks : p_cell_marks_l.length ≤ p_cell_marks_c := k_p_cell_marks.h3
  simp only at hb
  show Esp.Fn _ _ _ _ (fun M' v => SrvE M' v (srvR (ServerV.pl ⟨s_addr, s_epoch, ⟨s_store_a, s_store_c, s_store_l⟩, ⟨s_waits_a, s_waits_c, s_waits_l⟩, s_serial⟩) l_l r frm (ParcelV.pl ⟨p_kind, p_epoch, p_key, ⟨p_op_client, p_op_req, p_op_kind, p_op_version, p_op_val⟩, ⟨p_answer_code, p_answer_version, p_answer_has, p_answer_val⟩, p_serial, ⟨p_cell_version, p_cell_has, p_cell_val, ⟨p_cell_marks_a, p_cell_marks_c, p_cell_marks_l⟩⟩⟩)))
  refine fn_enter Tryz.func11 rfl Tryz.ntmps11 rfl ?_; intro H
  refine C_seq ?_
  refine C_region (l := [0, 1, 2, 3, 4]) rfl ?_
  refine Y_box ?_; intro b1
  refine Y_box ?_; intro b2
  refine Y_alloc F.zero26 ?_; intro b3
  iterate 2 refine Y_assign ?_
  refine XD_end ?_
  refine K_then ?_
  refine Y_pk [12, 11, 10, 9, 5, 1, 2, 3] ?_
  iterate 2 refine C_seq ?_
  refine C_region (l := [0, 1, 2, 3, 4, 5, 6, 7, 8, 9, 10, 11, 12, 13, 14, 15, 16, 17, 18, 19, 20]) rfl ?_
  refine Y_load F.lay26 ?_
  refine X_fs rfl rfl F.ok14 rfl (SIs_ok _ ⟨s_addr, s_epoch, ⟨s_store_a, s_store_c, s_store_l⟩, ⟨s_waits_a, s_waits_c, s_waits_l⟩, s_serial⟩ hs0) rfl ?_
  rintro _ rfl
  refine Y_not ?_
  refine Y_move ?_
  refine XD_part 17 rfl (fun hc4 => ?_) (fun hc4 => ?_)
  ·replace hc4 := nT hc4
   iterate 3 refine Y_skip ?_
   refine Y_pick ?_
   refine Y_move ?_
   iterate 2 refine Y_skip ?_
   refine Y_pick ?_
   refine Y_move ?_
   iterate 2 refine Y_skip ?_
   refine Y_pick ?_
   refine Y_move ?_
   iterate 3 refine Y_skip ?_
   refine Y_pick ?_
   refine XD_end ?_
   refine K_then ?_
   refine Y_pk [34, 12, 11, 10, 9, 5, 1, 2, 3] ?_
   refine C_true rfl ?_
   refine C_seq ?_
   refine C_region (l := [0, 1, 2, 3]) rfl ?_
   refine X_build rfl rfl F.bld26 (.nil) rfl rfl ?_
   refine Y_store F.lay26 ?_
   iterate 2 refine Y_assign ?_
   refine XD_end ?_
   refine K_then ?_
   refine Y_pk [12, 11, 10, 9, 5, 1, 2, 3] ?_
   refine C_ret ?_
   refine K_ret ?_
   refine K_end (.inr rfl) (.cell rfl (by repeat first | exact List.Mem.head _ | refine List.Mem.tail _ ?_ | refine List.mem_append_right _ ?_) F.lay26 rfl rfl (.tmp rfl (.tmp rfl .nil))) (fun w hw => ?_)
   refine ⟨_, M, rfl, Mem.le.refl M, hw.c, ?_⟩
   rw [srvR_no (by rintro ⟨g1, g2, g3, g4⟩; first | contradiction | omega)]
   exact ⟨ServerV.zero, ⟨none, 0, []⟩, rfl, rfl, rfl, ServerV.zero_ok M, SlK.nil, fun y hy => by cases hy⟩
  ·replace hc4 := nF hc4
   refine Y_move ?_
   refine X_fs rfl rfl F.ok23 rfl (Circ_ok _ ⟨_, _, _⟩ (by assumption)) rfl ?_
   rintro _ rfl
   refine Y_not ?_
   refine Y_pick ?_
   refine Y_move ?_
   refine XD_part 22 rfl (fun hc5 => ?_) (fun hc5 => ?_)
   ·replace hc5 := nT hc5
    simp only [AnswerV.eta, MarkV.eta, CellV.eta, HeldV.eta, WaitV.eta, ServerV.eta, PeerV.eta, OpV.eta, ParcelV.eta, PostV.eta, WorkerV.eta] at hc5
    iterate 2 refine Y_skip ?_
    refine Y_pick ?_
    refine Y_move ?_
    iterate 2 refine Y_skip ?_
    refine Y_pick ?_
    refine Y_move ?_
    iterate 3 refine Y_skip ?_
    refine Y_pick ?_
    refine XD_end ?_
    refine K_then ?_
    refine Y_pk [34, 12, 11, 10, 9, 5, 1, 2, 3] ?_
    refine C_true rfl ?_
    refine C_seq ?_
    refine C_region (l := [0, 1, 2, 3]) rfl ?_
    refine X_build rfl rfl F.bld26 (.nil) rfl rfl ?_
    refine Y_store F.lay26 ?_
    iterate 2 refine Y_assign ?_
    refine XD_end ?_
    refine K_then ?_
    refine Y_pk [12, 11, 10, 9, 5, 1, 2, 3] ?_
    refine C_ret ?_
    refine K_ret ?_
    refine K_end (.inr rfl) (.cell rfl (by repeat first | exact List.Mem.head _ | refine List.Mem.tail _ ?_ | refine List.mem_append_right _ ?_) F.lay26 rfl rfl (.tmp rfl (.tmp rfl .nil))) (fun w hw => ?_)
    refine ⟨_, M, rfl, Mem.le.refl M, hw.c, ?_⟩
    rw [srvR_no (by rintro ⟨g1, g2, g3, g4⟩; first | contradiction | omega)]
    exact ⟨ServerV.zero, ⟨none, 0, []⟩, rfl, rfl, rfl, ServerV.zero_ok M, SlK.nil, fun y hy => by cases hy⟩
   ·replace hc5 := nF hc5
    simp only [AnswerV.eta, MarkV.eta, CellV.eta, HeldV.eta, WaitV.eta, ServerV.eta, PeerV.eta, OpV.eta, ParcelV.eta, PostV.eta, WorkerV.eta] at hc5
    refine Y_move ?_
    refine Y_cmp ?_
    refine Y_pick ?_
    refine Y_move ?_
    refine XD_part 26 rfl (fun hc6 => ?_) (fun hc6 => ?_)
    ·replace hc6 := dT hc6
     iterate 2 refine Y_skip ?_
     refine Y_pick ?_
     refine Y_move ?_
     iterate 3 refine Y_skip ?_
     refine Y_pick ?_
     refine XD_end ?_
     refine K_then ?_
     refine Y_pk [34, 12, 11, 10, 9, 5, 1, 2, 3] ?_
     refine C_true rfl ?_
     refine C_seq ?_
     refine C_region (l := [0, 1, 2, 3]) rfl ?_
     refine X_build rfl rfl F.bld26 (.nil) rfl rfl ?_
     refine Y_store F.lay26 ?_
     iterate 2 refine Y_assign ?_
     refine XD_end ?_
     refine K_then ?_
     refine Y_pk [12, 11, 10, 9, 5, 1, 2, 3] ?_
     refine C_ret ?_
     refine K_ret ?_
     refine K_end (.inr rfl) (.cell rfl (by repeat first | exact List.Mem.head _ | refine List.Mem.tail _ ?_ | refine List.mem_append_right _ ?_) F.lay26 rfl rfl (.tmp rfl (.tmp rfl .nil))) (fun w hw => ?_)
     refine ⟨_, M, rfl, Mem.le.refl M, hw.c, ?_⟩
     rw [srvR_no (by rintro ⟨g1, g2, g3, g4⟩; first | contradiction | omega)]
     exact ⟨ServerV.zero, ⟨none, 0, []⟩, rfl, rfl, rfl, ServerV.zero_ok M, SlK.nil, fun y hy => by cases hy⟩
    ·replace hc6 := dF hc6
     refine Y_move ?_
     refine Y_cmp ?_
     refine Y_pick ?_
     refine Y_move ?_
     refine XD_part 30 rfl (fun hc7 => ?_) (fun hc7 => ?_)
     ·replace hc7 := dT hc7
      iterate 3 refine Y_skip ?_
      refine Y_pick ?_
      refine XD_end ?_
      refine K_then ?_
      refine Y_pk [34, 12, 11, 10, 9, 5, 1, 2, 3] ?_
      refine C_true rfl ?_
      refine C_seq ?_
      refine C_region (l := [0, 1, 2, 3]) rfl ?_
      refine X_build rfl rfl F.bld26 (.nil) rfl rfl ?_
      refine Y_store F.lay26 ?_
      iterate 2 refine Y_assign ?_
      refine XD_end ?_
      refine K_then ?_
      refine Y_pk [12, 11, 10, 9, 5, 1, 2, 3] ?_
      refine C_ret ?_
      refine K_ret ?_
      refine K_end (.inr rfl) (.cell rfl (by repeat first | exact List.Mem.head _ | refine List.Mem.tail _ ?_ | refine List.mem_append_right _ ?_) F.lay26 rfl rfl (.tmp rfl (.tmp rfl .nil))) (fun w hw => ?_)
      refine ⟨_, M, rfl, Mem.le.refl M, hw.c, ?_⟩
      rw [srvR_no (by rintro ⟨g1, g2, g3, g4⟩; first | contradiction | omega)]
      exact ⟨ServerV.zero, ⟨none, 0, []⟩, rfl, rfl, rfl, ServerV.zero_ok M, SlK.nil, fun y hy => by cases hy⟩
     ·replace hc7 := dF hc7
      refine Y_load F.lay39 ?_
      refine X_fs rfl rfl F.ok18 rfl (pIs_ok _ ⟨_, _, _, ⟨_, _, _, _, _⟩, ⟨_, _, _, _⟩, _, ⟨_, _, _, ⟨_, _, _⟩⟩⟩ (by assumption)) rfl ?_
      rintro _ rfl
      refine Y_not ?_
      refine Y_pick ?_
      refine XD_end ?_
      refine K_then ?_
      refine Y_pk [34, 12, 11, 10, 9, 5, 1, 2, 3] ?_
      refine C_cond rfl (fun hc8 => ?_) (fun hc8 => ?_)
      ·replace hc8 := nT hc8
       refine C_seq ?_
       refine C_region (l := [0, 1, 2, 3]) rfl ?_
       refine X_build rfl rfl F.bld26 (.nil) rfl rfl ?_
       refine Y_store F.lay26 ?_
       iterate 2 refine Y_assign ?_
       refine XD_end ?_
       refine K_then ?_
       refine Y_pk [12, 11, 10, 9, 5, 1, 2, 3] ?_
       refine C_ret ?_
       refine K_ret ?_
       refine K_end (.inr rfl) (.cell rfl (by repeat first | exact List.Mem.head _ | refine List.Mem.tail _ ?_ | refine List.mem_append_right _ ?_) F.lay26 rfl rfl (.tmp rfl (.tmp rfl .nil))) (fun w hw => ?_)
       refine ⟨_, M, rfl, Mem.le.refl M, hw.c, ?_⟩
       rw [srvR_no (by rintro ⟨g1, g2, g3, g4⟩; first | contradiction | omega)]
       exact ⟨ServerV.zero, ⟨none, 0, []⟩, rfl, rfl, rfl, ServerV.zero_ok M, SlK.nil, fun y hy => by cases hy⟩
      ·replace hc8 := nF hc8
       refine C_skip ?_
       refine K_then ?_
       refine Y_pk [12, 11, 10, 9, 5, 1, 2, 3] ?_
       refine C_seq ?_
       have hA : TakeOk (ServerV.pl ⟨s_addr, s_epoch, ⟨s_store_a, s_store_c, s_store_l⟩, ⟨s_waits_a, s_waits_c, s_waits_l⟩, s_serial⟩) l_l r (ParcelV.pl ⟨p_kind, p_epoch, p_key, ⟨p_op_client, p_op_req, p_op_kind, p_op_version, p_op_val⟩, ⟨p_answer_code, p_answer_version, p_answer_has, p_answer_val⟩, p_serial, ⟨p_cell_version, p_cell_has, p_cell_val, ⟨p_cell_marks_a, p_cell_marks_c, p_cell_marks_l⟩⟩⟩) := ⟨by assumption, by assumption, ⟨by omega, by omega⟩, by assumption⟩
       refine C_region (l := [0, 1, 2, 3, 4]) rfl ?_
       refine Y_fieldAddr F.foff26_3 ?_
       refine Y_load F.lay24 ?_
       refine X_fhR rfl rfl F.ok24 rfl (CloneW_ok M s_waits_a s_waits_c s_waits_l k_s_waits (by omega)) (by repeat first | exact Rem.here _ | exact Rem.two | apply Rem.skip | apply Rem.over) (fun _ _ _ hm hw => (hw.lower (by exact hm)).c) (putE_some rfl) ?_
       rintro _ MX hs1 hmX ⟨hMX, ho1⟩
       subst MX
       clear hmX
       obtain ⟨ad1, cp1, rfl⟩ := ho1.valL
       refine Y_fieldAddr F.foff26_3 ?_
       refine Y_store F.lay24 ?_
       refine XD_end ?_
       refine K_then ?_
       refine Y_pk [12, 11, 10, 9, 5, 1, 2, 3] ?_
       refine C_seq ?_
       refine C_region (l := [0, 1, 2, 3, 4, 5]) rfl ?_
       refine Y_load F.lay26 ?_
       iterate 2 refine Y_move ?_
       refine X_build rfl rfl F.bld67 (.cons rfl (by constructor) (.cons rfl (by constructor) (.cons rfl (by constructor) .nil))) rfl rfl ?_
       refine Y_box ?_; intro b9
       refine Y_assign ?_
       refine XD_end ?_
       refine K_then ?_
       refine Y_pk [13, 12, 11, 10, 9, 5, 3] ?_
       iterate 2 refine C_seq ?_
       refine C_region (l := [0, 1, 2, 3, 4]) rfl ?_
       refine Y_fieldAddr F.foff39_1 ?_
       refine Y_load F.lay22 ?_
       refine Y_fieldAddr F.foff26_1 ?_
       refine Y_load F.lay22 ?_
       refine Y_cmp ?_
       refine XD_end ?_
       refine K_then ?_
       refine Y_pk [49, 13, 12, 11, 10, 9, 3] ?_
       refine C_cond rfl (fun hc10 => ?_) (fun hc10 => ?_)
       ·replace hc10 := nT hc10
        refine C_seq ?_
        refine C_region (l := [0, 1, 2, 3, 4, 5, 6]) rfl ?_
        refine Y_move ?_
        refine Y_nilCheck ?_
        refine Y_fieldAddr F.foff67_0 ?_
        refine Y_load F.lay26 ?_
        refine Y_store F.lay26 ?_
        iterate 2 refine Y_assign ?_
        refine XD_end ?_
        refine K_then ?_
        refine Y_pk [12, 11, 13, 10, 9, 3] ?_
        refine C_ret ?_
        refine K_ret ?_
        refine K_end (.inr rfl) (.cell rfl (by repeat first | exact List.Mem.head _ | refine List.Mem.tail _ ?_ | refine List.mem_append_right _ ?_) F.lay26 rfl rfl (.tmp rfl (.tmp rfl .nil))) (fun w hw => ?_)
        obtain ⟨M4, j4, j5, j6⟩ := OSl.frz (H := H) (l := s_waits_l) (f := WaitV.segs) ho1 (hw.c)
        refine ⟨_, M4, rfl, j4, j5, ?_⟩
        clear hw
        rw [srvR_ep (s := ServerV.pl ⟨s_addr, s_epoch, ⟨s_store_a, s_store_c, s_store_l⟩, ⟨s_waits_a, s_waits_c, s_waits_l⟩, s_serial⟩) (l := l_l) (r := r) (f := frm) (p := ParcelV.pl ⟨p_kind, p_epoch, p_key, ⟨p_op_client, p_op_req, p_op_kind, p_op_version, p_op_val⟩, ⟨p_answer_code, p_answer_version, p_answer_has, p_answer_val⟩, p_serial, ⟨p_cell_version, p_cell_has, p_cell_val, ⟨p_cell_marks_a, p_cell_marks_c, p_cell_marks_l⟩⟩⟩) hA (by show p_epoch ≠ s_epoch; omega)]
        exact ⟨⟨s_addr, s_epoch, ⟨s_store_a, s_store_c, s_store_l⟩, ⟨ad1, cp1, s_waits_l⟩, s_serial⟩, ⟨none, 0, []⟩, rfl, rfl, rfl, ⟨k_s_store.mono j4, fun h hh => (l_s_store h hh).mono j4, j6, fun h hh => (l_s_waits h hh).mono j4⟩, SlK.nil, fun y hy => by cases hy⟩
       ·replace hc10 := nF hc10
        refine C_skip ?_
        refine K_then ?_
        refine Y_pk [13, 12, 11, 10, 9, 3] ?_
        iterate 2 refine C_seq ?_
        refine C_region (l := [0, 1]) rfl ?_
        refine Y_fieldAddr F.foff39_0 ?_
        refine Y_load F.lay3 ?_
        refine XD_end ?_
        refine K_then ?_
        refine Y_pk [55, 13, 12, 11, 10, 9, 3] ?_
        refine C_block ?_
        refine C_seq ?_
        refine C_region (l := [0, 1]) rfl ?_
        refine Y_cmp ?_
        refine Y_assign ?_
        refine XD_end ?_
        refine K_then ?_
        refine Y_pk [56, 55, 13, 12, 11, 10, 9, 3] ?_
        refine C_cond rfl (fun hc11 => ?_) (fun hc11 => ?_)
        ·replace hc11 := dT hc11
         refine C_regionW (l := [0, 1, 2, 3, 4, 5]) [5] rfl ?_
         refine Y_move ?_
         refine Y_fieldAddr F.foff39_2 ?_
         refine Y_load F.lay29 ?_
         refine Y_fieldAddr F.foff39_3 ?_
         refine Y_load F.lay31 ?_
         refine X_fhW rfl rfl rfl F.ok25 rfl (request_ok M b9 s_addr s_epoch s_serial r s_store_a ad1 l_a s_store_c cp1 l_c s_store_l s_waits_l l_l hs1 ho1 hb l_s_waits k_s_store l_s_store k_l hA.2.1 hA.2.2.1 hA.1 ⟨p_kind, p_epoch, p_key, ⟨p_op_client, p_op_req, p_op_kind, p_op_version, p_op_val⟩, ⟨p_answer_code, p_answer_version, p_answer_has, p_answer_val⟩, p_serial, ⟨p_cell_version, p_cell_has, p_cell_val, ⟨p_cell_marks_a, p_cell_marks_c, p_cell_marks_l⟩⟩⟩ (prc_op hA.2.2.2 (by show p_kind = 1; omega))) (by repeat first | exact Rem.here _ | exact Rem.two | apply Rem.skip | apply Rem.over) (putE_some rfl) ?_
         rintro _ M2 Ho2 hm2 ⟨rfl, ⟨u_addr, u_epoch, ⟨u_sa, u_sc, u_sl⟩, ⟨u_wa, u_wc, u_wl⟩, u_serial⟩, ⟨o9_a, o9_c, o9_l⟩, ho9, hw9, rfl, hO9, hW9, hpl9, hpo9, k_9, l_9, w_9, p_9⟩
         simp only at hO9 hW9 hpl9 hpo9 k_9 l_9 w_9 p_9
         simp only [List.append_assoc, List.cons_append, List.nil_append]
         refine XD_end ?_
         refine K_unw ?_
         refine K_out ?_
         refine K_then ?_
         refine Y_pk [13, 12, 11, 10] ?_
         refine C_seq ?_
         refine C_region_anyWR (l := [0, 1, 2, 3, 4, 5, 6, 7, 8, 9, 10]) (Hin := [(b3, _)]) [8] #[0, 1, 3, 7, 0, 16, 48, 112, 15, 511, 1023] (by repeat first | exact Rem.here _ | exact Rem.two | apply Rem.skip | apply Rem.over) rfl (by kernel_rfl) (by kernel_rfl) ?_
         refine Y_move ?_
         refine Y_nilCheck ?_
         refine Y_fieldAddr F.foff67_0 ?_
         refine Y_load F.lay26 ?_
         refine Y_move ?_
         refine Y_nilCheck ?_
         refine Y_fieldAddr F.foff67_3 ?_
         refine Y_load F.lay43 ?_
         refine X_storeE rfl rfl rfl rfl rfl (by constructor) (by ((try simp only [cat, List.cons_append, List.nil_append, List.append_nil]); (repeat (first | exact flat_nil | refine flat_id ?_ | (refine flat_one ?_ ?_; rfl))); done)) (by repeat first | exact Upd.head | apply Upd.tail | apply Upd.over) F.lay26 rfl rfl (fun _ h => h.c) ?_
         iterate 2 refine Y_assign ?_
         refine XD_end ?_
         refine K_unw ?_
         refine K_then ?_
         refine Y_pk [12, 11, 10] ?_
         refine C_ret ?_
         refine K_end (.inr rfl) (.cell rfl (by repeat first | exact List.Mem.head _ | refine List.Mem.tail _ ?_ | refine List.mem_append_right _ ?_) F.lay26 rfl rfl (.tmp rfl (.tmp rfl .nil))) (fun w hw => ?_)
         obtain ⟨M3, j1, j2, j3⟩ := OSl.frz (H := hw9 ++ H) (l := o9_l) (f := PostV.segs) hO9 (hw.c)
         obtain ⟨M4, j4, j5, j6⟩ := OSl.frz (H := H) (l := u_wl) (f := WaitV.segs) hW9 j2
         refine ⟨_, M4, rfl, hm2.trans (j1.trans j4), j5, ?_⟩
         clear hw
         rw [srvR_req (s := ServerV.pl ⟨s_addr, s_epoch, ⟨s_store_a, s_store_c, s_store_l⟩, ⟨s_waits_a, s_waits_c, s_waits_l⟩, s_serial⟩) (l := l_l) (r := r) (f := frm) (p := ParcelV.pl ⟨p_kind, p_epoch, p_key, ⟨p_op_client, p_op_req, p_op_kind, p_op_version, p_op_val⟩, ⟨p_answer_code, p_answer_version, p_answer_has, p_answer_val⟩, p_serial, ⟨p_cell_version, p_cell_has, p_cell_val, ⟨p_cell_marks_a, p_cell_marks_c, p_cell_marks_l⟩⟩⟩) hA (by show p_epoch = s_epoch; omega) (by show p_kind = 1; omega)]
         exact ⟨⟨u_addr, u_epoch, ⟨u_sa, u_sc, u_sl⟩, ⟨u_wa, u_wc, u_wl⟩, u_serial⟩, ⟨o9_a, o9_c, o9_l⟩, rfl, hpl9, hpo9, ⟨k_9.mono (j1.trans j4), fun h hh => (l_9 h hh).mono (j1.trans j4), j6, fun h hh => (w_9 h hh).mono (j1.trans j4)⟩, j3.mono j4, fun y hy => (p_9 y hy).mono (j1.trans j4)⟩
        ·replace hc11 := dF hc11
         refine C_seq ?_
         refine C_region (l := [0, 1]) rfl ?_
         refine Y_cmp ?_
         refine Y_assign ?_
         refine XD_end ?_
         refine K_then ?_
         refine Y_pk [64, 55, 13, 12, 11, 10, 9, 3] ?_
         refine C_cond rfl (fun hc12 => ?_) (fun hc12 => ?_)
         ·replace hc12 := dT hc12
          refine C_regionW (l := [0, 1, 2, 3]) [3] rfl ?_
          iterate 2 refine Y_move ?_
          refine Y_load F.lay39 ?_
          refine X_fhW rfl rfl rfl F.ok26 rfl (copy_ok9 M b9 s_addr s_epoch s_serial r s_store_a ad1 l_a s_store_c cp1 l_c s_store_l s_waits_l l_l hs1 ho1 hb l_s_waits k_s_store l_s_store frm ⟨p_kind, p_epoch, p_key, ⟨p_op_client, p_op_req, p_op_kind, p_op_version, p_op_val⟩, ⟨p_answer_code, p_answer_version, p_answer_has, p_answer_val⟩, p_serial, ⟨p_cell_version, p_cell_has, p_cell_val, ⟨p_cell_marks_a, p_cell_marks_c, p_cell_marks_l⟩⟩⟩ hp2.h0) (by repeat first | exact Rem.here _ | exact Rem.two | apply Rem.skip | apply Rem.over) (putE_some rfl) ?_
          rintro _ M2 Ho2 hm2 ⟨rfl, ⟨u_addr, u_epoch, ⟨u_sa, u_sc, u_sl⟩, ⟨u_wa, u_wc, u_wl⟩, u_serial⟩, ⟨o9_a, o9_c, o9_l⟩, ho9, hw9, rfl, hO9, hW9, hpl9, hpo9, k_9, l_9, w_9, p_9⟩
          simp only at hO9 hW9 hpl9 hpo9 k_9 l_9 w_9 p_9
          simp only [List.append_assoc, List.cons_append, List.nil_append]
          refine XD_end ?_
          refine K_unw ?_
          refine K_out ?_
          refine K_then ?_
          refine Y_pk [13, 12, 11, 10] ?_
          refine C_seq ?_
          refine C_region_anyWR (l := [0, 1, 2, 3, 4, 5, 6, 7, 8, 9, 10]) (Hin := [(b3, _)]) [8] #[0, 1, 3, 7, 0, 16, 48, 112, 15, 511, 1023] (by repeat first | exact Rem.here _ | exact Rem.two | apply Rem.skip | apply Rem.over) rfl (by kernel_rfl) (by kernel_rfl) ?_
          refine Y_move ?_
          refine Y_nilCheck ?_
          refine Y_fieldAddr F.foff67_0 ?_
          refine Y_load F.lay26 ?_
          refine Y_move ?_
          refine Y_nilCheck ?_
          refine Y_fieldAddr F.foff67_3 ?_
          refine Y_load F.lay43 ?_
          refine X_storeE rfl rfl rfl rfl rfl (by constructor) (by ((try simp only [cat, List.cons_append, List.nil_append, List.append_nil]); (repeat (first | exact flat_nil | refine flat_id ?_ | (refine flat_one ?_ ?_; rfl))); done)) (by repeat first | exact Upd.head | apply Upd.tail | apply Upd.over) F.lay26 rfl rfl (fun _ h => h.c) ?_
          iterate 2 refine Y_assign ?_
          refine XD_end ?_
          refine K_unw ?_
          refine K_then ?_
          refine Y_pk [12, 11, 10] ?_
          refine C_ret ?_
          refine K_end (.inr rfl) (.cell rfl (by repeat first | exact List.Mem.head _ | refine List.Mem.tail _ ?_ | refine List.mem_append_right _ ?_) F.lay26 rfl rfl (.tmp rfl (.tmp rfl .nil))) (fun w hw => ?_)
          obtain ⟨M3, j1, j2, j3⟩ := OSl.frz (H := hw9 ++ H) (l := o9_l) (f := PostV.segs) hO9 (hw.c)
          obtain ⟨M4, j4, j5, j6⟩ := OSl.frz (H := H) (l := u_wl) (f := WaitV.segs) hW9 j2
          refine ⟨_, M4, rfl, hm2.trans (j1.trans j4), j5, ?_⟩
          clear hw
          rw [srvR_copy (s := ServerV.pl ⟨s_addr, s_epoch, ⟨s_store_a, s_store_c, s_store_l⟩, ⟨s_waits_a, s_waits_c, s_waits_l⟩, s_serial⟩) (l := l_l) (r := r) (f := frm) (p := ParcelV.pl ⟨p_kind, p_epoch, p_key, ⟨p_op_client, p_op_req, p_op_kind, p_op_version, p_op_val⟩, ⟨p_answer_code, p_answer_version, p_answer_has, p_answer_val⟩, p_serial, ⟨p_cell_version, p_cell_has, p_cell_val, ⟨p_cell_marks_a, p_cell_marks_c, p_cell_marks_l⟩⟩⟩) hA (by show p_epoch = s_epoch; omega) (by show p_kind = 3; omega)]
          exact ⟨⟨u_addr, u_epoch, ⟨u_sa, u_sc, u_sl⟩, ⟨u_wa, u_wc, u_wl⟩, u_serial⟩, ⟨o9_a, o9_c, o9_l⟩, rfl, hpl9, hpo9, ⟨k_9.mono (j1.trans j4), fun h hh => (l_9 h hh).mono (j1.trans j4), j6, fun h hh => (w_9 h hh).mono (j1.trans j4)⟩, j3.mono j4, fun y hy => (p_9 y hy).mono (j1.trans j4)⟩
         ·replace hc12 := dF hc12
          refine C_seq ?_
          refine C_region (l := [0, 1]) rfl ?_
          refine Y_cmp ?_
          refine Y_assign ?_
          refine XD_end ?_
          refine K_then ?_
          refine Y_pk [70, 13, 12, 11, 10, 9, 3] ?_
          refine C_cond rfl (fun hc13 => ?_) (fun hc13 => ?_)
          ·replace hc13 := dT hc13
           refine C_regionW (l := [0, 1, 2, 3, 4]) [4] rfl ?_
           iterate 2 refine Y_move ?_
           refine Y_fieldAddr F.foff39_5 ?_
           refine Y_load F.lay22 ?_
           refine X_fhW rfl rfl rfl F.ok27 rfl (copied_ok9 M b9 s_addr s_epoch s_serial r s_store_a ad1 l_a s_store_c cp1 l_c s_store_l s_waits_l l_l hs1 ho1 hb l_s_waits k_s_store l_s_store hA.1 frm p_serial) (by repeat first | exact Rem.here _ | exact Rem.two | apply Rem.skip | apply Rem.over) (putE_some rfl) ?_
           rintro _ M2 Ho2 hm2 ⟨rfl, ⟨u_addr, u_epoch, ⟨u_sa, u_sc, u_sl⟩, ⟨u_wa, u_wc, u_wl⟩, u_serial⟩, ⟨o9_a, o9_c, o9_l⟩, ho9, hw9, rfl, hO9, hW9, hpl9, hpo9, k_9, l_9, w_9, p_9⟩
           simp only at hO9 hW9 hpl9 hpo9 k_9 l_9 w_9 p_9
           simp only [List.append_assoc, List.cons_append, List.nil_append]
           refine XD_end ?_
           refine K_unw ?_
           refine K_out ?_
           refine K_then ?_
           refine Y_pk [13, 12, 11, 10] ?_
           refine C_seq ?_
           refine C_region_anyWR (l := [0, 1, 2, 3, 4, 5, 6, 7, 8, 9, 10]) (Hin := [(b3, _)]) [8] #[0, 1, 3, 7, 0, 16, 48, 112, 15, 511, 1023] (by repeat first | exact Rem.here _ | exact Rem.two | apply Rem.skip | apply Rem.over) rfl (by kernel_rfl) (by kernel_rfl) ?_
           refine Y_move ?_
           refine Y_nilCheck ?_
           refine Y_fieldAddr F.foff67_0 ?_
           refine Y_load F.lay26 ?_
           refine Y_move ?_
           refine Y_nilCheck ?_
           refine Y_fieldAddr F.foff67_3 ?_
           refine Y_load F.lay43 ?_
           refine X_storeE rfl rfl rfl rfl rfl (by constructor) (by ((try simp only [cat, List.cons_append, List.nil_append, List.append_nil]); (repeat (first | exact flat_nil | refine flat_id ?_ | (refine flat_one ?_ ?_; rfl))); done)) (by repeat first | exact Upd.head | apply Upd.tail | apply Upd.over) F.lay26 rfl rfl (fun _ h => h.c) ?_
           iterate 2 refine Y_assign ?_
           refine XD_end ?_
           refine K_unw ?_
           refine K_then ?_
           refine Y_pk [12, 11, 10] ?_
           refine C_ret ?_
           refine K_end (.inr rfl) (.cell rfl (by repeat first | exact List.Mem.head _ | refine List.Mem.tail _ ?_ | refine List.mem_append_right _ ?_) F.lay26 rfl rfl (.tmp rfl (.tmp rfl .nil))) (fun w hw => ?_)
           obtain ⟨M3, j1, j2, j3⟩ := OSl.frz (H := hw9 ++ H) (l := o9_l) (f := PostV.segs) hO9 (hw.c)
           obtain ⟨M4, j4, j5, j6⟩ := OSl.frz (H := H) (l := u_wl) (f := WaitV.segs) hW9 j2
           refine ⟨_, M4, rfl, hm2.trans (j1.trans j4), j5, ?_⟩
           clear hw
           rw [srvR_copied (s := ServerV.pl ⟨s_addr, s_epoch, ⟨s_store_a, s_store_c, s_store_l⟩, ⟨s_waits_a, s_waits_c, s_waits_l⟩, s_serial⟩) (l := l_l) (r := r) (f := frm) (p := ParcelV.pl ⟨p_kind, p_epoch, p_key, ⟨p_op_client, p_op_req, p_op_kind, p_op_version, p_op_val⟩, ⟨p_answer_code, p_answer_version, p_answer_has, p_answer_val⟩, p_serial, ⟨p_cell_version, p_cell_has, p_cell_val, ⟨p_cell_marks_a, p_cell_marks_c, p_cell_marks_l⟩⟩⟩) hA (by show p_epoch = s_epoch; omega) (by show p_kind = 4; omega)]
           exact ⟨⟨u_addr, u_epoch, ⟨u_sa, u_sc, u_sl⟩, ⟨u_wa, u_wc, u_wl⟩, u_serial⟩, ⟨o9_a, o9_c, o9_l⟩, rfl, hpl9, hpo9, ⟨k_9.mono (j1.trans j4), fun h hh => (l_9 h hh).mono (j1.trans j4), j6, fun h hh => (w_9 h hh).mono (j1.trans j4)⟩, j3.mono j4, fun y hy => (p_9 y hy).mono (j1.trans j4)⟩
          ·replace hc13 := dF hc13
           refine C_skip ?_
           refine K_out ?_
           refine K_then ?_
           refine Y_pk [13, 12, 11, 10] ?_
           refine C_seq ?_
           refine C_region_anyWR (l := [0, 1, 2, 3, 4, 5, 6, 7, 8, 9, 10]) (Hin := [(b3, _)]) [8] #[0, 1, 3, 7, 0, 16, 48, 112, 15, 511, 1023] (by repeat first | exact Rem.here _ | exact Rem.two | apply Rem.skip | apply Rem.over) rfl (by kernel_rfl) (by kernel_rfl) ?_
           refine Y_move ?_
           refine Y_nilCheck ?_
           refine Y_fieldAddr F.foff67_0 ?_
           refine Y_load F.lay26 ?_
           refine Y_move ?_
           refine Y_nilCheck ?_
           refine Y_fieldAddr F.foff67_3 ?_
           refine Y_load F.lay43 ?_
           refine X_storeE rfl rfl rfl rfl rfl (by constructor) (by ((try simp only [cat, List.cons_append, List.nil_append, List.append_nil]); (repeat (first | exact flat_nil | refine flat_id ?_ | (refine flat_one ?_ ?_; rfl))); done)) (by repeat first | exact Upd.head | apply Upd.tail | apply Upd.over) F.lay26 rfl rfl (fun _ h => h.c) ?_
           iterate 2 refine Y_assign ?_
           refine XD_end ?_
           refine K_unw ?_
           refine K_then ?_
           refine Y_pk [12, 11, 10] ?_
           refine C_ret ?_
           refine K_end (.inr rfl) (.cell rfl (by repeat first | exact List.Mem.head _ | refine List.Mem.tail _ ?_ | refine List.mem_append_right _ ?_) F.lay26 rfl rfl (.tmp rfl (.tmp rfl .nil))) (fun w hw => ?_)
           obtain ⟨M4, j4, j5, j6⟩ := OSl.frz (H := H) (l := s_waits_l) (f := WaitV.segs) ho1 (hw.c)
           refine ⟨_, M4, rfl, j4, j5, ?_⟩
           clear hw
           rw [srvR_else (s := ServerV.pl ⟨s_addr, s_epoch, ⟨s_store_a, s_store_c, s_store_l⟩, ⟨s_waits_a, s_waits_c, s_waits_l⟩, s_serial⟩) (l := l_l) (r := r) (f := frm) (p := ParcelV.pl ⟨p_kind, p_epoch, p_key, ⟨p_op_client, p_op_req, p_op_kind, p_op_version, p_op_val⟩, ⟨p_answer_code, p_answer_version, p_answer_has, p_answer_val⟩, p_serial, ⟨p_cell_version, p_cell_has, p_cell_val, ⟨p_cell_marks_a, p_cell_marks_c, p_cell_marks_l⟩⟩⟩) hA (by show p_epoch = s_epoch; omega) (by show ¬ p_kind = 1; omega) (by show ¬ p_kind = 3; omega) (by show ¬ p_kind = 4; omega)]
           exact ⟨⟨s_addr, s_epoch, ⟨s_store_a, s_store_c, s_store_l⟩, ⟨ad1, cp1, s_waits_l⟩, s_serial⟩, ⟨none, 0, []⟩, rfl, rfl, rfl, ⟨k_s_store.mono j4, fun h hh => (l_s_store h hh).mono j4, j6, fun h hh => (l_s_waits h hh).mono j4⟩, SlK.nil, fun y hy => by cases hy⟩

end Go.Proofs.YtpkeilhilpogiaaGreat
/-
  Small places.
-/
set_option linter.unusedSimpArgs false
set_option linter.unusedVariables false
set_option linter.unnecessarySimpa false
namespace Go.Esp
/-- A small number's place. -/
def smallP (n : Int) : Plc := ofBytes fun i => if i = 19 then (n % 256).toNat else if i = 18 then (n / 256 % 256).toNat else 0
theorem smallP_lt (n : Int) : ∀ i, (if i = 19 then (n % 256).toNat else if i = 18 then (n / 256 % 256).toNat else 0) < 256 := fun i => by
  split
  · omega
  · split
    · omega
    · decide
theorem idV0 {i : Nat} (h : i < 20) : (idV 0)[i] = .int .u8 0 := by rw [idV_get _ h]; simp [idB]
theorem small_seg (n : Int) : idV (smallP n) = ((idV 0).set 19 (.int .u8 (n % 256))).set 18 (.int .u8 (n / 256 % 256)) := by
  apply Vector.ext
  intro i hi
  rw [idV_get _ hi]
  unfold smallP
  rw [idB_ofBytes (smallP_lt n) hi]
  by_cases e8 : i = 18
  · subst e8
    rw [Vector.getElem_set_self]
    simp
    omega
  · rw [Vector.getElem_set_ne _ _ (Ne.symm e8)]
    by_cases e9 : i = 19
    · subst e9
      rw [Vector.getElem_set_self]
      simp
      omega
    · rw [Vector.getElem_set_ne _ _ (Ne.symm e9), idV0 hi]
      simp [e8, e9]

/-! The document's example. -/
end Go.Esp
/-
  A circle of two, by the models: what each parcel does.
-/
set_option linter.unusedSimpArgs false
set_option linter.unusedVariables false
set_option linter.unnecessarySimpa false
namespace Go.Esp
def sl2 : List PeerV := [⟨1, 10#160⟩, ⟨2, 20#160⟩]
def scA : AnswerV := ⟨0, 1, true, ⟨#[]⟩⟩
def sc1 : Cel := ⟨1, true, ⟨#[97]⟩, [⟨3, 1, scA⟩]⟩
def sp1 : Prc := ⟨1, 0, 5#160, ⟨3, 1, 2, 0, ⟨#[97]⟩⟩, AnswerV.zero, 0, Cel.zero⟩
def sA : Srv := ⟨1, 0, [⟨5#160, sc1⟩], [⟨5#160, 3, 1, scA, 1, [2]⟩], 1⟩
def sX : Pst := ⟨2, ⟨3, 0, 5#160, OpV.zero, AnswerV.zero, 1, sc1⟩⟩
def sB : Srv := ⟨2, 0, [⟨5#160, sc1⟩], [], 0⟩
def sY : Pst := ⟨1, ⟨4, 0, 0, OpV.zero, AnswerV.zero, 1, Cel.zero⟩⟩
def sC : Srv := ⟨1, 0, [⟨5#160, sc1⟩], [], 1⟩
def sZ : Pst := ⟨1003, ⟨2, 0, 0, ⟨3, 1, 0, 0, ⟨#[]⟩⟩, scA, 0, Cel.zero⟩⟩
theorem xs5 : smallP 5 = 5#160 := by kernel_rfl
theorem xs10 : smallP 10 = 10#160 := by kernel_rfl
theorem xs20 : smallP 20 = 20#160 := by kernel_rfl
theorem se1 : srvR ⟨1, 0, [], [], 0⟩ sl2 2 1003 sp1 = (sA, [sX], 0) := by kernel_rfl
theorem se2 : srvR ⟨2, 0, [], [], 0⟩ sl2 2 1 sX.parcel = (sB, [sY], 0) := by kernel_rfl
theorem se3 : srvR sA sl2 2 2 sY.parcel = (sC, [sZ], 0) := by kernel_rfl
theorem se4 : findP sB.store 5#160 = (sc1, true) := by kernel_rfl
theorem se5 : IsSrv sC := of_decide_eq_true (by kernel_rfl)
theorem pst_one {l : List PostV} {p : Pst} (h : pstl l = [p]) : ∃ y, l = [y] ∧ y.pl = p := by
  unfold pstl at h
  obtain ⟨y, rfl, hy⟩ := List.map_eq_singleton_iff.1 h
  exact ⟨y, rfl, hy⟩
end Go.Esp
/-
  The example of the document.
-/
set_option linter.unusedSimpArgs false
set_option linter.unusedVariables false
set_option linter.unnecessarySimpa false
set_option maxRecDepth 8000
set_option maxHeartbeats 1000000
namespace Go.Proofs.YtpkeilhilpogiaaGreat
open Go.Esp
theorem F.bld80 : Bld Tryz.prog 80 [[.one (.int .i64 0)], [idSeg 0]] := by rw [idSeg0]; exact ⟨by kernel_rfl, by kernel_rfl⟩
theorem F.ok11 : okFn Tryz.prog 11 = true := by kernel_rfl
theorem F.ok35 : okFn Tryz.prog 35 = true := by kernel_rfl

theorem Small_ok (M : Mem) (n : Int) (hn : 0 ≤ n ∧ n ≤ 1000000) : Fs Tryz.prog 35 [.int .i64 n] M (fun v => v = (fun x => aggV [idSeg x]) (smallP n)) := by
  refine fs_enter Tryz.func35 rfl Tryz.ntmps35 rfl ?_; intro H
  refine C_seq ?_
  refine C_region (l := [0]) rfl ?_
  refine Y_alloc F.zero29 ?_; intro b1
  refine XD_end ?_
  refine K_then ?_
  refine C_seq ?_
  refine C_region (l := [0]) rfl ?_
  refine Y_alloc F.zero29 ?_; intro b2
  refine XD_end ?_
  refine K_then ?_
  refine C_seq ?_
  refine C_region (l := [0, 1, 2, 3, 4]) rfl ?_
  refine Y_move ?_
  refine X_rem rfl rfl rfl rfl (by decide) (by exact rem_nn (by omega)) rfl ?_
  refine X_conv rfl rfl rfl Tryz.underlying3 Tryz.underlying5 (by exact wrap_u8_in (by decide) (by omega)) rfl ?_
  refine X_indexAddr_arr rfl rfl rfl rfl F.arr29 (by rfl) (by decide) rfl ?_
  refine X_store_cell rfl rfl rfl rfl rfl rfl (by repeat first | exact Upd.head | apply Upd.tail | apply Upd.over) F.lay5 (arr_len (by decide)) (arr_set (by decide)) ?_
  refine XD_end ?_
  refine K_then ?_
  refine Y_pk [3, 2, 0] ?_
  refine C_seq ?_
  refine C_region (l := [0, 1, 2, 3, 4, 5]) rfl ?_
  refine Y_move ?_
  refine X_quo rfl rfl rfl rfl (by decide) (by exact quo_in rfl (by omega) (by omega) (by omega)) rfl ?_
  refine X_rem rfl rfl rfl rfl (by decide) (by exact rem_nn (by omega)) rfl ?_
  refine X_conv rfl rfl rfl Tryz.underlying3 Tryz.underlying5 (by exact wrap_u8_in (by decide) (by omega)) rfl ?_
  refine X_indexAddr_arr rfl rfl rfl rfl F.arr29 (by rfl) (by decide) rfl ?_
  refine X_store_cell rfl rfl rfl rfl rfl rfl (by repeat first | exact Upd.head | apply Upd.tail | apply Upd.over) F.lay5 (arr_len (by decide)) (arr_set (by decide)) ?_
  refine XD_end ?_
  refine K_then ?_
  refine Y_pk [3, 2] ?_
  refine C_seq ?_
  refine C_region (l := [0, 1]) rfl ?_
  refine Y_load F.lay29 ?_
  refine XD_is 13 rfl (show aggV [.arr 20 _] = aggV [idSeg (smallP n)] from by unfold idSeg; rw [small_seg]) ?_
  refine Y_store F.lay29 ?_
  refine XD_end ?_
  refine K_then ?_
  refine Y_pk [2] ?_
  refine C_ret ?_
  refine K_end (.inr rfl) (.cell rfl (by repeat first | exact List.Mem.head _ | refine List.Mem.tail _ ?_ | refine List.mem_append_right _ ?_) F.lay29 rfl rfl .nil) (fun w hw => ?_)
  refine ⟨_, rfl, (hw.c), ?_⟩
  clear hw
  rfl

theorem small5_ok (M : Mem) : Fs Tryz.prog 35 [.int .i64 5] M (fun v => v = aggV [idSeg 5#160]) := by
  have h := Small_ok M 5 (by decide)
  rw [xs5] at h
  exact h

theorem small10_ok (M : Mem) : Fs Tryz.prog 35 [.int .i64 10] M (fun v => v = aggV [idSeg 10#160]) := by
  have h := Small_ok M 10 (by decide)
  rw [xs10] at h
  exact h

theorem small20_ok (M : Mem) : Fs Tryz.prog 35 [.int .i64 20] M (fun v => v = aggV [idSeg 20#160]) := by
  have h := Small_ok M 20 (by decide)
  rw [xs20] at h
  exact h

theorem served_ok (M : Mem) : Esp.Fn Tryz.prog 13 [] M (fun _ v => v = .bool true) := by
  refine fn_enter Tryz.func13 rfl Tryz.ntmps13 rfl ?_; intro H
  refine C_seq ?_
  refine C_region (l := [0]) rfl ?_
  refine Y_assign ?_
  refine XD_end ?_
  refine K_then ?_
  refine C_seq ?_
  refine C_region (l := [0, 1, 2, 3, 4, 5]) rfl ?_
  refine X_fs rfl rfl F.ok35 rfl (small10_ok _) rfl ?_
  rintro _ rfl
  refine X_build rfl rfl F.bld80 (.cons rfl (by constructor) (.cons rfl (by constructor) .nil)) rfl rfl ?_
  refine X_fs rfl rfl F.ok35 rfl (small20_ok _) rfl ?_
  rintro _ rfl
  refine X_build rfl rfl F.bld80 (.cons rfl (by constructor) (.cons rfl (by constructor) .nil)) rfl rfl ?_
  refine X_buildSliceF rfl rfl F.elem27 F.zero80 rfl rfl (.cons rfl (by constructor) (.cons rfl (by constructor) .nil)) rfl rfl (by simp only [List.map_cons, List.map_nil] <;> rfl) rfl ?_; intro b1 hob2
  refine Y_assign ?_
  refine XD_end ?_
  refine K_then ?_
  refine Y_pk [1, 0] ?_
  refine C_seq ?_
  refine C_frz (f := PeerV.segs) (l := sl2) (show OSl 80 21 (.slice _ 2 2) _ (sl2.map PeerV.segs) from hob2) (by repeat first | exact Rem.here _ | exact Rem.two | apply Rem.skip | apply Rem.over) (fun M1 hm1 k_l => ?_)
  refine C_region (l := [0, 1, 2]) rfl ?_
  refine X_fs rfl rfl F.ok35 rfl (small5_ok _) rfl ?_
  rintro _ rfl
  refine Y_alloc F.zero29 ?_; intro b3
  refine Y_store F.lay29 ?_
  refine XD_end ?_
  refine K_then ?_
  refine Y_pk [2, 1, 0] ?_
  refine C_seq ?_
  refine C_region (l := [0, 1, 2, 3, 4]) rfl ?_
  refine Y_load F.lay29 ?_
  refine X_build rfl rfl F.bld31 (.cons rfl (by constructor) (.cons rfl (by constructor) (.cons rfl (by constructor) (.cons rfl (by constructor) .nil)))) rfl rfl ?_
  refine X_build rfl rfl F.bld39 (.cons rfl (by constructor) (.cons rfl (by constructor) (.cons rfl (by constructor) .nil))) rfl rfl ?_
  refine Y_alloc F.zero39 ?_; intro b4
  refine Y_store F.lay39 ?_
  refine XD_end ?_
  refine K_then ?_
  refine Y_pk [3, 2, 1, 0] ?_
  refine C_seq ?_
  refine C_region (l := [0, 1, 2, 3, 4, 5, 6, 7, 8, 9, 10, 11]) rfl ?_
  refine X_build rfl rfl F.bld26 (.cons rfl (by constructor) .nil) rfl rfl ?_
  refine Y_move ?_
  refine Y_load F.lay39 ?_
  refine X_fn rfl rfl F.ok11 rfl (Take_ok M1 ⟨1, 0, ⟨none, 0, []⟩, ⟨none, 0, []⟩, 0⟩ ⟨_, 2, sl2⟩ 2 1003 ⟨1, 0, 5#160, ⟨3, 1, 2, 0, ⟨#[97]⟩⟩, AnswerV.zero, 0, CellV.zero⟩ ⟨SlK.nil, (fun y hy => by cases hy), SlK.nil, (fun y hy => by cases hy)⟩ k_l ⟨CellV.zero_ok _⟩ (by show 0 ≤ 1000; omega)) rfl ?_
  rintro _ M2 hm2 hv
  replace hv : SrvE _ _ (srvR ⟨1, 0, [], [], 0⟩ sl2 2 1003 sp1) := hv
  rw [se1] at hv
  obtain ⟨⟨a_addr, a_epoch, ⟨a_sa, a_sc, a_sl⟩, ⟨a_wa, a_wc, a_wl⟩, a_serial⟩, ⟨x_pa, x_pc, x_pl⟩, rfl, ha, hpx, ok_a, k_x, l_x⟩ := hv
  simp only at ha hpx l_x
  obtain ⟨⟨x_to, ⟨x_kind, x_epoch, x_key, ⟨x_oc, x_or, x_ok, x_ov, x_os⟩, ⟨x_ac, x_av, x_ah, x_as⟩, x_serial, ⟨x_cv, x_ch, x_cs, ⟨x_ma, x_mc, x_ml⟩⟩⟩⟩, rfl, hxx⟩ := pst_one hpx
  have s_x := k_x.h1
  simp only at s_x
  have hparx : ParcelV.pl ⟨x_kind, x_epoch, x_key, ⟨x_oc, x_or, x_ok, x_ov, x_os⟩, ⟨x_ac, x_av, x_ah, x_as⟩, x_serial, ⟨x_cv, x_ch, x_cs, ⟨x_ma, x_mc, x_ml⟩⟩⟩ = sX.parcel := congrArg Pst.parcel hxx
  have n_x : [(⟨x_to, ⟨x_kind, x_epoch, x_key, ⟨x_oc, x_or, x_ok, x_ov, x_os⟩, ⟨x_ac, x_av, x_ah, x_as⟩, x_serial, ⟨x_cv, x_ch, x_cs, ⟨x_ma, x_mc, x_ml⟩⟩⟩⟩ : PostV)].length = 1 := rfl
  obtain rfl : x_to = 2 := congrArg Pst.to hxx
  have hxk : x_kind = 3 := congrArg (fun p : Pst => p.parcel.kind) hxx
  have hawl : a_wl.length = 1 := by rw [← wtl_len]; exact congrArg (fun s : Srv => s.waits.length) ha
  refine Y_move ?_
  iterate 3 refine Y_extract ?_
  refine Y_alloc F.zero26 ?_; intro b5
  refine Y_store F.lay26 ?_
  iterate 2 refine Y_assign ?_
  refine XD_end ?_
  refine K_then ?_
  refine Y_pk [6, 5, 4, 2, 1, 0] ?_
  iterate 2 refine C_seq ?_
  refine C_region (l := [0, 1, 2, 3, 4, 5, 6, 7, 8, 9, 10, 11, 12, 13, 14, 15, 16, 17, 18, 19, 20, 21, 22, 23, 24, 25, 26, 27]) rfl ?_
  refine Y_move ?_
  refine Y_cmp ?_
  refine Y_move ?_
  refine XD_part 34 rfl (fun hc6 => ?_) (fun hc6 => ?_)
  ·replace hc6 := nT hc6
   simp only [AnswerV.eta, MarkV.eta, CellV.eta, HeldV.eta, WaitV.eta, ServerV.eta, PeerV.eta, OpV.eta, ParcelV.eta, PostV.eta, WorkerV.eta] at hc6
   (exfalso; simp [eqX] at hc6; done)
  ·replace hc6 := nF hc6
   simp only [AnswerV.eta, MarkV.eta, CellV.eta, HeldV.eta, WaitV.eta, ServerV.eta, PeerV.eta, OpV.eta, ParcelV.eta, PostV.eta, WorkerV.eta] at hc6
   refine Y_move ?_
   refine Y_len_sl F.elem43 ?_
   refine Y_cmp ?_
   refine Y_pick ?_
   refine Y_move ?_
   refine XD_part 39 rfl (fun hc7 => ?_) (fun hc7 => ?_)
   ·replace hc7 := nT hc7
    (exfalso; omega)
   ·replace hc7 := nF hc7
    refine Y_move ?_
    refine X_indexAddr rfl rfl rfl rfl F.elem43 (by rfl) (by (simp; done)) (by exact SlM.plain (by assumption) (by (simp; done))) rfl ?_
    refine X_fieldAddr_el rfl rfl rfl (by exact SlM.plain (by assumption) (by (simp; done))) F.foff51_0 rfl ?_
    refine X_load_el rfl rfl rfl (by assumption) (by exact rfl) F.lay3 rfl rfl rfl ?_
    refine Y_cmp ?_
    refine Y_pick ?_
    refine Y_move ?_
    refine XD_part 46 rfl (fun hc8 => ?_) (fun hc8 => ?_)
    ·replace hc8 := nT hc8
     simp only [AnswerV.eta, MarkV.eta, CellV.eta, HeldV.eta, WaitV.eta, ServerV.eta, PeerV.eta, OpV.eta, ParcelV.eta, PostV.eta, WorkerV.eta] at hc8
     (exfalso; simp [eqX] at hc8; done)
    ·replace hc8 := nF hc8
     simp only [AnswerV.eta, MarkV.eta, CellV.eta, HeldV.eta, WaitV.eta, ServerV.eta, PeerV.eta, OpV.eta, ParcelV.eta, PostV.eta, WorkerV.eta] at hc8
     refine Y_move ?_
     refine X_indexAddr rfl rfl rfl rfl F.elem43 (by rfl) (by (simp; done)) (by exact SlM.plain (by assumption) (by (simp; done))) rfl ?_
     refine X_fieldAddr_el rfl rfl rfl (by exact SlM.plain (by assumption) (by (simp; done))) F.foff51_1 rfl ?_
     refine X_fieldAddr_el rfl rfl rfl (by exact SlM.plain (by assumption) (by (simp; done))) F.foff39_0 rfl ?_
     refine X_load_el rfl rfl rfl (by assumption) (by exact rfl) F.lay3 rfl rfl rfl ?_
     refine Y_cmp ?_
     refine Y_pick ?_
     refine Y_move ?_
     refine XD_part 54 rfl (fun hc9 => ?_) (fun hc9 => ?_)
     ·replace hc9 := nT hc9
      (exfalso; omega)
     ·replace hc9 := nF hc9
      refine Y_fieldAddr F.foff26_3 ?_
      refine Y_load F.lay24 ?_
      refine Y_len_sl F.elem24 ?_
      refine Y_cmp ?_
      refine Y_pick ?_
      refine XD_end ?_
      refine K_then ?_
      refine Y_pk [59, 5, 4, 2, 1, 0] ?_
      refine C_cond rfl (fun hc10 => ?_) (fun hc10 => ?_)
      ·replace hc10 := nT hc10
       (exfalso; omega)
      ·replace hc10 := nF hc10
       refine C_skip ?_
       refine K_then ?_
       refine Y_pk [5, 4, 2, 1, 0] ?_
       refine C_seq ?_
       refine C_region (l := [0, 1, 2, 3, 4, 5, 6, 7, 8, 9, 10, 11, 12, 13, 14]) rfl ?_
       refine X_build rfl rfl F.bld26 (.cons rfl (by constructor) .nil) rfl rfl ?_
       iterate 2 refine Y_move ?_
       refine X_indexAddr rfl rfl rfl rfl F.elem43 (by rfl) (by (simp; done)) (by exact SlM.plain (by assumption) (by (simp; done))) rfl ?_
       refine X_fieldAddr_el rfl rfl rfl (by exact SlM.plain (by assumption) (by (simp; done))) F.foff51_1 rfl ?_
       refine X_load_el rfl rfl rfl (by assumption) (by exact rfl) F.lay39 rfl rfl rfl ?_
       refine X_fn rfl rfl F.ok11 rfl (Take_ok M2 ⟨2, 0, ⟨none, 0, []⟩, ⟨none, 0, []⟩, 0⟩ ⟨_, 2, sl2⟩ 2 1 ⟨x_kind, x_epoch, x_key, ⟨x_oc, x_or, x_ok, x_ov, x_os⟩, ⟨x_ac, x_av, x_ah, x_as⟩, x_serial, ⟨x_cv, x_ch, x_cs, ⟨x_ma, x_mc, x_ml⟩⟩⟩ ⟨SlK.nil, (fun y hy => by cases hy), SlK.nil, (fun y hy => by cases hy)⟩ (k_l.mono hm2) (l_x _ (.head _)).h0 (by show 0 ≤ 1000; omega)) rfl ?_
       rintro _ M3 hm3 hv
       replace hv : SrvE _ _ (srvR ⟨2, 0, [], [], 0⟩ sl2 2 1 (ParcelV.pl ⟨x_kind, x_epoch, x_key, ⟨x_oc, x_or, x_ok, x_ov, x_os⟩, ⟨x_ac, x_av, x_ah, x_as⟩, x_serial, ⟨x_cv, x_ch, x_cs, ⟨x_ma, x_mc, x_ml⟩⟩⟩)) := hv
       rw [hparx, se2] at hv
       obtain ⟨⟨b_addr, b_epoch, ⟨b_sa, b_sc, b_sl⟩, ⟨b_wa, b_wc, b_wl⟩, b_serial⟩, ⟨y_pa, y_pc, y_pl⟩, rfl, hb, hpy, ok_b, k_y, l_y⟩ := hv
       simp only at hb hpy l_y
       obtain ⟨⟨y_to, ⟨y_kind, y_epoch, y_key, ⟨y_oc, y_or, y_ok, y_ov, y_os⟩, ⟨y_ac, y_av, y_ah, y_as⟩, y_serial, ⟨y_cv, y_ch, y_cs, ⟨y_ma, y_mc, y_ml⟩⟩⟩⟩, rfl, hxy⟩ := pst_one hpy
       have s_y := k_y.h1
       simp only at s_y
       have hpary : ParcelV.pl ⟨y_kind, y_epoch, y_key, ⟨y_oc, y_or, y_ok, y_ov, y_os⟩, ⟨y_ac, y_av, y_ah, y_as⟩, y_serial, ⟨y_cv, y_ch, y_cs, ⟨y_ma, y_mc, y_ml⟩⟩⟩ = sY.parcel := congrArg Pst.parcel hxy
       have n_y : [(⟨y_to, ⟨y_kind, y_epoch, y_key, ⟨y_oc, y_or, y_ok, y_ov, y_os⟩, ⟨y_ac, y_av, y_ah, y_as⟩, y_serial, ⟨y_cv, y_ch, y_cs, ⟨y_ma, y_mc, y_ml⟩⟩⟩⟩ : PostV)].length = 1 := rfl
       obtain rfl : y_to = 1 := congrArg Pst.to hxy
       refine Y_move ?_
       iterate 3 refine Y_extract ?_
       refine Y_alloc F.zero26 ?_; intro b11
       refine Y_store F.lay26 ?_
       iterate 2 refine Y_assign ?_
       refine XD_end ?_
       refine K_then ?_
       refine Y_pk [9, 8, 7, 4, 2, 1, 0] ?_
       iterate 2 refine C_seq ?_
       refine C_region (l := [0, 1, 2, 3, 4, 5, 6, 7, 8, 9, 10, 11, 12, 13]) rfl ?_
       refine Y_move ?_
       refine Y_cmp ?_
       refine Y_move ?_
       refine XD_part 73 rfl (fun hc12 => ?_) (fun hc12 => ?_)
       ·replace hc12 := nT hc12
        simp only [AnswerV.eta, MarkV.eta, CellV.eta, HeldV.eta, WaitV.eta, ServerV.eta, PeerV.eta, OpV.eta, ParcelV.eta, PostV.eta, WorkerV.eta] at hc12
        (exfalso; simp [eqX] at hc12; done)
       ·replace hc12 := nF hc12
        simp only [AnswerV.eta, MarkV.eta, CellV.eta, HeldV.eta, WaitV.eta, ServerV.eta, PeerV.eta, OpV.eta, ParcelV.eta, PostV.eta, WorkerV.eta] at hc12
        refine Y_move ?_
        refine Y_len_sl F.elem43 ?_
        refine Y_cmp ?_
        refine Y_pick ?_
        refine Y_move ?_
        refine XD_part 78 rfl (fun hc13 => ?_) (fun hc13 => ?_)
        ·replace hc13 := nT hc13
         (exfalso; omega)
        ·replace hc13 := nF hc13
         refine Y_move ?_
         refine X_indexAddr rfl rfl rfl rfl F.elem43 (by rfl) (by (simp; done)) (by exact SlM.plain (by assumption) (by (simp; done))) rfl ?_
         refine X_fieldAddr_el rfl rfl rfl (by exact SlM.plain (by assumption) (by (simp; done))) F.foff51_0 rfl ?_
         refine X_load_el rfl rfl rfl (by assumption) (by exact rfl) F.lay3 rfl rfl rfl ?_
         refine Y_cmp ?_
         refine Y_pick ?_
         refine XD_end ?_
         refine K_then ?_
         refine Y_pk [84, 8, 7, 4, 2, 1, 0] ?_
         refine C_cond rfl (fun hc14 => ?_) (fun hc14 => ?_)
         ·replace hc14 := nT hc14
          simp only [AnswerV.eta, MarkV.eta, CellV.eta, HeldV.eta, WaitV.eta, ServerV.eta, PeerV.eta, OpV.eta, ParcelV.eta, PostV.eta, WorkerV.eta] at hc14
          (exfalso; simp [eqX] at hc14; done)
         ·replace hc14 := nF hc14
          simp only [AnswerV.eta, MarkV.eta, CellV.eta, HeldV.eta, WaitV.eta, ServerV.eta, PeerV.eta, OpV.eta, ParcelV.eta, PostV.eta, WorkerV.eta] at hc14
          refine C_skip ?_
          refine K_then ?_
          refine Y_pk [8, 7, 4, 2, 1, 0] ?_
          refine C_seq ?_
          refine C_region_any (l := [0, 1, 2, 3, 4, 5, 6, 7, 8, 9, 10, 11, 12, 13, 14]) #[0, 0, 0, 4, 12, 28, 63, 127, 255, 255, 255, 0, 2559, 7167, 16383] _ rfl (by kernel_rfl) (by kernel_rfl) St.drawn (fun _ h => h) ?_
          refine Y_load F.lay26 ?_
          iterate 2 refine Y_move ?_
          refine X_indexAddr rfl rfl rfl rfl F.elem43 (by rfl) (by (simp; done)) (by exact SlM.plain (by assumption) (by (simp; done))) rfl ?_
          refine X_fieldAddr_el rfl rfl rfl (by exact SlM.plain (by assumption) (by (simp; done))) F.foff51_1 rfl ?_
          refine X_load_el rfl rfl rfl (by assumption) (by exact rfl) F.lay39 rfl rfl rfl ?_
          refine X_fn rfl rfl F.ok11 rfl (Take_ok M3 ⟨a_addr, a_epoch, ⟨a_sa, a_sc, a_sl⟩, ⟨a_wa, a_wc, a_wl⟩, a_serial⟩ ⟨_, 2, sl2⟩ 2 2 ⟨y_kind, y_epoch, y_key, ⟨y_oc, y_or, y_ok, y_ov, y_os⟩, ⟨y_ac, y_av, y_ah, y_as⟩, y_serial, ⟨y_cv, y_ch, y_cs, ⟨y_ma, y_mc, y_ml⟩⟩⟩ (ok_a.mono hm3) (k_l.mono (hm2.trans hm3)) (l_y _ (.head _)).h0 (by show a_wl.length ≤ 1000; omega)) rfl ?_
          rintro _ M4 hm4 hv
          replace hv : SrvE _ _ (srvR (ServerV.pl ⟨a_addr, a_epoch, ⟨a_sa, a_sc, a_sl⟩, ⟨a_wa, a_wc, a_wl⟩, a_serial⟩) sl2 2 2 (ParcelV.pl ⟨y_kind, y_epoch, y_key, ⟨y_oc, y_or, y_ok, y_ov, y_os⟩, ⟨y_ac, y_av, y_ah, y_as⟩, y_serial, ⟨y_cv, y_ch, y_cs, ⟨y_ma, y_mc, y_ml⟩⟩⟩)) := hv
          rw [hpary, ha, se3] at hv
          obtain ⟨⟨c_addr, c_epoch, ⟨c_sa, c_sc, c_sl⟩, ⟨c_wa, c_wc, c_wl⟩, c_serial⟩, ⟨z_pa, z_pc, z_pl⟩, rfl, hc, hpz, ok_c, k_z, l_z⟩ := hv
          simp only at hc hpz l_z
          obtain ⟨⟨z_to, ⟨z_kind, z_epoch, z_key, ⟨z_oc, z_or, z_ok, z_ov, z_os⟩, ⟨z_ac, z_av, z_ah, z_as⟩, z_serial, ⟨z_cv, z_ch, z_cs, ⟨z_ma, z_mc, z_ml⟩⟩⟩⟩, rfl, hxz⟩ := pst_one hpz
          have s_z := k_z.h1
          simp only at s_z
          have hparz : ParcelV.pl ⟨z_kind, z_epoch, z_key, ⟨z_oc, z_or, z_ok, z_ov, z_os⟩, ⟨z_ac, z_av, z_ah, z_as⟩, z_serial, ⟨z_cv, z_ch, z_cs, ⟨z_ma, z_mc, z_ml⟩⟩⟩ = sZ.parcel := congrArg Pst.parcel hxz
          have n_z : [(⟨z_to, ⟨z_kind, z_epoch, z_key, ⟨z_oc, z_or, z_ok, z_ov, z_os⟩, ⟨z_ac, z_av, z_ah, z_as⟩, z_serial, ⟨z_cv, z_ch, z_cs, ⟨z_ma, z_mc, z_ml⟩⟩⟩⟩ : PostV)].length = 1 := rfl
          obtain rfl : z_to = 1003 := congrArg Pst.to hxz
          obtain ⟨rfl, rfl, rfl, rfl⟩ : z_ac = 0 ∧ z_av = 1 ∧ z_ah = true ∧ z_as = ⟨#[]⟩ := by
           have h9 := congrArg (fun p : Pst => p.parcel.answer) hxz
           replace h9 : (⟨z_ac, z_av, z_ah, z_as⟩ : AnswerV) = ⟨0, 1, true, ⟨#[]⟩⟩ := h9
           simpa only [AnswerV.mk.injEq] using h9
          have hcwl : c_wl.length = 0 := by rw [← wtl_len]; exact congrArg (fun s : Srv => s.waits.length) hc
          refine Y_move ?_
          iterate 3 refine Y_extract ?_
          refine Y_alloc F.zero26 ?_; intro b15
          refine Y_store F.lay26 ?_
          iterate 2 refine Y_assign ?_
          refine XD_end ?_
          refine K_then ?_
          refine Y_pk [12, 11, 10, 7, 2, 0] ?_
          refine C_seq ?_
          refine C_region (l := [0, 1, 2, 3, 4, 5, 6, 7, 8, 9]) rfl ?_
          refine Y_fieldAddr F.foff26_2 ?_
          refine Y_load F.lay23 ?_
          refine Y_load F.lay29 ?_
          refine X_fs rfl rfl F.ok19 rfl (Find_ok _ ⟨b_sa, b_sc, b_sl⟩ 5#160 (ok_b.h0.mono hm4) (fun h hh => (ok_b.h1 h hh).mono hm4)) rfl ?_
          rintro _ hv
          obtain ⟨⟨⟨e_v, e_h, e_s, ⟨e_a, e_c, e_l⟩⟩, eb⟩, he⟩ : ∃ r, findX b_sl 5#160 = r := ⟨_, rfl⟩
          replace hv : _ = findXv (findX b_sl 5#160) := hv
          rw [he] at hv
          subst hv
          have hpl := findX_pl b_sl 5#160
          rw [he, show pls b_sl = sB.store from congrArg Srv.store hb, se4] at hpl
          obtain rfl : eb = true := congrArg Prod.snd hpl
          obtain rfl : e_s = ⟨#[97]⟩ := congrArg (fun x : Cel × Bool => x.1.val) hpl
          refine Y_move ?_
          iterate 2 refine Y_extract ?_
          refine Y_alloc F.zero37 ?_; intro b16
          refine Y_store F.lay37 ?_
          refine Y_assign ?_
          refine XD_end ?_
          refine K_then ?_
          refine Y_pk [14, 13, 12, 11, 10, 0] ?_
          refine C_seq ?_
          refine C_region (l := [0, 1, 2, 3, 4, 5, 6, 7, 8, 9, 10, 11, 12, 13, 14, 15, 16, 17, 18, 19, 20, 21, 22, 23, 24, 25, 26, 27, 28, 29, 30, 31, 32, 33, 34, 35, 36, 37, 38, 39, 40, 41]) rfl ?_
          refine Y_move ?_
          refine Y_cmp ?_
          refine Y_move ?_
          refine XD_part 105 rfl (fun hc17 => ?_) (fun hc17 => ?_)
          ·replace hc17 := dT hc17
           simp only [AnswerV.eta, MarkV.eta, CellV.eta, HeldV.eta, WaitV.eta, ServerV.eta, PeerV.eta, OpV.eta, ParcelV.eta, PostV.eta, WorkerV.eta] at hc17
           refine Y_move ?_
           refine Y_len_sl F.elem43 ?_
           refine Y_cmp ?_
           refine Y_pick ?_
           refine Y_move ?_
           refine XD_part 110 rfl (fun hc18 => ?_) (fun hc18 => ?_)
           ·replace hc18 := dT hc18
            refine Y_move ?_
            refine X_indexAddr rfl rfl rfl rfl F.elem43 (by rfl) (by (simp; done)) (by exact SlM.plain (by assumption) (by (simp; done))) rfl ?_
            refine X_fieldAddr_el rfl rfl rfl (by exact SlM.plain (by assumption) (by (simp; done))) F.foff51_0 rfl ?_
            refine X_load_el rfl rfl rfl (by assumption) (by exact rfl) F.lay3 rfl rfl rfl ?_
            refine Y_cmp ?_
            refine Y_pick ?_
            refine Y_move ?_
            refine XD_part 117 rfl (fun hc19 => ?_) (fun hc19 => ?_)
            ·replace hc19 := dT hc19
             simp only [AnswerV.eta, MarkV.eta, CellV.eta, HeldV.eta, WaitV.eta, ServerV.eta, PeerV.eta, OpV.eta, ParcelV.eta, PostV.eta, WorkerV.eta] at hc19
             refine Y_move ?_
             refine X_indexAddr rfl rfl rfl rfl F.elem43 (by rfl) (by (simp; done)) (by exact SlM.plain (by assumption) (by (simp; done))) rfl ?_
             refine X_fieldAddr_el rfl rfl rfl (by exact SlM.plain (by assumption) (by (simp; done))) F.foff51_1 rfl ?_
             refine X_fieldAddr_el rfl rfl rfl (by exact SlM.plain (by assumption) (by (simp; done))) F.foff39_4 rfl ?_
             refine X_load_el rfl rfl rfl (by assumption) (by exact rfl) F.lay34 rfl rfl rfl ?_
             refine X_build rfl rfl F.bld34 (.cons rfl (by constructor) (.cons rfl (by constructor) .nil)) rfl rfl ?_
             refine X_same (m := 20) rfl rfl rfl rfl rfl (by constructor) (by constructor) F.lay34 F.kinds34 rfl F.guard34 (by exact FitAnswerV (⟨_, _, _, _⟩)) (by exact FitAnswerV (⟨_, _, _, _⟩)) rfl rfl rfl ?_; intro c20 he21
             replace he21 : c20 = true ↔ Segs.cells _ = Segs.cells _ := he21
             obtain rfl := eqD he21 (AnswerV.inj (x := ⟨_, _, _, _⟩) (y := ⟨_, _, _, _⟩)); clear he21
             refine Y_pick ?_
             refine Y_move ?_
             refine XD_part 126 rfl (fun hc22 => ?_) (fun hc22 => ?_)
             ·replace hc22 := dT hc22
              simp only [AnswerV.eta, MarkV.eta, CellV.eta, HeldV.eta, WaitV.eta, ServerV.eta, PeerV.eta, OpV.eta, ParcelV.eta, PostV.eta, WorkerV.eta] at hc22
              refine Y_fieldAddr F.foff26_3 ?_
              refine Y_load F.lay24 ?_
              refine Y_len_sl F.elem24 ?_
              refine Y_cmp ?_
              refine Y_pick ?_
              refine Y_move ?_
              refine XD_part 132 rfl (fun hc23 => ?_) (fun hc23 => ?_)
              ·replace hc23 := dT hc23
               refine Y_move ?_
               refine Y_pick ?_
               refine Y_move ?_
               refine XD_part 135 rfl (fun hc24 => ?_) (fun hc24 => ?_)
               ·skip
                simp only [AnswerV.eta, MarkV.eta, CellV.eta, HeldV.eta, WaitV.eta, ServerV.eta, PeerV.eta, OpV.eta, ParcelV.eta, PostV.eta, WorkerV.eta] at hc24
                refine Y_fieldAddr F.foff37_2 ?_
                refine Y_load F.lay9 ?_
                refine Y_str ?_
                refine Y_pick ?_
                refine Y_move ?_
                refine XD_part 140 rfl (fun hc25 => ?_) (fun hc25 => ?_)
                ·replace hc25 := dT hc25
                 simp only [AnswerV.eta, MarkV.eta, CellV.eta, HeldV.eta, WaitV.eta, ServerV.eta, PeerV.eta, OpV.eta, ParcelV.eta, PostV.eta, WorkerV.eta] at hc25
                 refine Y_load F.lay26 ?_
                 refine X_fs rfl rfl F.ok14 rfl (SIs_ok _ ⟨c_addr, c_epoch, ⟨c_sa, c_sc, c_sl⟩, ⟨c_wa, c_wc, c_wl⟩, c_serial⟩ ok_c) rfl ?_
                 rintro _ hv
                 rw [hc, decide_eq_true se5] at hv
                 subst hv
                 refine Y_pick ?_
                 refine Y_assign ?_
                 refine XD_end ?_
                 refine K_then ?_
                 refine Y_pk [0] ?_
                 refine C_ret ?_
                 refine K_end (.inr rfl) (.tmp rfl .nil) (fun w hw => ?_)
                 refine ⟨_, _, rfl, hm1.trans (hm2.trans (hm3.trans hm4)), hw.c, ?_⟩
                 clear hw
                 rfl
                ·replace hc25 := dF hc25
                 simp only [AnswerV.eta, MarkV.eta, CellV.eta, HeldV.eta, WaitV.eta, ServerV.eta, PeerV.eta, OpV.eta, ParcelV.eta, PostV.eta, WorkerV.eta] at hc25
                 (exfalso; simp [eqX] at hc25; done)
               ·skip
                simp only [AnswerV.eta, MarkV.eta, CellV.eta, HeldV.eta, WaitV.eta, ServerV.eta, PeerV.eta, OpV.eta, ParcelV.eta, PostV.eta, WorkerV.eta] at hc24
                (exfalso; simp [eqX] at hc24; done)
              ·replace hc23 := dF hc23
               (exfalso; omega)
             ·replace hc22 := dF hc22
              simp only [AnswerV.eta, MarkV.eta, CellV.eta, HeldV.eta, WaitV.eta, ServerV.eta, PeerV.eta, OpV.eta, ParcelV.eta, PostV.eta, WorkerV.eta] at hc22
              (exfalso; simp [eqX] at hc22; done)
            ·replace hc19 := dF hc19
             simp only [AnswerV.eta, MarkV.eta, CellV.eta, HeldV.eta, WaitV.eta, ServerV.eta, PeerV.eta, OpV.eta, ParcelV.eta, PostV.eta, WorkerV.eta] at hc19
             (exfalso; simp [eqX] at hc19; done)
           ·replace hc18 := dF hc18
            (exfalso; omega)
          ·replace hc17 := dF hc17
           simp only [AnswerV.eta, MarkV.eta, CellV.eta, HeldV.eta, WaitV.eta, ServerV.eta, PeerV.eta, OpV.eta, ParcelV.eta, PostV.eta, WorkerV.eta] at hc17
           (exfalso; simp [eqX] at hc17; done)

end Go.Proofs.YtpkeilhilpogiaaGreat
/-
  What a server takes, for the laws.
-/
set_option linter.unusedSimpArgs false
set_option linter.unusedVariables false
set_option linter.unnecessarySimpa false
namespace Go.Esp
theorem waitR_len {l : List Wt} {w : Wt} : (waitR l w).length = l.length + 1 := by
  unfold waitR
  rw [List.length_append, List.length_cons]
  have h := congrArg List.length (List.takeWhile_append_dropWhile (p := fun x : Wt => decide (LessP x.key w.key)) (l := l))
  rw [List.length_append] at h
  omega
theorem req_len {s : Srv} {l : List PeerV} {r : Int} {p : Prc} : (requestR s l r p).1.waits.length ≤ s.waits.length + 1 := by
  rcases req_cases s l r p with ⟨_, e⟩ | ⟨w, _, _, e⟩ | ⟨_, _, _, e⟩ | ⟨_, _, _, _, e⟩ | ⟨_, _, _, _, _, e⟩ | ⟨W, v, to, _, _, _, _, _, _, _, _, hW, e⟩
  · rw [e]; exact Nat.le_succ _
  · rw [e]; exact Nat.le_succ _
  · rw [e]; exact Nat.le_succ _
  · rw [e]; exact Nat.le_succ _
  · rw [e]; exact Nat.le_succ _
  · rw [e, hW]; exact Nat.le_of_eq waitR_len
theorem copy_len {s : Srv} {f : Int} {p : Prc} : (copyR s f p).1.waits = s.waits := by
  unfold copyR
  simp only
  split <;> rfl
theorem take_len {s : Srv} {l : List PeerV} {r f : Int} {p : Prc} (h : TakeOk s l r p) : (srvR s l r f p).1.waits.length ≤ s.waits.length + 1 := by
  by_cases he : p.epoch = s.epoch
  · by_cases h1 : p.kind = 1
    · rw [srvR_req h he h1]; exact req_len
    · by_cases h3 : p.kind = 3
      · rw [srvR_copy h he h3]
        show (copyR s f p).1.waits.length ≤ _
        rw [copy_len]; exact Nat.le_succ _
      · by_cases h4 : p.kind = 4
        · rw [srvR_copied h he h4]
          exact Nat.le_succ_of_le (List.length_filterMap_le ..)
        · rw [srvR_else h he h1 h3 h4]; exact Nat.le_succ _
  · rw [srvR_ep h he]; exact Nat.le_succ _
/-- What Take gives: refused, or what stays right. -/
theorem take_or {s : Srv} {l : List PeerV} {r f : Int} {p : Prc} {R1 : Srv} {R2 : List Pst} {R3 : Int} (hR : srvR s l r f p = (R1, R2, R3)) :
    (R3 = 0 ∧ TakeOk s l r p ∧ IsSrv R1 ∧ R1.addr = s.addr ∧ R1.epoch = s.epoch ∧ (∀ x ∈ R2, Sent s.epoch x) ∧ (p.epoch ≠ s.epoch → R1 = s ∧ R2 = []) ∧ R1.waits.length ≤ s.waits.length + 1) ∨ (R3 = 1 ∧ R1 = Srv.zero ∧ R2 = []) := by
  by_cases hA : TakeOk s l r p
  · have h1 := stay_take (f := f) hA
    have h2 := take_len (f := f) hA
    rw [hR] at h1 h2
    exact .inl ⟨h1.1, hA, h1.2.1, h1.2.2.1, h1.2.2.2.1, h1.2.2.2.2.1, fun e => ⟨congrArg Prod.fst (h1.2.2.2.2.2 e), congrArg (fun x : Srv × List Pst × Int => x.2.1) (h1.2.2.2.2.2 e)⟩, h2⟩
  · have h1 := srvR_no (f := f) hA
    rw [hR] at h1
    cases h1
    exact .inr ⟨rfl, rfl, rfl⟩
end Go.Esp
/-
  The law of staying.
-/
set_option linter.unusedSimpArgs false
set_option linter.unusedVariables false
set_option linter.unnecessarySimpa false
set_option maxRecDepth 8000
set_option maxHeartbeats 1000000
namespace Go.Proofs.YtpkeilhilpogiaaGreat
open Go.Esp
theorem F.ok13 : okFn Tryz.prog 13 = true := by kernel_rfl
theorem F.ok8 : okFn Tryz.prog 8 = true := by kernel_rfl
theorem F.ok9 : okFn Tryz.prog 9 = true := by kernel_rfl

end Go.Proofs.YtpkeilhilpogiaaGreat
/-
  The law of once.
-/
set_option linter.unusedSimpArgs false
set_option linter.unusedVariables false
set_option linter.unnecessarySimpa false
set_option maxRecDepth 8000
set_option maxHeartbeats 1000000
namespace Go.Proofs.YtpkeilhilpogiaaGreat
open Go.Esp
end Go.Proofs.YtpkeilhilpogiaaGreat
/-
  The law of waiting.
-/
set_option linter.unusedSimpArgs false
set_option linter.unusedVariables false
set_option linter.unnecessarySimpa false
set_option maxRecDepth 8000
set_option maxHeartbeats 1000000
namespace Go.Proofs.YtpkeilhilpogiaaGreat
open Go.Esp


end Go.Proofs.YtpkeilhilpogiaaGreat
/-
  One that changed a cell is answered when all that it waited for have told.
-/
set_option linter.unusedSimpArgs false
set_option linter.unusedVariables false
set_option linter.unnecessarySimpa false
namespace Go.Esp
/-- A request that sends copies, and none that waits has its serial: it waits itself. -/
theorem ans_start {s : Srv} {l : List PeerV} {r f : Int} {p : Prc} {R1 : Srv} {R2 : List Pst} (hR : srvR s l r f p = (R1, R2, 0)) (hA : TakeOk s l r p) (hk : p.kind = 1) {x : Pst} {t : List Pst} (h2 : R2 = x :: t) (h3 : x.parcel.kind = 3)
    (hn : ∀ w ∈ s.waits, w.serial ≠ x.parcel.serial) :
    ∃ w : Wt, R1.waits = waitR s.waits w ∧ w.serial = x.parcel.serial ∧ w.client = p.op.client ∧ w.req = p.op.req ∧ w.need = R2.map (fun q => q.to) ∧ NeedOk w.need ∧ p.epoch = s.epoch ∧ (∃ c, findS R1.store p.key = some c ∧ IsCel c) := by
  by_cases he : p.epoch = s.epoch
  · have hS := stay_take (f := f) hA
    rw [hR] at hS
    rw [srvR_req hA he hk] at hR
    have e1 : (requestR s l r p).1 = R1 := congrArg Prod.fst hR
    have e2 : (requestR s l r p).2 = R2 := congrArg (fun x : Srv × List Pst × Int => x.2.1) hR
    have hop := prc_op hA.2.2.2 hk
    have hd := doC_ok (findP_ok hA.1.2.2.2 p.key) hop
    have hp := putR_ok hA.1.2.2 (k := p.key) hd.1
    have one : ∀ (a : AnswerV), R2 = [replyR s p.op.client p.op.req a] → False := fun a e => by
      rw [e] at h2
      cases h2
      exact absurd h3 (by show ¬ (2 : Int) = 3; decide)
    rcases req_cases s l r p with ⟨_, e⟩ | ⟨w, h, hf, e⟩ | ⟨_, _, _, e⟩ | ⟨_, _, _, _, e⟩ | ⟨_, _, _, _, _, e⟩ | ⟨W, v, to, h, hf, _, hq, hrose, hto, hne, hv, hW, e⟩
    · rw [e] at e2; exact (one _ e2.symm).elim
    · rw [e] at e2
      have hw := List.mem_of_find?_eq_some hf
      have : x ∈ copiesP s p.key w.serial w.need := by rw [show copiesP s p.key w.serial w.need = R2 from e2, h2]; exact .head _
      obtain ⟨t0, _, hx⟩ := List.mem_map.1 this
      exact (hn w hw (by rw [← hx])).elim
    · rw [e] at e2; exact (one _ e2.symm).elim
    · rw [e] at e2
      rw [← e2] at h2; cases h2
    · rw [e] at e2; exact (one _ e2.symm).elim
    · rw [e] at e1 e2
      refine ⟨⟨p.key, p.op.client, p.op.req, (doC (findP s.store p.key).1 p.op).2.1, v, to⟩, ?_, ?_, rfl, rfl, ?_, ?_, he, ?_⟩
      · rw [← e1]; exact hW
      · have : x ∈ copiesP (⟨s.addr, s.epoch, (putR s.store p.key (doC (findP s.store p.key).1 p.op).1).1, W, v⟩ : Srv) p.key v to := by rw [show copiesP (⟨s.addr, s.epoch, (putR s.store p.key (doC (findP s.store p.key).1 p.op).1).1, W, v⟩ : Srv) p.key v to = R2 from e2, h2]; exact .head _
        obtain ⟨t0, _, hx⟩ := List.mem_map.1 this
        rw [← hx]
      · rw [← e2]
        unfold copiesP
        rw [List.map_map]
        refine Eq.trans (List.map_id to).symm ?_
        exact List.map_congr_left (fun t _ => rfl)
      · show NeedOk to
        rw [← hto]; exact (others_ok hA.2.2.1 p.key).1
      · rcases hp with ⟨_, hp1, hp2⟩ | hp
        · refine ⟨_, ?_, hd.1⟩
          rw [← e1]
          show findS (putR s.store p.key _).1 p.key = _
          rw [hp1]
          exact findS_withk hA.1.2.2.2
        · rw [hq] at hp; cases hp
  · rw [srvR_ep hA he] at hR
    have e2 : [] = R2 := congrArg (fun x : Srv × List Pst × Int => x.2.1) hR
    rw [← e2] at h2; cases h2
/-- Where one that waits stands: q tells who has not told. -/
structure AnsI (a : Srv) (W0 : List Wt) (w : Wt) (to : List Int) (T : List Bool) (left : Nat) : Prop where
  len : T.length = to.length
  need : ∃ q : Int → Bool, (∀ j (h : j < to.length) (h2 : j < T.length), q to[j] = !T[j]) ∧ (to.filter q).length = left ∧ (if left = 0 then a.waits = W0 else a.waits = waitR W0 { w with need := to.filter q })
theorem ans_step {a : Srv} {W0 : List Wt} {w : Wt} {to : List Int} {T : List Bool} {left : Nat} (h : AnsI a W0 w to T left) (hto : to.Pairwise (fun x y => x < y)) (hn : ∀ x ∈ W0, x.serial ≠ w.serial) {i : Nat} (hi : i < to.length) (hiT : i < T.length) :
    (copiedR a to[i] w.serial).1.store = a.store ∧
    (T[i] = true → AnsI (copiedR a to[i] w.serial).1 W0 w to T left ∧ (copiedR a to[i] w.serial).2 = []) ∧
    (T[i] = false → 0 < left ∧ AnsI (copiedR a to[i] w.serial).1 W0 w to (T.set i true) (left - 1) ∧ (left = 1 → (copiedR a to[i] w.serial).2 = [replyR a w.client w.req w.answer]) ∧ (left ≠ 1 → (copiedR a to[i] w.serial).2 = [])) := by
  refine ⟨rfl, ?_⟩
  obtain ⟨hlen, q, hq, hl, hw⟩ := h
  have hnd : to.Nodup := hto.imp (fun h => by omega)
  have hless : ∀ w' : Wt, w'.need = to.filter q → lessN w' to[i] = to.filter (fun t => q t && notI to[i] t) := fun w' e => by
    unfold lessN
    rw [e, List.filter_filter]
    congr 1
    funext t
    exact Bool.and_comm _ _
  by_cases h0 : left = 0
  · rw [if_pos h0] at hw
    have hno : ∀ x ∈ a.waits, x.serial ≠ w.serial := by rw [hw]; exact hn
    have e := told_done hno to[i]
    rw [e]
    refine ⟨fun hT => ⟨⟨hlen, q, hq, hl, by rw [if_pos h0]; exact hw⟩, rfl⟩, fun hT => ?_⟩
    exfalso
    have h1 := hq i hi hiT
    rw [hT] at h1
    have h2 : to[i] ∈ to.filter q := List.mem_filter.2 ⟨List.getElem_mem hi, h1⟩
    rw [List.eq_nil_of_length_eq_zero (hl.trans h0)] at h2
    cases h2
  · rw [if_neg h0] at hw
    have e := told_wait (w := { w with need := to.filter q }) hw hn to[i]
    simp only at e
    have el := hless { w with need := to.filter q } rfl
    cases hT : T[i] with
    | true =>
      refine ⟨fun _ => ?_, fun h => by cases h⟩
      have h1 := hq i hi hiT
      rw [hT] at h1
      have esame : to.filter (fun t => q t && notI to[i] t) = to.filter q := by
        refine List.filter_congr fun t ht => ?_
        by_cases h2 : t = to[i]
        · rw [h2, h1]; rfl
        · rw [notI_t h2, Bool.and_true]
      rw [esame] at el
      have hne : ¬ to.filter q = [] := fun e9 => h0 (by rw [← hl, e9]; rfl)
      rw [el, if_neg hne] at e
      rw [e]
      exact ⟨⟨hlen, q, hq, hl, by rw [if_neg h0]⟩, rfl⟩
    | false =>
      refine ⟨fun h => (by cases h), fun _ => ⟨by omega, ?_⟩⟩
      have h1 := hq i hi hiT
      rw [hT] at h1
      have hmem : to[i] ∈ to.filter q := List.mem_filter.2 ⟨List.getElem_mem hi, h1⟩
      have eer : to.filter (fun t => q t && notI to[i] t) = (to.filter q).erase to[i] := by
        rw [(hnd.sublist List.filter_sublist).erase_eq_filter, List.filter_filter]
        congr 1
        funext t
        rw [Bool.and_comm]
        congr 1
        unfold notI
        by_cases h2 : t = to[i]
        · subst h2; simp
        · have : decide (t ≠ to[i]) = true := decide_eq_true h2
          rw [this]; simpa using h2
      have hl9 : (to.filter (fun t => q t && notI to[i] t)).length = left - 1 := by
        rw [eer, List.length_erase_of_mem hmem, hl]
      have hq9 : ∀ j (h : j < to.length) (h2 : j < (T.set i true).length), (fun t => q t && notI to[i] t) to[j] = !(T.set i true)[j] := fun j hj hj2 => by
        simp only
        rw [List.getElem_set]
        by_cases hij : i = j
        · subst hij
          rw [if_pos rfl, notI_f rfl, Bool.and_false]; rfl
        · rw [if_neg hij, hq j hj (by simpa using hj2)]
          have : to[j] ≠ to[i] := fun e9 => by
            rw [List.Nodup, List.pairwise_iff_getElem] at hnd
            rcases Nat.lt_or_ge i j with h | h
            · exact hnd i j hi hj h e9.symm
            · exact hnd j i hj hi (by omega) e9
          rw [notI_t this, Bool.and_true]
      by_cases h1' : left = 1
      · have enil : to.filter (fun t => q t && notI to[i] t) = [] := List.eq_nil_of_length_eq_zero (by omega)
        rw [el, if_pos enil] at e
        rw [e]
        refine ⟨⟨by simpa using hlen, _, hq9, hl9, ?_⟩, fun _ => rfl, fun h => absurd h1' h⟩
        rw [if_pos (by omega)]
      · have hne : ¬ to.filter (fun t => q t && notI to[i] t) = [] := fun e9 => by rw [e9] at hl9; simp at hl9; omega
        rw [el, if_neg hne] at e
        rw [e]
        refine ⟨⟨by simpa using hlen, _, hq9, hl9, ?_⟩, fun h => absurd h h1', fun _ => rfl⟩
        rw [if_neg (by omega)]
theorem ans_le {a : Srv} {W0 : List Wt} {w : Wt} {to : List Int} {T : List Bool} {left : Nat} (h : AnsI a W0 w to T left) : left ≤ to.length := by
  obtain ⟨q, _, h2, _⟩ := h.need
  rw [← h2]; exact List.length_filter_le ..
theorem ans_init {a : Srv} {W0 : List Wt} {w : Wt} (hw : a.waits = waitR W0 w) (hne : w.need ≠ []) : AnsI a W0 w w.need (List.replicate w.need.length false) w.need.length := by
  refine ⟨by simp, fun _ => true, fun j h h2 => by simp, by simp, ?_⟩
  rw [if_neg (fun e => hne (List.eq_nil_of_length_eq_zero e)), List.filter_eq_self.2 (fun _ _ => rfl)]
  exact hw
theorem pst_cons {l : List PostV} (h : 0 < l.length) : pstl l = PostV.pl l[0] :: pstl (l.drop 1) := by
  cases l with
  | nil => cases h
  | cons x l => rfl
theorem srv_ex {M : Mem} {v : Value} {s : Srv} {l : List PeerV} {r f : Int} {p : Prc} (h : SrvE M v (srvR s l r f p)) : ∃ R1 R2 R3, srvR s l r f p = (R1, R2, R3) ∧ SrvE M v (R1, R2, R3) := ⟨_, _, _, rfl, h⟩
theorem prc_told (e n : Int) : IsPrc ⟨4, e, 0, OpV.zero, AnswerV.zero, n, Cel.zero⟩ := .inr (.inr (.inr ⟨rfl, rfl, rfl, rfl, bare_zero.2 rfl⟩))
theorem need_short {l : List Int} (h : NeedOk l) : l.length ≤ 1000 := by
  have h1 : l.length ≤ ((List.range 1000).map fun n : Nat => (n : Int)).length := nodup_len (h.2.imp (fun h => by omega)) fun x hx => by
    have := h.1 x hx
    exact List.mem_map.2 ⟨x.toNat, List.mem_range.2 (by omega), by omega⟩
  rw [List.length_map, List.length_range] at h1
  exact h1
def oneB (b : Bool) : Segs := [.one (.bool b)]
/-- One of them has told. -/
theorem ans_tell {A : Srv} {l : List PeerV} {r ep n : Int} {to : Int} {K1 : Srv} {K2 : List Pst} (hA : IsSrv A) (hl : IsCircle l) (hr : 1 ≤ r ∧ r ≤ 8) (he : ep = A.epoch) (hK : copiedR A to n = (K1, K2)) :
    srvR A l r to ⟨4, ep, 0, OpV.zero, AnswerV.zero, n, Cel.zero⟩ = (K1, K2, 0) ∧ IsSrv K1 ∧ K1.epoch = ep ∧ K1.waits.length ≤ A.waits.length := by
  have hT : TakeOk A l r ⟨4, ep, 0, OpV.zero, AnswerV.zero, n, Cel.zero⟩ := ⟨hA, hl, hr, prc_told ep n⟩
  have h1 := srvR_copied (f := to) hT he rfl
  have h2 := stay_take (f := to) hT
  simp only at h1
  rw [hK] at h1
  rw [h1] at h2
  refine ⟨h1, h2.2.1, h2.2.2.2.1.trans he.symm, ?_⟩
  have e : K1 = (copiedR A to n).1 := by rw [hK]
  rw [e]
  exact List.length_filterMap_le ..
theorem isst_one {k : Plc} {c : Cel} (h : IsCel c) : IsSt [⟨k, c⟩] := ⟨by show 1 ≤ 2000; decide, (fun x hx => by obtain rfl := List.mem_singleton.1 hx; exact h), List.pairwise_singleton ..⟩
end Go.Esp
/-
  The law of who is answered.
-/
set_option linter.unusedSimpArgs false
set_option linter.unusedVariables false
set_option linter.unnecessarySimpa false
set_option maxRecDepth 8000
set_option maxHeartbeats 1000000
namespace Go.Proofs.YtpkeilhilpogiaaGreat
open Go.Esp
theorem F.elem57 : slOf Tryz.prog 57 = some (4, 1, 1) := by kernel_rfl
theorem F.zero4 : zeroOf Tryz.prog 4 = some ((.bool false)) := by kernel_rfl

theorem rStIsF_ok (M : Mem) (a : Option Addr) (c : Nat) (l : List HeldV) (hs : Hp) (ho : OSl 60 24 (.slice a l.length c) hs (l.map HeldV.segs)) (hok : ∀ y ∈ l, HeldV.ok M y) : Fh Tryz.prog 20 [.slice a l.length c] M hs (fun M' v Hout => Hout = [] ∧ v = .bool (decide (IsSt (pls l)))) := fun H w hw => by
  obtain ⟨M1, h1, h2, h3⟩ := ho.frz hw
  exact (rStIs_ok M1 ⟨a, c, l⟩ h3 (fun y hy => (hok y hy).mono h1) H w h2).mono fun e w2 ⟨v, g1, g2, g3⟩ => ⟨v, M1, [], g1, h1, g2, rfl, g3⟩

theorem lawAnswers_ok (M : Mem) (s : ServerV) (l : (Sl PeerV)) (r : Int) (p : ParcelV) (od : (Sl Int)) (hs0 : ServerV.ok M s) (hl1 : SlK M PeerV.segs 21 l) (hp2 : ParcelV.ok M p) (hod3 : SlK M (oneI .i64) 1 od) : Esp.Fn Tryz.prog 7 [s.enc, Sl.val l, .int .i64 r, p.enc, Sl.val od] M (fun _ v => v = .bool true) := by
  obtain ⟨s_addr, s_epoch, ⟨s_store_a, s_store_c, s_store_l⟩, ⟨s_waits_a, s_waits_c, s_waits_l⟩, s_serial⟩ := s
  obtain ⟨l_a, l_c, l_l⟩ := l
  obtain ⟨p_kind, p_epoch, p_key, ⟨p_op_client, p_op_req, p_op_kind, p_op_version, p_op_val⟩, ⟨p_answer_code, p_answer_version, p_answer_has, p_answer_val⟩, p_serial, ⟨p_cell_version, p_cell_has, p_cell_val, ⟨p_cell_marks_a, p_cell_marks_c, p_cell_marks_l⟩⟩⟩ := p
  obtain ⟨od_a, od_c, od_l⟩ := od
  have k_s_store : SlK M HeldV.segs 24 ⟨s_store_a, s_store_c, s_store_l⟩ := hs0.h0
  have s_s_store : SlM M s_store_a (s_store_l.map HeldV.segs) 24 := k_s_store.h1
  have n_s_store : (s_store_l.map HeldV.segs).length = s_store_l.length := List.length_map ..
  have m_s_store : s_store_l.length ≤ 9223372036854775807 := k_s_store.h2
  have c_s_store : s_store_l.length ≤ s_store_c := k_s_store.h3
  have l_s_store : ∀ y ∈ s_store_l, HeldV.ok M y := hs0.h1
  have k_s_waits : SlK M WaitV.segs 28 ⟨s_waits_a, s_waits_c, s_waits_l⟩ := hs0.h2
  have s_s_waits : SlM M s_waits_a (s_waits_l.map WaitV.segs) 28 := k_s_waits.h1
  have n_s_waits : (s_waits_l.map WaitV.segs).length = s_waits_l.length := List.length_map ..
  have m_s_waits : s_waits_l.length ≤ 9223372036854775807 := k_s_waits.h2
  have c_s_waits : s_waits_l.length ≤ s_waits_c := k_s_waits.h3
  have l_s_waits : ∀ y ∈ s_waits_l, WaitV.ok M y := hs0.h3
  have k_l : SlK M PeerV.segs 21 ⟨l_a, l_c, l_l⟩ := hl1
  have s_l : SlM M l_a (l_l.map PeerV.segs) 21 := k_l.h1
  have n_l : (l_l.map PeerV.segs).length = l_l.length := List.length_map ..
  have m_l : l_l.length ≤ 9223372036854775807 := k_l.h2
  have c_l : l_l.length ≤ l_c := k_l.h3
  have k_p_cell : CellV.ok M ⟨p_cell_version, p_cell_has, p_cell_val, ⟨p_cell_marks_a, p_cell_marks_c, p_cell_marks_l⟩⟩ := hp2.h0
  have k_p_cell_marks : SlK M MarkV.segs 6 ⟨p_cell_marks_a, p_cell_marks_c, p_cell_marks_l⟩ := hp2.h0.h0
  have s_p_cell_marks : SlM M p_cell_marks_a (p_cell_marks_l.map MarkV.segs) 6 := k_p_cell_marks.h1
  have n_p_cell_marks : (p_cell_marks_l.map MarkV.segs).length = p_cell_marks_l.length := List.length_map ..
  have m_p_cell_marks : p_cell_marks_l.length ≤ 9223372036854775807 := k_p_cell_marks.h2
  have c_p_cell_marks : p_cell_marks_l.length ≤ p_cell_marks_c := k_p_cell_marks.h3
  have k_od : SlK M (oneI .i64) 1 ⟨od_a, od_c, od_l⟩ := hod3
  have s_od : SlM M od_a (od_l.map (oneI .i64)) 1 := k_od.h1
  have n_od : (od_l.map (oneI .i64)).length = od_l.length := List.length_map ..
  have m_od : od_l.length ≤ 9223372036854775807 := k_od.h2
  have c_od : od_l.length ≤ od_c := k_od.h3
  refine fn_enter Tryz.func7 rfl Tryz.ntmps7 rfl ?_; intro H
  refine C_seq ?_
  refine C_region (l := [0, 1, 2]) rfl ?_
  refine Y_box ?_; intro b1
  refine Y_box ?_; intro b2
  refine Y_assign ?_
  refine XD_end ?_
  refine K_then ?_
  refine Y_pk [10, 8, 5, 1, 2, 4] ?_
  iterate 2 refine C_seq ?_
  refine C_region (l := [0, 1, 2, 3, 4, 5, 6, 7, 8, 9, 10, 11, 12, 13, 14, 15]) rfl ?_
  refine Y_load F.lay26 ?_
  refine X_fs rfl rfl F.ok8 rfl (BigV_ok _ ⟨s_addr, s_epoch, ⟨s_store_a, s_store_c, s_store_l⟩, ⟨s_waits_a, s_waits_c, s_waits_l⟩, s_serial⟩ hs0) rfl ?_
  rintro _ ⟨bb, rfl, hbb⟩
  refine Y_move ?_
  refine XD_part 26 rfl (fun hc3 => ?_) (fun hc3 => ?_)
  ·skip
   iterate 3 refine Y_skip ?_
   refine Y_pick ?_
   refine Y_move ?_
   iterate 2 refine Y_skip ?_
   refine Y_pick ?_
   refine Y_move ?_
   iterate 3 refine Y_skip ?_
   refine Y_pick ?_
   refine XD_end ?_
   refine K_then ?_
   refine Y_pk [39, 10, 8, 5, 1, 2, 4] ?_
   refine C_true rfl ?_
   refine C_seq ?_
   refine C_region (l := [0]) rfl ?_
   refine Y_assign ?_
   refine XD_end ?_
   refine K_then ?_
   refine Y_pk [10, 8, 5, 1, 2, 4] ?_
   refine C_ret ?_
   refine K_ret ?_
   refine K_end (.inr rfl) (.tmp rfl .nil) (fun w hw => ?_)
   refine ⟨_, _, rfl, (by exact Mem.le.refl _), (hw.c), ?_⟩
   clear hw
   rfl
  ·skip
   refine Y_move ?_
   refine Y_len_sl F.elem27 ?_
   refine Y_cmp ?_
   refine Y_pick ?_
   refine Y_move ?_
   refine XD_part 31 rfl (fun hc4 => ?_) (fun hc4 => ?_)
   ·replace hc4 := dT hc4
    iterate 2 refine Y_skip ?_
    refine Y_pick ?_
    refine Y_move ?_
    iterate 3 refine Y_skip ?_
    refine Y_pick ?_
    refine XD_end ?_
    refine K_then ?_
    refine Y_pk [39, 10, 8, 5, 1, 2, 4] ?_
    refine C_true rfl ?_
    refine C_seq ?_
    refine C_region (l := [0]) rfl ?_
    refine Y_assign ?_
    refine XD_end ?_
    refine K_then ?_
    refine Y_pk [10, 8, 5, 1, 2, 4] ?_
    refine C_ret ?_
    refine K_ret ?_
    refine K_end (.inr rfl) (.tmp rfl .nil) (fun w hw => ?_)
    refine ⟨_, _, rfl, (by exact Mem.le.refl _), (hw.c), ?_⟩
    clear hw
    rfl
   ·replace hc4 := dF hc4
    refine Y_load F.lay39 ?_
    refine X_fs rfl rfl F.ok9 rfl (BigP_ok _ ⟨p_kind, p_epoch, p_key, ⟨p_op_client, p_op_req, p_op_kind, p_op_version, p_op_val⟩, ⟨p_answer_code, p_answer_version, p_answer_has, p_answer_val⟩, p_serial, ⟨p_cell_version, p_cell_has, p_cell_val, ⟨p_cell_marks_a, p_cell_marks_c, p_cell_marks_l⟩⟩⟩ hp2) rfl ?_
    rintro _ ⟨bp, rfl, -⟩
    refine Y_pick ?_
    refine Y_move ?_
    refine XD_part 35 rfl (fun hc5 => ?_) (fun hc5 => ?_)
    ·skip
     iterate 3 refine Y_skip ?_
     refine Y_pick ?_
     refine XD_end ?_
     refine K_then ?_
     refine Y_pk [39, 10, 8, 5, 1, 2, 4] ?_
     refine C_true rfl ?_
     refine C_seq ?_
     refine C_region (l := [0]) rfl ?_
     refine Y_assign ?_
     refine XD_end ?_
     refine K_then ?_
     refine Y_pk [10, 8, 5, 1, 2, 4] ?_
     refine C_ret ?_
     refine K_ret ?_
     refine K_end (.inr rfl) (.tmp rfl .nil) (fun w hw => ?_)
     refine ⟨_, _, rfl, (by exact Mem.le.refl _), (hw.c), ?_⟩
     clear hw
     rfl
    ·skip
     refine Y_move ?_
     refine Y_len_sl F.elem52 ?_
     refine Y_cmp ?_
     refine Y_pick ?_
     refine XD_end ?_
     refine K_then ?_
     refine Y_pk [39, 10, 8, 5, 1, 2, 4] ?_
     refine C_cond rfl (fun hc6 => ?_) (fun hc6 => ?_)
     ·replace hc6 := dT hc6
      refine C_seq ?_
      refine C_region (l := [0]) rfl ?_
      refine Y_assign ?_
      refine XD_end ?_
      refine K_then ?_
      refine Y_pk [10, 8, 5, 1, 2, 4] ?_
      refine C_ret ?_
      refine K_ret ?_
      refine K_end (.inr rfl) (.tmp rfl .nil) (fun w hw => ?_)
      refine ⟨_, _, rfl, (by exact Mem.le.refl _), (hw.c), ?_⟩
      clear hw
      rfl
     ·replace hc6 := dF hc6
      refine C_skip ?_
      refine K_then ?_
      refine Y_pk [10, 8, 5, 1, 2, 4] ?_
      refine C_seq ?_
      obtain ⟨hb1, hb2, hb3⟩ := hbb (by assumption)
      try simp only at hb1 hb2 hb3
      refine C_region (l := [0, 1, 2, 3, 4, 5, 6, 7, 8, 9, 10, 11, 12, 13, 14, 15, 16]) rfl ?_
      refine Y_load F.lay26 ?_
      iterate 2 refine Y_move ?_
      refine Y_fieldAddr F.foff39_3 ?_
      refine Y_fieldAddr F.foff31_0 ?_
      refine Y_load F.lay3 ?_
      refine X_ari rfl rfl rfl rfl rfl (by exact rfl) rfl ?_
      refine Y_load F.lay39 ?_
      refine X_fn rfl rfl F.ok11 rfl (Take_ok _ ⟨s_addr, s_epoch, ⟨s_store_a, s_store_c, s_store_l⟩, ⟨s_waits_a, s_waits_c, s_waits_l⟩, s_serial⟩ ⟨l_a, l_c, l_l⟩ r _ ⟨p_kind, p_epoch, p_key, ⟨p_op_client, p_op_req, p_op_kind, p_op_version, p_op_val⟩, ⟨p_answer_code, p_answer_version, p_answer_has, p_answer_val⟩, p_serial, ⟨p_cell_version, p_cell_has, p_cell_val, ⟨p_cell_marks_a, p_cell_marks_c, p_cell_marks_l⟩⟩⟩ hs0 k_l hp2 (by show s_waits_l.length ≤ 1000; omega)) rfl ?_
      rintro _ M1 hm1 hv
      obtain ⟨R1, R2, R3, hR, hv⟩ := srv_ex hv
      replace hR : srvR (ServerV.pl ⟨s_addr, s_epoch, ⟨s_store_a, s_store_c, s_store_l⟩, ⟨s_waits_a, s_waits_c, s_waits_l⟩, s_serial⟩) l_l r _ (ParcelV.pl ⟨p_kind, p_epoch, p_key, ⟨p_op_client, p_op_req, p_op_kind, p_op_version, p_op_val⟩, ⟨p_answer_code, p_answer_version, p_answer_has, p_answer_val⟩, p_serial, ⟨p_cell_version, p_cell_has, p_cell_val, ⟨p_cell_marks_a, p_cell_marks_c, p_cell_marks_l⟩⟩⟩) = (R1, R2, R3) := hR
      obtain ⟨⟨a_addr, a_epoch, ⟨a_sa, a_sc, a_sl⟩, ⟨a_wa, a_wc, a_wl⟩, a_serial⟩, ⟨x_a, x_c, x_l⟩, rfl, ha, hx, ok_a, k_x, l_x⟩ := hv
      simp only at ha hx l_x
      have htk := take_or hR
      have s_x := k_x.h1
      simp only at s_x
      have m_x : x_l.length ≤ 9223372036854775807 := k_x.h2
      have n_x : (x_l.map PostV.segs).length = x_l.length := List.length_map ..
      refine Y_move ?_
      iterate 3 refine Y_extract ?_
      refine Y_alloc F.zero26 ?_; intro b7
      refine Y_store F.lay26 ?_
      iterate 2 refine Y_assign ?_
      refine XD_end ?_
      refine K_then ?_
      refine Y_pk [13, 12, 11, 10, 8, 5, 1, 2, 4] ?_
      iterate 2 refine C_seq ?_
      refine C_region (l := [0, 1, 2, 3, 4, 5, 6, 7, 8, 9, 10, 11, 12, 13, 14, 15, 16, 17, 18, 19]) rfl ?_
      refine Y_move ?_
      refine Y_cmp ?_
      refine Y_move ?_
      refine XD_part 55 rfl (fun hc8 => ?_) (fun hc8 => ?_)
      ·replace hc8 := nT hc8
       simp only [AnswerV.eta, MarkV.eta, CellV.eta, HeldV.eta, WaitV.eta, ServerV.eta, PeerV.eta, OpV.eta, ParcelV.eta, PostV.eta, WorkerV.eta] at hc8
       iterate 3 refine Y_skip ?_
       refine Y_pick ?_
       refine Y_move ?_
       iterate 3 refine Y_skip ?_
       refine Y_pick ?_
       refine Y_move ?_
       iterate 6 refine Y_skip ?_
       refine Y_pick ?_
       refine XD_end ?_
       refine K_then ?_
       refine Y_pk [72, 12, 11, 10, 8, 5, 1, 2, 4] ?_
       refine C_true rfl ?_
       refine C_seq ?_
       refine C_region (l := [0, 1]) rfl ?_
       refine X_fn rfl rfl F.ok13 rfl (served_ok _) rfl ?_
       rintro _ M99 hm99 rfl
       refine Y_assign ?_
       refine XD_end ?_
       refine K_then ?_
       refine Y_pk [10, 12, 11, 8, 5, 1, 2, 4] ?_
       refine C_ret ?_
       refine K_ret ?_
       refine K_end (.inr rfl) (.tmp rfl .nil) (fun w hw => ?_)
       refine ⟨_, _, rfl, (by exact Mem.le.trans (by assumption) (by assumption)), (hw.c), ?_⟩
       clear hw
       rfl
      ·replace hc8 := nF hc8
       simp only [AnswerV.eta, MarkV.eta, CellV.eta, HeldV.eta, WaitV.eta, ServerV.eta, PeerV.eta, OpV.eta, ParcelV.eta, PostV.eta, WorkerV.eta] at hc8
       refine Y_fieldAddr F.foff39_0 ?_
       refine Y_load F.lay3 ?_
       refine Y_cmp ?_
       refine Y_pick ?_
       refine Y_move ?_
       refine XD_part 60 rfl (fun hc9 => ?_) (fun hc9 => ?_)
       ·replace hc9 := nT hc9
        iterate 3 refine Y_skip ?_
        refine Y_pick ?_
        refine Y_move ?_
        iterate 6 refine Y_skip ?_
        refine Y_pick ?_
        refine XD_end ?_
        refine K_then ?_
        refine Y_pk [72, 12, 11, 10, 8, 5, 1, 2, 4] ?_
        refine C_true rfl ?_
        refine C_seq ?_
        refine C_region (l := [0, 1]) rfl ?_
        refine X_fn rfl rfl F.ok13 rfl (served_ok _) rfl ?_
        rintro _ M99 hm99 rfl
        refine Y_assign ?_
        refine XD_end ?_
        refine K_then ?_
        refine Y_pk [10, 12, 11, 8, 5, 1, 2, 4] ?_
        refine C_ret ?_
        refine K_ret ?_
        refine K_end (.inr rfl) (.tmp rfl .nil) (fun w hw => ?_)
        refine ⟨_, _, rfl, (by exact Mem.le.trans (by assumption) (by assumption)), (hw.c), ?_⟩
        clear hw
        rfl
       ·replace hc9 := nF hc9
        refine Y_move ?_
        refine Y_len_sl F.elem43 ?_
        refine Y_cmp ?_
        refine Y_pick ?_
        refine Y_move ?_
        refine XD_part 65 rfl (fun hc10 => ?_) (fun hc10 => ?_)
        ·replace hc10 := dT hc10
         iterate 6 refine Y_skip ?_
         refine Y_pick ?_
         refine XD_end ?_
         refine K_then ?_
         refine Y_pk [72, 12, 11, 10, 8, 5, 1, 2, 4] ?_
         refine C_true rfl ?_
         refine C_seq ?_
         refine C_region (l := [0, 1]) rfl ?_
         refine X_fn rfl rfl F.ok13 rfl (served_ok _) rfl ?_
         rintro _ M99 hm99 rfl
         refine Y_assign ?_
         refine XD_end ?_
         refine K_then ?_
         refine Y_pk [10, 12, 11, 8, 5, 1, 2, 4] ?_
         refine C_ret ?_
         refine K_ret ?_
         refine K_end (.inr rfl) (.tmp rfl .nil) (fun w hw => ?_)
         refine ⟨_, _, rfl, (by exact Mem.le.trans (by assumption) (by assumption)), (hw.c), ?_⟩
         clear hw
         rfl
        ·replace hc10 := dF hc10
         refine Y_move ?_
         refine X_indexAddr rfl rfl rfl rfl F.elem43 (by rfl) (by (simp; omega)) (by exact SlM.plain (by assumption) (by (simp; omega))) rfl ?_
         refine X_fieldAddr_el rfl rfl rfl (by exact SlM.plain (by assumption) (by (simp; omega))) F.foff51_1 rfl ?_
         refine X_fieldAddr_el rfl rfl rfl (by exact SlM.plain (by assumption) (by (simp; omega))) F.foff39_0 rfl ?_
         refine X_load_el rfl rfl rfl (by assumption) (by exact row_map (by (simp; omega))) F.lay3 rfl rfl rfl ?_
         refine Y_cmp ?_
         refine Y_pick ?_
         refine XD_end ?_
         refine K_then ?_
         refine Y_pk [72, 12, 11, 10, 8, 5, 1, 2, 4] ?_
         refine C_cond rfl (fun hc11 => ?_) (fun hc11 => ?_)
         ·replace hc11 := nT hc11
          simp only [AnswerV.eta, MarkV.eta, CellV.eta, HeldV.eta, WaitV.eta, ServerV.eta, PeerV.eta, OpV.eta, ParcelV.eta, PostV.eta, WorkerV.eta] at hc11
          simp only [List.get_eq_getElem] at hc11
          refine C_seq ?_
          refine C_region (l := [0, 1]) rfl ?_
          refine X_fn rfl rfl F.ok13 rfl (served_ok _) rfl ?_
          rintro _ M99 hm99 rfl
          refine Y_assign ?_
          refine XD_end ?_
          refine K_then ?_
          refine Y_pk [10, 12, 11, 8, 5, 1, 2, 4] ?_
          refine C_ret ?_
          refine K_ret ?_
          refine K_end (.inr rfl) (.tmp rfl .nil) (fun w hw => ?_)
          refine ⟨_, _, rfl, (by exact Mem.le.trans (by assumption) (by assumption)), (hw.c), ?_⟩
          clear hw
          rfl
         ·replace hc11 := nF hc11
          simp only [AnswerV.eta, MarkV.eta, CellV.eta, HeldV.eta, WaitV.eta, ServerV.eta, PeerV.eta, OpV.eta, ParcelV.eta, PostV.eta, WorkerV.eta] at hc11
          simp only [List.get_eq_getElem] at hc11
          refine C_skip ?_
          refine K_then ?_
          refine Y_pk [12, 11, 10, 8, 5, 1, 2, 4] ?_
          refine C_seq ?_
          have h0R : R3 = 0 := by omega
          obtain ⟨_, hA, hSrv, hAdr, hEp, hSent, hSame, hLen⟩ := htk.resolve_right (fun h => by have := h.1; omega)
          have hAwl : a_wl.length ≤ s_waits_l.length + 1 := by have h9 := hLen; rw [← ha] at h9; simp only [ServerV.pl, wtl_len] at h9; exact h9
          subst h0R
          subst hx
          have hx0l : 0 < x_l.length := by omega
          have hk3 : (PostV.pl x_l[0]).parcel.kind = 3 := by show x_l[0].parcel.kind = 3; first | assumption | omega
          have hcl := (prc_op hA.2.2.2 (show p_kind = 1 by omega)).1
          replace hcl : 0 ≤ p_op_client ∧ p_op_client ≤ 63 := hcl
          obtain ⟨sr, hsr⟩ : ∃ n, x_l[0].parcel.serial = n := ⟨_, rfl⟩
          refine C_region (l := [0, 1, 2, 3, 4, 5]) rfl ?_
          refine Y_move ?_
          refine X_indexAddr rfl rfl rfl rfl F.elem43 (by rfl) (by omega) (by exact SlM.plain (by assumption) (by (simp; omega))) rfl ?_
          refine X_fieldAddr_el rfl rfl rfl (by exact SlM.plain (by assumption) (by (simp; omega))) F.foff51_1 rfl ?_
          refine X_fieldAddr_el rfl rfl rfl (by exact SlM.plain (by assumption) (by (simp; omega))) F.foff39_5 rfl ?_
          refine X_load_el rfl rfl rfl (by assumption) (by exact row_map (by omega)) F.lay22 rfl rfl rfl ?_
          refine XD_is 78 rfl (show _ = Value.int .u64 sr from congrArg (Value.int .u64) hsr) ?_
          refine Y_assign ?_
          refine XD_end ?_
          refine K_then ?_
          refine Y_pk [14, 12, 11, 10, 8, 5, 1, 2, 4] ?_
          iterate 2 refine C_seq ?_
          refine C_region (l := [0]) rfl ?_
          refine Y_assign ?_
          refine XD_end ?_
          refine K_then ?_
          refine C_block ?_
          refine Y_pk [15, 14, 12, 11, 10, 8, 5, 1, 2, 4] ?_
          refine C_loopS (.succ .zero) (fun (k : Nat) z => z = [(15, .int .i64 (k : Int))] ∧ k ≤ s_waits_l.length ∧ ∀ j (h2 : j < s_waits_l.length), j < k → ¬ s_waits_l[j].serial = sr) (fun k => s_waits_l.length - k) (0) (⟨rfl, by omega, fun j h2 hj => by omega⟩) ?_
          rintro k _ ⟨rfl, hk, hI⟩
          iterate 2 refine C_seq ?_
          have s_w1 := s_s_waits.mono hm1
          refine C_region (l := [0, 1, 2, 3, 4]) rfl ?_
          refine Y_move ?_
          refine Y_fieldAddr F.foff26_3 ?_
          refine Y_load F.lay24 ?_
          refine Y_len_sl F.elem24 ?_
          refine Y_cmp ?_
          refine XD_end ?_
          refine K_then ?_
          refine C_cond rfl (fun hc12 => ?_) (fun hc12 => ?_)
          ·replace hc12 := dT hc12
           refine C_skip ?_
           refine K_then ?_
           refine C_seq ?_
           refine C_block ?_
           refine C_seq ?_
           refine C_region (l := [0, 1, 2, 3, 4, 5, 6, 7]) rfl ?_
           refine Y_fieldAddr F.foff26_3 ?_
           refine Y_load F.lay24 ?_
           refine Y_move ?_
           refine X_indexAddr rfl rfl rfl rfl F.elem24 (by rfl) (by omega) (by exact SlM.plain (by assumption) (by (simp; omega))) rfl ?_
           refine X_fieldAddr_el rfl rfl rfl (by exact SlM.plain (by assumption) (by (simp; omega))) F.foff54_4 rfl ?_
           refine X_load_el rfl rfl rfl (by assumption) (by exact row_map (by omega)) F.lay22 rfl rfl rfl ?_
           refine Y_move ?_
           refine Y_cmp ?_
           refine XD_end ?_
           refine K_then ?_
           refine C_cond rfl (fun hc13 => ?_) (fun hc13 => ?_)
           ·replace hc13 := dT hc13
            simp only [List.get_eq_getElem] at hc13
            refine C_seq ?_
            refine C_region (l := [0, 1]) rfl ?_
            refine X_fn rfl rfl F.ok13 rfl (served_ok _) rfl ?_
            rintro _ M99 hm99 rfl
            refine Y_assign ?_
            refine XD_end ?_
            refine K_then ?_
            refine C_ret ?_
            refine K_retB ?_
            iterate 2 refine K_ret ?_
            refine K_retB ?_
            refine K_ret ?_
            refine K_end (.inr rfl) (.tmp rfl .nil) (fun w hw => ?_)
            refine ⟨_, _, rfl, (by exact Mem.le.trans (by assumption) (by assumption)), (hw.c), ?_⟩
            clear hw
            rfl
           ·replace hc13 := dF hc13
            simp only [List.get_eq_getElem] at hc13
            refine C_skip ?_
            refine K_out ?_
            refine K_then ?_
            refine C_region (l := [0, 1, 2]) rfl ?_
            refine Y_move ?_
            refine X_ari rfl rfl rfl rfl rfl (by exact wrap_in (by decide) (by omega)) rfl ?_
            refine Y_assign ?_
            refine XD_end ?_
            refine K_roundS (a' := [(15, _)]) (k + 1) (.cons (k := 15) rfl (.cons (k := 14) rfl (.cons (k := 12) rfl (.cons (k := 11) rfl (.cons (k := 10) rfl (.cons (k := 8) rfl (.cons (k := 5) rfl (.cons (k := 1) rfl (.cons (k := 2) rfl (.cons (k := 4) rfl (.nil))))))))))) (fun w hw => by first | exact hw | exact hw.c) ?_ ?_
            ·refine ⟨rfl, by omega, fun j h2 hj => ?_⟩
             rcases Nat.lt_or_ge j k with h9 | h9
             ·exact hI j h2 h9
             ·have hjk : j = k := by omega
              subst hjk
              assumption
            ·omega
          ·replace hc12 := dF hc12
           refine C_exit ?_
           iterate 2 refine K_exit ?_
           refine K_hit ?_
           refine K_then ?_
           refine Y_pk [14, 12, 11, 10, 8, 5, 1, 2, 4] ?_
           refine C_seq ?_
           obtain rfl : k = s_waits_l.length := by omega
           obtain ⟨w9, hw1, hw2, hw3, hw4, hw5, hw6, hw7, c9, hw8, hw9⟩ := ans_start hR hA (show p_kind = 1 by omega) (pst_cons hx0l) hk3 (fun w hw => by
            obtain ⟨y, hy, rfl⟩ := List.mem_map.1 hw
            obtain ⟨j, hj, rfl⟩ := List.getElem_of_mem hy
            show s_waits_l[j].serial ≠ x_l[0].parcel.serial
            rw [hsr]
            exact hI j hj (by omega))
           replace hw2 : w9.serial = sr := hw2.trans hsr
           replace hw3 : w9.client = p_op_client := hw3
           replace hw4 : w9.req = p_op_req := hw4
           replace hw7 : p_epoch = s_epoch := hw7
           replace hw8 : findS R1.store p_key = some c9 := hw8
           have hnl : w9.need.length = x_l.length := by rw [hw5, List.length_map, pstl_len]
           have hna : ∀ j (h : j < x_l.length) (h2 : j < w9.need.length), w9.need[j] = x_l[j].to := fun j h h2 => by
            have e9 : w9.need = x_l.map (fun q => q.to) := by rw [hw5]; unfold pstl; rw [List.map_map]; rfl
            simp only [e9, List.getElem_map]
           have hW0 : ∀ x ∈ wtl s_waits_l, x.serial ≠ w9.serial := fun x hx => by
            obtain ⟨y, hy, rfl⟩ := List.mem_map.1 hx
            obtain ⟨j, hj, rfl⟩ := List.getElem_of_mem hy
            rw [hw2]
            exact hI j hj (by omega)
           have hai := ans_init (a := R1) hw1 (fun e => by rw [e] at hnl; simp at hnl; omega)
           rw [hnl] at hai
           have hxm : x_l.length ≤ 1000 := by rw [← hnl]; exact need_short hw6
           refine C_region (l := [0, 1, 2, 3]) rfl ?_
           refine Y_move ?_
           refine Y_len_sl F.elem43 ?_
           refine X_makeSliceO (k := x_l.length) (zr := oneB false) rfl rfl rfl rfl F.elem57 F.zero4 rfl rfl rfl (by omega) (by omega) rfl ?_; intro bt ht1 hot1
           refine Y_assign ?_
           refine XD_end ?_
           refine K_then ?_
           refine Y_pk [16, 14, 12, 11, 10, 8, 5, 1, 2, 4] ?_
           refine C_seq ?_
           refine C_region (l := [0, 1, 2]) rfl ?_
           refine Y_move ?_
           refine Y_len_sl F.elem43 ?_
           refine Y_assign ?_
           refine XD_end ?_
           refine K_then ?_
           refine Y_pk [17, 16, 14, 12, 11, 10, 8, 5, 1, 2, 4] ?_
           iterate 2 refine C_seq ?_
           refine C_region (l := [0]) rfl ?_
           refine Y_assign ?_
           refine XD_end ?_
           refine K_then ?_
           refine C_block ?_
           refine Y_pk [18, 17, 16, 14, 12, 11, 10, 8, 5, 1, 2, 4] ?_
           refine C_loopO2 (Hin := [(b7, rowO (ServerV.segs ⟨a_addr, a_epoch, ⟨a_sa, a_sc, a_sl⟩, ⟨a_wa, a_wc, a_wl⟩, a_serial⟩) 26)]) (Hin2 := ht1) (.succ (.succ .zero)) (by repeat first | exact Rem.here _ | exact Rem.two | apply Rem.skip | apply Rem.over) (by repeat first | exact Rem.here _ | exact Rem.two | apply Rem.skip | apply Rem.over) (fun (n : Nat) M2 h1 z => ∃ (A : ServerV) (T : List Bool) (lf : Nat) (ht : Hp), z = [(18, .int .i64 (n : Int)), (17, .int .i64 (lf : Int))] ∧ n ≤ od_l.length ∧ h1 = (b7, rowO (ServerV.segs A) 26) :: ht ∧ OSl 4 1 (.slice (some ⟨bt, 0, none⟩) x_l.length x_l.length) ht (T.map oneB) ∧ ServerV.ok M2 A ∧ AnsI A.pl (wtl s_waits_l) w9 w9.need T lf ∧ A.pl.store = R1.store ∧ IsSrv A.pl ∧ A.epoch = s_epoch ∧ A.waits.l.length ≤ 1000) (fun n => od_l.length - n) (0) (⟨⟨a_addr, a_epoch, ⟨a_sa, a_sc, a_sl⟩, ⟨a_wa, a_wc, a_wl⟩, a_serial⟩, _, _, ht1, rfl, by omega, rfl, by rw [List.map_replicate]; exact hot1, ok_a, by rw [ha]; exact hai, by rw [ha], by rw [ha]; exact hSrv, (congrArg Srv.epoch ha).trans hEp, by show a_wl.length ≤ 1000; omega⟩) ?_
           rintro n M2 h1 z hm2 ⟨⟨d_addr, d_epoch, ⟨d_sa, d_sc, d_sl⟩, ⟨d_wa, d_wc, d_wl⟩, d_serial⟩, T, lf, ht, rfl, hn9, rfl, hot, okd, hAI, hst, hsd, hed, hwd⟩
           simp only at hed hwd
           have hTl : T.length = x_l.length := hAI.len.trans hnl
           have hlfb : lf ≤ x_l.length := by rw [← hnl]; exact ans_le hAI
           have hnT : (T.map oneB).length = T.length := List.length_map ..
           have hotm : OSl 4 1 (.slice (some ⟨bt, 0, none⟩) (T.map oneB).length x_l.length) ht (T.map oneB) := by rw [hnT, hTl]; exact hot
           have s_x2 := s_x.mono hm2
           have s_od2 := s_od.mono (hm1.trans hm2)
           iterate 2 refine C_seq ?_
           refine C_region (l := [0, 1, 2, 3]) rfl ?_
           iterate 2 refine Y_move ?_
           refine Y_len_sl F.elem52 ?_
           refine Y_cmp ?_
           refine XD_end ?_
           refine K_then ?_
           refine C_cond rfl (fun hc14 => ?_) (fun hc14 => ?_)
           ·replace hc14 := dT hc14
            refine C_skip ?_
            refine K_then ?_
            refine C_seq ?_
            refine C_block ?_
            iterate 2 refine C_seq ?_
            refine C_region (l := [0, 1, 2, 3, 4, 5, 6, 7, 8, 9, 10, 11, 12, 13]) rfl ?_
            iterate 2 refine Y_move ?_
            refine X_indexAddr rfl rfl rfl rfl F.elem52 (by rfl) (by omega) (by exact SlM.plain (by assumption) (by (simp; omega))) rfl ?_
            refine X_load_el rfl rfl rfl (by assumption) (by exact row_map (by omega)) F.lay3 rfl rfl rfl ?_
            refine Y_cmp ?_
            refine Y_move ?_
            refine XD_part 111 rfl (fun hc15 => ?_) (fun hc15 => ?_)
            ·replace hc15 := dT hc15
             iterate 7 refine Y_skip ?_
             refine Y_pick ?_
             refine XD_end ?_
             refine K_then ?_
             refine C_true rfl ?_
             refine C_exit ?_
             refine K_exit ?_
             refine K_hit ?_
             refine K_then ?_
             refine C_region (l := [0, 1, 2]) rfl ?_
             refine Y_move ?_
             refine X_ari rfl rfl rfl rfl rfl (by exact wrap_in (by decide) (by omega)) rfl ?_
             refine Y_assign ?_
             refine XD_end ?_
             refine K_roundO (a' := [(18, _), (17, _)]) (n + 1) ((b7, rowO (ServerV.segs ⟨d_addr, d_epoch, ⟨d_sa, d_sc, d_sl⟩, ⟨d_wa, d_wc, d_wl⟩, d_serial⟩) 26) :: ht) (.cons (k := 18) rfl (.cons (k := 17) rfl (.cons (k := 16) rfl (.cons (k := 14) rfl (.cons (k := 12) rfl (.cons (k := 11) rfl (.cons (k := 10) rfl (.cons (k := 8) rfl (.cons (k := 5) rfl (.cons (k := 1) rfl (.cons (k := 2) rfl (.cons (k := 4) rfl (.nil))))))))))))) hm2 (fun w hw => by first | exact hw | exact hw.c) ?_ ?_
             ·exact ⟨⟨d_addr, d_epoch, ⟨d_sa, d_sc, d_sl⟩, ⟨d_wa, d_wc, d_wl⟩, d_serial⟩, T, lf, ht, rfl, by omega, rfl, hot, okd, hAI, hst, hsd, hed, hwd⟩
             ·omega
            ·replace hc15 := dF hc15
             iterate 2 refine Y_move ?_
             refine X_indexAddr rfl rfl rfl rfl F.elem52 (by rfl) (by omega) (by exact SlM.plain (by assumption) (by (simp; omega))) rfl ?_
             refine X_load_el rfl rfl rfl (by assumption) (by exact row_map (by omega)) F.lay3 rfl rfl rfl ?_
             refine Y_move ?_
             refine Y_len_sl F.elem43 ?_
             refine Y_cmp ?_
             refine Y_pick ?_
             refine XD_end ?_
             refine K_then ?_
             refine C_cond rfl (fun hc16 => ?_) (fun hc16 => ?_)
             ·replace hc16 := dT hc16
              refine C_exit ?_
              refine K_exit ?_
              refine K_hit ?_
              refine K_then ?_
              refine C_region (l := [0, 1, 2]) rfl ?_
              refine Y_move ?_
              refine X_ari rfl rfl rfl rfl rfl (by exact wrap_in (by decide) (by omega)) rfl ?_
              refine Y_assign ?_
              refine XD_end ?_
              refine K_roundO (a' := [(18, _), (17, _)]) (n + 1) ((b7, rowO (ServerV.segs ⟨d_addr, d_epoch, ⟨d_sa, d_sc, d_sl⟩, ⟨d_wa, d_wc, d_wl⟩, d_serial⟩) 26) :: ht) (.cons (k := 18) rfl (.cons (k := 17) rfl (.cons (k := 16) rfl (.cons (k := 14) rfl (.cons (k := 12) rfl (.cons (k := 11) rfl (.cons (k := 10) rfl (.cons (k := 8) rfl (.cons (k := 5) rfl (.cons (k := 1) rfl (.cons (k := 2) rfl (.cons (k := 4) rfl (.nil))))))))))))) hm2 (fun w hw => by first | exact hw | exact hw.c) ?_ ?_
              ·exact ⟨⟨d_addr, d_epoch, ⟨d_sa, d_sc, d_sl⟩, ⟨d_wa, d_wc, d_wl⟩, d_serial⟩, T, lf, ht, rfl, by omega, rfl, hot, okd, hAI, hst, hsd, hed, hwd⟩
              ·omega
             ·replace hc16 := dF hc16
              refine C_skip ?_
              refine K_then ?_
              refine C_seq ?_
              obtain ⟨i9, hi9⟩ : ∃ i : Nat, od_l[n]'(by omega) = (i : Int) := ⟨(od_l[n]'(by omega)).toNat, (Int.toNat_of_nonneg (by omega)).symm⟩
              have hix : i9 < x_l.length := by omega
              have hiT : i9 < T.length := by omega
              have hin : i9 < w9.need.length := by omega
              refine C_region_any (l := [0, 1, 2, 3, 4, 5, 6, 7, 8, 9, 10, 11, 12, 13, 14, 15, 16, 17, 18, 19, 20, 21, 22, 23]) #[0, 0, 0, 0, 0, 0, 48, 112, 248, 504, 1016, 0, 2048, 0, 14336, 32767, 65535, 131071, 131071, 131071, 0, 1310719, 3670015, 8388607] _ rfl (by kernel_rfl) (by kernel_rfl) St.drawn (fun _ h => h) ?_
              refine Y_load F.lay26 ?_
              iterate 5 refine Y_move ?_
              refine X_indexAddr rfl rfl rfl rfl F.elem52 (by rfl) (by omega) (by exact SlM.plain (by assumption) (by (simp; omega))) rfl ?_
              refine X_load_el rfl rfl rfl (by assumption) (by exact row_map (by omega)) F.lay3 rfl rfl rfl ?_
              rw [hi9]
              refine X_indexAddr rfl rfl rfl rfl F.elem43 (by rfl) (by omega) (by exact SlM.plain (by assumption) (by (simp; omega))) rfl ?_
              refine X_fieldAddr_el rfl rfl rfl (by exact SlM.plain (by assumption) (by (simp; omega))) F.foff51_0 rfl ?_
              refine X_load_el rfl rfl rfl (by assumption) (by exact row_map (by omega)) F.lay3 rfl rfl rfl ?_
              refine Y_fieldAddr F.foff26_1 ?_
              refine Y_load F.lay22 ?_
              refine Y_move ?_
              refine X_build rfl rfl F.bld39 (.cons rfl (by constructor) (.cons rfl (by constructor) (.cons rfl (by constructor) .nil))) rfl rfl ?_
              refine X_fn rfl rfl F.ok11 rfl (Take_ok _ ⟨d_addr, d_epoch, ⟨d_sa, d_sc, d_sl⟩, ⟨d_wa, d_wc, d_wl⟩, d_serial⟩ ⟨l_a, l_c, l_l⟩ r x_l[i9].to ⟨4, s_epoch, 0, OpV.zero, AnswerV.zero, sr, CellV.zero⟩ okd (k_l.mono (hm1.trans hm2)) ⟨CellV.zero_ok _⟩ hwd) rfl ?_
              rintro _ M3 hm3 hv
              replace hv : SrvE _ _ (srvR (ServerV.pl ⟨d_addr, d_epoch, ⟨d_sa, d_sc, d_sl⟩, ⟨d_wa, d_wc, d_wl⟩, d_serial⟩) l_l r x_l[i9].to ⟨4, s_epoch, 0, OpV.zero, AnswerV.zero, sr, Cel.zero⟩) := hv
              have hstep := ans_step hAI hw6.2 hW0 hin hiT
              rw [hna i9 hix hin, hw2] at hstep
              obtain ⟨⟨K1, K2⟩, hK⟩ : ∃ x, copiedR (ServerV.pl ⟨d_addr, d_epoch, ⟨d_sa, d_sc, d_sl⟩, ⟨d_wa, d_wc, d_wl⟩, d_serial⟩) x_l[i9].to sr = x := ⟨_, rfl⟩
              rw [hK] at hstep
              obtain ⟨hs1, hs2, hs3⟩ := hstep
              obtain ⟨ht1e, hse, hee, hwe⟩ := ans_tell (to := x_l[i9].to) hsd hA.2.1 hA.2.2.1 hed.symm hK
              rw [ht1e] at hv
              obtain ⟨⟨e_addr, e_epoch, ⟨e_sa, e_sc, e_sl⟩, ⟨e_wa, e_wc, e_wl⟩, e_serial⟩, ⟨y_a, y_c, y_l⟩, rfl, he, hy, ok_e, k_y, l_y⟩ := hv
              simp only at he hy l_y hs1 hs2 hs3
              have s_y := k_y.h1
              simp only at s_y
              have m_y : y_l.length ≤ 9223372036854775807 := k_y.h2
              have n_y : (y_l.map PostV.segs).length = y_l.length := List.length_map ..
              have hK1 : K1 = K1 := rfl
              replace hst : K1.store = R1.store := hs1.trans hst
              obtain ⟨tb, htb⟩ : ∃ b, T[i9] = b := ⟨_, rfl⟩
              have hyz : (tb = true → y_l.length = 0) ∧ (tb = false → 0 < lf ∧ (lf ≠ 1 → y_l.length = 0)) := ⟨fun h => by rw [← pstl_len, hy, (hs2 (htb.trans h)).2]; rfl, fun h => ⟨(hs3 (htb.trans h)).1, fun h1 => by rw [← pstl_len, hy, (hs3 (htb.trans h)).2.2.2 h1]; rfl⟩⟩
              refine Y_move ?_
              iterate 3 refine Y_extract ?_
              refine Y_alloc F.zero26 ?_; intro b17
              refine Y_store F.lay26 ?_
              iterate 2 refine Y_assign ?_
              refine XD_end ?_
              refine K_then ?_
              iterate 2 refine C_seq ?_
              refine C_region (l := [0, 1]) rfl ?_
              refine Y_move ?_
              refine Y_cmp ?_
              refine XD_end ?_
              refine K_then ?_
              refine C_cond rfl (fun hc18 => ?_) (fun hc18 => ?_)
              ·replace hc18 := nT hc18
               simp only [AnswerV.eta, MarkV.eta, CellV.eta, HeldV.eta, WaitV.eta, ServerV.eta, PeerV.eta, OpV.eta, ParcelV.eta, PostV.eta, WorkerV.eta] at hc18
               (exfalso; first | (simp [eqX] at hc18; done) | exact hc18 hy1 | exact hc18 hy2 | exact hc18 hy3)
              ·replace hc18 := nF hc18
               simp only [AnswerV.eta, MarkV.eta, CellV.eta, HeldV.eta, WaitV.eta, ServerV.eta, PeerV.eta, OpV.eta, ParcelV.eta, PostV.eta, WorkerV.eta] at hc18
               refine C_skip ?_
               refine K_then ?_
               refine C_seq ?_
               refine C_region (l := [0, 1]) rfl ?_
               refine Y_load F.lay26 ?_
               refine Y_store F.lay26 ?_
               refine XD_end ?_
               refine K_then ?_
               iterate 2 refine C_seq ?_
               refine C_region (l := [0, 1, 2, 3, 4, 5, 6, 7]) rfl ?_
               iterate 3 refine Y_move ?_
               refine X_indexAddr rfl rfl rfl rfl F.elem52 (by rfl) (by omega) (by exact SlM.plain (by assumption) (by (simp; omega))) rfl ?_
               refine X_load_el rfl rfl rfl (by exact SlM.mono (by assumption) (by assumption)) (by exact row_map (by omega)) F.lay3 rfl rfl rfl ?_
               rw [hi9]
               refine X_indexAddr rfl rfl rfl rfl F.elem57 (by rfl) (by omega) (by exact ⟨_, _, rfl⟩) rfl ?_
               refine X_load_osl rfl rfl rfl (by assumption) (by repeat first | exact Rem.here _ | exact Rem.two | apply Rem.skip | apply Rem.over) (by exact row_map (by omega)) F.lay4 rfl rfl rfl ?_
               refine XD_is 149 rfl (show _ = Value.bool tb from congrArg Value.bool htb) ?_
               refine Y_not ?_
               refine XD_end ?_
               refine K_then ?_
               refine C_cond rfl (fun hc19 => ?_) (fun hc19 => ?_)
               ·skip
                refine C_seq ?_
                refine C_region (l := [0, 1, 2, 3, 4, 5, 6]) rfl ?_
                iterate 3 refine Y_move ?_
                refine X_indexAddr rfl rfl rfl rfl F.elem52 (by rfl) (by omega) (by exact SlM.plain (by assumption) (by (simp; omega))) rfl ?_
                refine X_load_el rfl rfl rfl (by exact SlM.mono (by assumption) (by assumption)) (by exact row_map (by omega)) F.lay3 rfl rfl rfl ?_
                rw [hi9]
                refine X_indexAddr rfl rfl rfl rfl F.elem57 (by rfl) (by omega) (by exact ⟨_, _, rfl⟩) rfl ?_
                obtain rfl : tb = false := by first | assumption | (simp_all; done)
                obtain ⟨hlf0, hs4, hs5, hs6⟩ := hs3 htb
                refine X_storeO (b := bt) (j := i9) rfl rfl rfl rfl (by constructor) (flat_one rfl flat_nil) F.lay4 rfl rfl hotm (by repeat first | exact Rem.here _ | exact Rem.two | apply Rem.skip | apply Rem.over) (by omega) ?_; intro ht2 hot2
                replace hot2 : OSl 4 1 (.slice (some ⟨bt, 0, none⟩) x_l.length x_l.length) ht2 ((T.set i9 true).map oneB) := by rw [List.map_set]; exact hot2.as (by simp; omega)
                refine XD_end ?_
                refine K_then ?_
                refine C_seq ?_
                refine C_region (l := [0, 1, 2]) rfl ?_
                refine Y_move ?_
                refine X_ari rfl rfl rfl rfl rfl (by exact wrap_in (by decide) (by omega)) rfl ?_
                refine Y_assign ?_
                refine XD_end ?_
                refine K_then ?_
                refine C_seq ?_
                refine C_region_any (l := [0, 1, 2, 3, 4, 5, 6, 7, 8, 9, 10, 11, 12, 13, 14, 15, 16, 17, 18, 19, 20, 21, 22, 23, 24, 25, 26, 27, 28, 29, 30, 31, 32, 33, 34, 35, 36, 37]) #[0, 1, 3, 7, 15, 31, 63, 127, 255, 511, 1023, 2047, 4095, 8191, 16383, 32767, 65535, 131071, 262143, 32767, 557055, 1605631, 3702783, 8388607, 16777215, 33554431, 67108863, 134217727, 268435455, 536870911, 1073741823, 2147483647, 67108863, 4362076159, 12952010751, 34359738367, 68719476735, 137438953471] _ rfl (by kernel_rfl) (by kernel_rfl) St.drawn (fun _ h => h) ?_
                refine Y_move ?_
                refine Y_cmp ?_
                refine Y_move ?_
                refine XD_part 161 rfl (fun hc20 => ?_) (fun hc20 => ?_)
                ·replace hc20 := dT hc20
                 have hlf1 : lf = 1 := by omega
                 have hKr := hs5 hlf1
                 rw [hw3, hw4] at hKr
                 have hyl : y_l.length = 1 := by rw [← pstl_len, hy, hKr]; rfl
                 have hy0 : PostV.pl y_l[0] = replyR (ServerV.pl ⟨d_addr, d_epoch, ⟨d_sa, d_sc, d_sl⟩, ⟨d_wa, d_wc, d_wl⟩, d_serial⟩) p_op_client p_op_req w9.answer := by
                  have h9 := pst_cons (l := y_l) (by omega)
                  rw [hy, hKr] at h9
                  exact (List.cons.inj h9).1.symm
                 have hy1 : y_l[0].parcel.kind = 2 := congrArg (fun q : Pst => q.parcel.kind) hy0
                 have hy2 : y_l[0].to = 1000 + p_op_client := congrArg Pst.to hy0
                 have hy3 : y_l[0].parcel.op.req = p_op_req := congrArg (fun q : Pst => q.parcel.op.req) hy0
                 refine Y_move ?_
                 refine Y_len_sl F.elem43 ?_
                 refine Y_cmp ?_
                 refine Y_move ?_
                 refine XD_part 165 rfl (fun hc21 => ?_) (fun hc21 => ?_)
                 ·replace hc21 := nT hc21
                  (exfalso; omega)
                 ·replace hc21 := nF hc21
                  refine Y_move ?_
                  refine X_indexAddr rfl rfl rfl rfl F.elem43 (by rfl) (by (simp; omega)) (by exact SlM.plain (by assumption) (by (simp; omega))) rfl ?_
                  refine X_fieldAddr_el rfl rfl rfl (by exact SlM.plain (by assumption) (by (simp; omega))) F.foff51_1 rfl ?_
                  refine X_fieldAddr_el rfl rfl rfl (by exact SlM.plain (by assumption) (by (simp; omega))) F.foff39_0 rfl ?_
                  refine X_load_el rfl rfl rfl (by assumption) (by exact row_map (by (simp; omega))) F.lay3 rfl rfl rfl ?_
                  refine Y_cmp ?_
                  refine Y_pick ?_
                  refine Y_move ?_
                  refine XD_part 173 rfl (fun hc22 => ?_) (fun hc22 => ?_)
                  ·replace hc22 := nT hc22
                   simp only [AnswerV.eta, MarkV.eta, CellV.eta, HeldV.eta, WaitV.eta, ServerV.eta, PeerV.eta, OpV.eta, ParcelV.eta, PostV.eta, WorkerV.eta] at hc22
                   simp only [List.get_eq_getElem] at hc22
                   (exfalso; first | (simp [eqX] at hc22; done) | exact hc22 hy1 | exact hc22 hy2 | exact hc22 hy3)
                  ·replace hc22 := nF hc22
                   simp only [AnswerV.eta, MarkV.eta, CellV.eta, HeldV.eta, WaitV.eta, ServerV.eta, PeerV.eta, OpV.eta, ParcelV.eta, PostV.eta, WorkerV.eta] at hc22
                   simp only [List.get_eq_getElem] at hc22
                   refine Y_move ?_
                   refine X_indexAddr rfl rfl rfl rfl F.elem43 (by rfl) (by (simp; omega)) (by exact SlM.plain (by assumption) (by (simp; omega))) rfl ?_
                   refine X_fieldAddr_el rfl rfl rfl (by exact SlM.plain (by assumption) (by (simp; omega))) F.foff51_0 rfl ?_
                   refine X_load_el rfl rfl rfl (by assumption) (by exact row_map (by (simp; omega))) F.lay3 rfl rfl rfl ?_
                   refine Y_fieldAddr F.foff39_3 ?_
                   refine Y_fieldAddr F.foff31_0 ?_
                   refine Y_load F.lay3 ?_
                   refine X_ari rfl rfl rfl rfl rfl (by exact wrap_in (by decide) (by omega)) rfl ?_
                   refine Y_cmp ?_
                   refine Y_pick ?_
                   refine Y_move ?_
                   refine XD_part 184 rfl (fun hc23 => ?_) (fun hc23 => ?_)
                   ·replace hc23 := nT hc23
                    simp only [AnswerV.eta, MarkV.eta, CellV.eta, HeldV.eta, WaitV.eta, ServerV.eta, PeerV.eta, OpV.eta, ParcelV.eta, PostV.eta, WorkerV.eta] at hc23
                    simp only [List.get_eq_getElem] at hc23
                    (exfalso; omega)
                   ·replace hc23 := nF hc23
                    simp only [AnswerV.eta, MarkV.eta, CellV.eta, HeldV.eta, WaitV.eta, ServerV.eta, PeerV.eta, OpV.eta, ParcelV.eta, PostV.eta, WorkerV.eta] at hc23
                    simp only [List.get_eq_getElem] at hc23
                    refine Y_move ?_
                    refine X_indexAddr rfl rfl rfl rfl F.elem43 (by rfl) (by (simp; omega)) (by exact SlM.plain (by assumption) (by (simp; omega))) rfl ?_
                    refine X_fieldAddr_el rfl rfl rfl (by exact SlM.plain (by assumption) (by (simp; omega))) F.foff51_1 rfl ?_
                    refine X_fieldAddr_el rfl rfl rfl (by exact SlM.plain (by assumption) (by (simp; omega))) F.foff39_3 rfl ?_
                    refine X_fieldAddr_el rfl rfl rfl (by exact SlM.plain (by assumption) (by (simp; omega))) F.foff31_1 rfl ?_
                    refine X_load_el rfl rfl rfl (by assumption) (by exact row_map (by (simp; omega))) F.lay22 rfl rfl rfl ?_
                    refine Y_fieldAddr F.foff39_3 ?_
                    refine Y_fieldAddr F.foff31_1 ?_
                    refine Y_load F.lay22 ?_
                    refine Y_cmp ?_
                    iterate 2 refine Y_pick ?_
                    refine XD_end ?_
                    refine K_then ?_
                    refine C_cond rfl (fun hc24 => ?_) (fun hc24 => ?_)
                    ·replace hc24 := nT hc24
                     simp only [AnswerV.eta, MarkV.eta, CellV.eta, HeldV.eta, WaitV.eta, ServerV.eta, PeerV.eta, OpV.eta, ParcelV.eta, PostV.eta, WorkerV.eta] at hc24
                     simp only [List.get_eq_getElem] at hc24
                     (exfalso; first | (simp [eqX] at hc24; done) | exact hc24 hy1 | exact hc24 hy2 | exact hc24 hy3)
                    ·replace hc24 := nF hc24
                     simp only [AnswerV.eta, MarkV.eta, CellV.eta, HeldV.eta, WaitV.eta, ServerV.eta, PeerV.eta, OpV.eta, ParcelV.eta, PostV.eta, WorkerV.eta] at hc24
                     simp only [List.get_eq_getElem] at hc24
                     refine C_skip ?_
                     refine K_then ?_
                     refine C_seq ?_
                     have hyl0 : 1 < lf → y_l.length = 0 := fun h => (hyz.2 rfl).2 (by omega)
                     refine C_region (l := [0, 1, 2, 3, 4, 5, 6]) rfl ?_
                     refine Y_move ?_
                     refine Y_cmp ?_
                     refine Y_move ?_
                     refine XD_part 202 rfl (fun hc25 => ?_) (fun hc25 => ?_)
                     ·replace hc25 := dT hc25
                      (exfalso; omega)
                     ·replace hc25 := dF hc25
                      iterate 3 refine Y_skip ?_
                      refine Y_pick ?_
                      refine XD_end ?_
                      refine K_then ?_
                      refine C_false rfl ?_
                      refine C_skip ?_
                      refine K_out ?_
                      refine K_then ?_
                      refine C_region (l := [0, 1, 2]) rfl ?_
                      refine Y_move ?_
                      refine X_ari rfl rfl rfl rfl rfl (by exact wrap_in (by decide) (by omega)) rfl ?_
                      refine Y_assign ?_
                      refine XD_end ?_
                      refine K_roundO (a' := [(18, _), (17, _)]) (n + 1) ((b7, rowO (ServerV.segs ⟨e_addr, e_epoch, ⟨e_sa, e_sc, e_sl⟩, ⟨e_wa, e_wc, e_wl⟩, e_serial⟩) 26) :: ht2) (.cons (k := 18) rfl (.cons (k := 17) rfl (.cons (k := 16) rfl (.cons (k := 14) rfl (.cons (k := 12) rfl (.cons (k := 11) rfl (.cons (k := 10) rfl (.cons (k := 8) rfl (.cons (k := 5) rfl (.cons (k := 1) rfl (.cons (k := 2) rfl (.cons (k := 4) rfl (.nil))))))))))))) (hm2.trans hm3) (fun w hw => by first | exact hw | exact hw.c) ?_ ?_
                      ·refine ⟨⟨e_addr, e_epoch, ⟨e_sa, e_sc, e_sl⟩, ⟨e_wa, e_wc, e_wl⟩, e_serial⟩, (T.set i9 true), (lf - 1), ht2, (by rw [Int.natCast_sub (by omega)]; rfl), by omega, rfl, hot2, ok_e, ?_, ?_, ?_, ?_, ?_⟩
                       ·rw [he, hK1]; exact hs4
                       ·rw [he, hK1]; exact hst
                       ·rw [he]; exact hse
                       ·exact (congrArg Srv.epoch he).trans hee
                       ·have h9 := hwe; rw [← he] at h9; simp only [ServerV.pl, wtl_len] at h9; show e_wl.length ≤ 1000; omega
                      ·omega
                ·replace hc20 := dF hc20
                 iterate 34 refine Y_skip ?_
                 refine Y_pick ?_
                 refine XD_end ?_
                 refine K_then ?_
                 refine C_false rfl ?_
                 refine C_skip ?_
                 refine K_then ?_
                 refine C_seq ?_
                 have hyl0 : 1 < lf → y_l.length = 0 := fun h => (hyz.2 rfl).2 (by omega)
                 refine C_region (l := [0, 1, 2, 3, 4, 5, 6]) rfl ?_
                 refine Y_move ?_
                 refine Y_cmp ?_
                 refine Y_move ?_
                 refine XD_part 202 rfl (fun hc27 => ?_) (fun hc27 => ?_)
                 ·replace hc27 := dT hc27
                  have hyl1 := hyl0 (by omega)
                  refine Y_move ?_
                  refine Y_len_sl F.elem43 ?_
                  refine Y_cmp ?_
                  refine Y_pick ?_
                  refine XD_end ?_
                  refine K_then ?_
                  refine C_cond rfl (fun hc28 => ?_) (fun hc28 => ?_)
                  ·replace hc28 := dT hc28
                   (exfalso; omega)
                  ·replace hc28 := dF hc28
                   refine C_skip ?_
                   refine K_out ?_
                   refine K_then ?_
                   refine C_region (l := [0, 1, 2]) rfl ?_
                   refine Y_move ?_
                   refine X_ari rfl rfl rfl rfl rfl (by exact wrap_in (by decide) (by omega)) rfl ?_
                   refine Y_assign ?_
                   refine XD_end ?_
                   refine K_roundO (a' := [(18, _), (17, _)]) (n + 1) ((b7, rowO (ServerV.segs ⟨e_addr, e_epoch, ⟨e_sa, e_sc, e_sl⟩, ⟨e_wa, e_wc, e_wl⟩, e_serial⟩) 26) :: ht2) (.cons (k := 18) rfl (.cons (k := 17) rfl (.cons (k := 16) rfl (.cons (k := 14) rfl (.cons (k := 12) rfl (.cons (k := 11) rfl (.cons (k := 10) rfl (.cons (k := 8) rfl (.cons (k := 5) rfl (.cons (k := 1) rfl (.cons (k := 2) rfl (.cons (k := 4) rfl (.nil))))))))))))) (hm2.trans hm3) (fun w hw => by first | exact hw | exact hw.c) ?_ ?_
                   ·refine ⟨⟨e_addr, e_epoch, ⟨e_sa, e_sc, e_sl⟩, ⟨e_wa, e_wc, e_wl⟩, e_serial⟩, (T.set i9 true), (lf - 1), ht2, (by rw [Int.natCast_sub (by omega)]; rfl), by omega, rfl, hot2, ok_e, ?_, ?_, ?_, ?_, ?_⟩
                    ·rw [he, hK1]; exact hs4
                    ·rw [he, hK1]; exact hst
                    ·rw [he]; exact hse
                    ·exact (congrArg Srv.epoch he).trans hee
                    ·have h9 := hwe; rw [← he] at h9; simp only [ServerV.pl, wtl_len] at h9; show e_wl.length ≤ 1000; omega
                   ·omega
                 ·replace hc27 := dF hc27
                  (exfalso; omega)
               ·skip
                refine C_seq ?_
                refine C_region (l := [0, 1, 2]) rfl ?_
                refine Y_move ?_
                have hyl0 : y_l.length = 0 := hyz.1 (by (simp_all; done))
                refine Y_len_sl F.elem43 ?_
                refine Y_cmp ?_
                refine XD_end ?_
                refine K_then ?_
                refine C_cond rfl (fun hc29 => ?_) (fun hc29 => ?_)
                ·replace hc29 := dT hc29
                 (exfalso; omega)
                ·replace hc29 := dF hc29
                 refine C_skip ?_
                 refine K_then ?_
                 refine C_seq ?_
                 have hyl0 : 0 < lf → y_l.length = 0 := fun _ => hyz.1 (by (simp_all; done))
                 refine C_region (l := [0, 1, 2, 3, 4, 5, 6]) rfl ?_
                 refine Y_move ?_
                 refine Y_cmp ?_
                 refine Y_move ?_
                 refine XD_part 202 rfl (fun hc30 => ?_) (fun hc30 => ?_)
                 ·replace hc30 := dT hc30
                  have hyl1 := hyl0 (by omega)
                  refine Y_move ?_
                  refine Y_len_sl F.elem43 ?_
                  refine Y_cmp ?_
                  refine Y_pick ?_
                  refine XD_end ?_
                  refine K_then ?_
                  refine C_cond rfl (fun hc31 => ?_) (fun hc31 => ?_)
                  ·replace hc31 := dT hc31
                   (exfalso; omega)
                  ·replace hc31 := dF hc31
                   refine C_skip ?_
                   refine K_out ?_
                   refine K_then ?_
                   refine C_region (l := [0, 1, 2]) rfl ?_
                   refine Y_move ?_
                   refine X_ari rfl rfl rfl rfl rfl (by exact wrap_in (by decide) (by omega)) rfl ?_
                   refine Y_assign ?_
                   refine XD_end ?_
                   refine K_roundO (a' := [(18, _), (17, _)]) (n + 1) ((b7, rowO (ServerV.segs ⟨e_addr, e_epoch, ⟨e_sa, e_sc, e_sl⟩, ⟨e_wa, e_wc, e_wl⟩, e_serial⟩) 26) :: ht) (.cons (k := 18) rfl (.cons (k := 17) rfl (.cons (k := 16) rfl (.cons (k := 14) rfl (.cons (k := 12) rfl (.cons (k := 11) rfl (.cons (k := 10) rfl (.cons (k := 8) rfl (.cons (k := 5) rfl (.cons (k := 1) rfl (.cons (k := 2) rfl (.cons (k := 4) rfl (.nil))))))))))))) (hm2.trans hm3) (fun w hw => by first | exact hw | exact hw.c) ?_ ?_
                   ·refine ⟨⟨e_addr, e_epoch, ⟨e_sa, e_sc, e_sl⟩, ⟨e_wa, e_wc, e_wl⟩, e_serial⟩, T, lf, ht, rfl, by omega, rfl, hot, ok_e, ?_, ?_, ?_, ?_, ?_⟩
                    ·rw [he, hK1]; exact ((hs2 (htb.trans (by (simp_all; done)))).1)
                    ·rw [he, hK1]; exact hst
                    ·rw [he]; exact hse
                    ·exact (congrArg Srv.epoch he).trans hee
                    ·have h9 := hwe; rw [← he] at h9; simp only [ServerV.pl, wtl_len] at h9; show e_wl.length ≤ 1000; omega
                   ·omega
                 ·replace hc30 := dF hc30
                  iterate 3 refine Y_skip ?_
                  refine Y_pick ?_
                  refine XD_end ?_
                  refine K_then ?_
                  refine C_false rfl ?_
                  refine C_skip ?_
                  refine K_out ?_
                  refine K_then ?_
                  refine C_region (l := [0, 1, 2]) rfl ?_
                  refine Y_move ?_
                  refine X_ari rfl rfl rfl rfl rfl (by exact wrap_in (by decide) (by omega)) rfl ?_
                  refine Y_assign ?_
                  refine XD_end ?_
                  refine K_roundO (a' := [(18, _), (17, _)]) (n + 1) ((b7, rowO (ServerV.segs ⟨e_addr, e_epoch, ⟨e_sa, e_sc, e_sl⟩, ⟨e_wa, e_wc, e_wl⟩, e_serial⟩) 26) :: ht) (.cons (k := 18) rfl (.cons (k := 17) rfl (.cons (k := 16) rfl (.cons (k := 14) rfl (.cons (k := 12) rfl (.cons (k := 11) rfl (.cons (k := 10) rfl (.cons (k := 8) rfl (.cons (k := 5) rfl (.cons (k := 1) rfl (.cons (k := 2) rfl (.cons (k := 4) rfl (.nil))))))))))))) (hm2.trans hm3) (fun w hw => by first | exact hw | exact hw.c) ?_ ?_
                  ·refine ⟨⟨e_addr, e_epoch, ⟨e_sa, e_sc, e_sl⟩, ⟨e_wa, e_wc, e_wl⟩, e_serial⟩, T, lf, ht, rfl, by omega, rfl, hot, ok_e, ?_, ?_, ?_, ?_, ?_⟩
                   ·rw [he, hK1]; exact ((hs2 (htb.trans (by (simp_all; done)))).1)
                   ·rw [he, hK1]; exact hst
                   ·rw [he]; exact hse
                   ·exact (congrArg Srv.epoch he).trans hee
                   ·have h9 := hwe; rw [← he] at h9; simp only [ServerV.pl, wtl_len] at h9; show e_wl.length ≤ 1000; omega
                  ·omega
           ·replace hc14 := dF hc14
            refine C_exit ?_
            iterate 2 refine K_exit ?_
            refine K_hit ?_
            refine K_then ?_
            refine Y_pk [11, 10, 8] ?_
            refine C_seq ?_
            refine C_region (l := [0, 1, 2, 3, 4, 5, 6, 7, 8, 9, 10]) rfl ?_
            refine Y_fieldAddr F.foff26_2 ?_
            refine Y_load F.lay23 ?_
            refine Y_fieldAddr F.foff39_2 ?_
            refine Y_load F.lay29 ?_
            refine X_fs rfl rfl F.ok19 rfl (Find_ok _ ⟨d_sa, d_sc, d_sl⟩ p_key okd.h0 okd.h1) rfl ?_
            rintro _ hv
            obtain ⟨⟨⟨f_v, f_h, f_s, ⟨f_a, f_c, f_l⟩⟩, fb⟩, hfx⟩ : ∃ r, findX d_sl p_key = r := ⟨_, rfl⟩
            replace hv : _ = findXv (findX d_sl p_key) := hv
            rw [hfx] at hv
            subst hv
            have okf := findX_ok okd.h1 p_key
            rw [show findX (⟨d_sa, d_sc, d_sl⟩ : Sl HeldV).l p_key = _ from hfx] at okf
            have hfS := findX_S hfx
            rw [show pls d_sl = R1.store from hst, hw8] at hfS
            obtain ⟨rfl, hfc⟩ : fb = true ∧ c9 = CellV.pl ⟨f_v, f_h, f_s, ⟨f_a, f_c, f_l⟩⟩ := by
             cases fb
             ·cases hfS
             ·exact ⟨rfl, Option.some.inj hfS⟩
            refine Y_move ?_
            iterate 2 refine Y_extract ?_
            refine Y_alloc F.zero37 ?_; intro b32
            refine Y_store F.lay37 ?_
            refine Y_assign ?_
            refine XD_end ?_
            refine K_then ?_
            refine Y_pk [23, 22, 10, 8] ?_
            refine C_seq ?_
            refine C_region (l := [0, 1, 2, 3, 4, 5, 6, 7, 8, 9, 10, 11, 12]) rfl ?_
            refine X_fn rfl rfl F.ok13 rfl (served_ok _) rfl ?_
            rintro _ M99 hm99 rfl
            refine Y_move ?_
            refine XD_part 216 rfl (fun hc33 => ?_) (fun hc33 => ?_)
            ·skip
             simp only [AnswerV.eta, MarkV.eta, CellV.eta, HeldV.eta, WaitV.eta, ServerV.eta, PeerV.eta, OpV.eta, ParcelV.eta, PostV.eta, WorkerV.eta] at hc33
             refine Y_move ?_
             refine Y_pick ?_
             refine Y_move ?_
             refine XD_part 219 rfl (fun hc34 => ?_) (fun hc34 => ?_)
             ·skip
              simp only [AnswerV.eta, MarkV.eta, CellV.eta, HeldV.eta, WaitV.eta, ServerV.eta, PeerV.eta, OpV.eta, ParcelV.eta, PostV.eta, WorkerV.eta] at hc34
              refine Y_fieldAddr F.foff39_2 ?_
              refine Y_load F.lay29 ?_
              refine Y_load F.lay37 ?_
              refine X_build rfl rfl F.bld60 (.cons rfl (by constructor) (.cons rfl (by constructor) .nil)) rfl rfl ?_
              refine X_buildSliceF rfl rfl F.elem23 F.zero60 rfl rfl (.cons rfl (by constructor) .nil) rfl rfl (by simp only [List.map_cons, List.map_nil] <;> rfl) rfl ?_; intro b35 hob36
              refine X_fhR rfl rfl F.ok20 rfl (rStIsF_ok _ _ _ [(⟨p_key, ⟨f_v, f_h, f_s, ⟨f_a, f_c, f_l⟩⟩⟩ : HeldV)] _ (show OSl 60 24 (.slice _ 1 1) _ [HeldV.segs _] from hob36) (fun y hy => by obtain rfl := List.mem_singleton.1 hy; exact ⟨okf.mono (by assumption)⟩)) (by repeat first | exact Rem.here _ | exact Rem.two | apply Rem.skip | apply Rem.over) (fun _ _ _ hm hw => (hw.lower (by exact Mem.le.trans (by assumption) hm)).c) (putE_some rfl) ?_
              rintro _ M8 hs8 hm8 ⟨rfl, hv⟩
              rw [decide_eq_true (show IsSt (pls [(⟨p_key, ⟨f_v, f_h, f_s, ⟨f_a, f_c, f_l⟩⟩⟩ : HeldV)]) from isst_one (by rw [← hfc]; exact hw9))] at hv
              subst hv
              refine Y_pick ?_
              refine Y_assign ?_
              refine XD_end ?_
              refine K_then ?_
              refine Y_pk [10] ?_
              refine C_ret ?_
              refine K_end (.inr rfl) (.tmp rfl .nil) (fun w hw => ?_)
              refine ⟨_, _, rfl, (by exact hm1.trans (hm2.trans (hm99.trans hm8))), (hw.c), ?_⟩
              clear hw
              rfl
             ·skip
              simp only [AnswerV.eta, MarkV.eta, CellV.eta, HeldV.eta, WaitV.eta, ServerV.eta, PeerV.eta, OpV.eta, ParcelV.eta, PostV.eta, WorkerV.eta] at hc34
              (exfalso; first | (simp [eqX] at hc34; done) | exact hc34 hy1 | exact hc34 hy2 | exact hc34 hy3)
            ·skip
             (exfalso; first | (simp [eqX] at hc33; done) | exact hc33 hy1 | exact hc33 hy2 | exact hc33 hy3)

end Go.Proofs.YtpkeilhilpogiaaGreat
