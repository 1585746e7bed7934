/-
  The fifth law.
-/
import Derived.Test.YtelpkhhfjfbkcaaDoorC16
set_option linter.unusedSimpArgs false
set_option linter.unusedVariables false
set_option linter.unnecessarySimpa false
set_option maxRecDepth 8000
namespace Go.Proofs.YtelpkhhfjfbkcaaDoor
open Go.Esp


theorem lawAsks_a (M : Mem) (c : ClientV) (l : (Sl PeerV)) (epoch : Int) (hl0 : SlM M (l).a ((l).l.map PeerV.segs) 21) (hl1 : (l).l.length ≤ maxLen) (hEG : EG M) (hcr : IsCircle l.l) (hC : IsClient c) (hb : c.busy = true) : Esp.Fn Tryd.prog 7 [c.enc, Sl.val l, .int .u64 epoch] M (fun _ v => v = .bool true) := by
  obtain ⟨c_num, c_req, c_busy, c_key, ⟨c_op_client, c_op_req, c_op_kind, c_op_version, c_op_val⟩, c_tries⟩ := c
  obtain ⟨l_a, l_c, l_l⟩ := l
  have s_l : SlM M l_a (l_l.map PeerV.segs) 21 := hl0
  have n_l : (l_l.map PeerV.segs).length = l_l.length := List.length_map ..
  have m_l : l_l.length ≤ 9223372036854775807 := hl1
  have hE := hEG
  simp only at hcr hC hb
  have hol := ownerI_lt (l := l_l) (x := c_key) (by have := hcr.1.1; omega)
  subst hb
  have hC1 := hC.2.2
  simp only [Bool.true_eq_false, false_or] at hC1
  refine fn_enter Tryd.func7 rfl Tryd.ntmps7 rfl ?_; intro H
  refine C_seq ?_
  refine C_region (l := [0, 1]) rfl ?_
  refine Y_box ?_; intro b1
  refine Y_assign ?_
  refine XD_end ?_
  refine K_then ?_
  refine Y_pk [6, 3, 1, 2] ?_
  iterate 2 refine C_seq ?_
  refine C_region (l := [0, 1, 2, 3, 4, 5, 6, 7, 8, 9]) rfl ?_
  refine Y_fieldAddr F.foff28_4 ?_
  refine Y_fieldAddr F.foff26_4 ?_
  refine Y_load F.lay9 ?_
  refine Y_len_str Tryd.underlying9 ?_
  refine Y_cmp ?_
  refine Y_move ?_
  refine XD_part 17 rfl (fun hc2 => ?_) (fun hc2 => ?_)
  ·replace hc2 := dT hc2
   iterate 3 refine Y_skip ?_
   refine Y_pick ?_
   refine XD_end ?_
   refine K_then ?_
   refine Y_pk [21, 6, 3, 1, 2] ?_
   refine C_true rfl ?_
   refine C_seq ?_
   refine C_region (l := [0]) rfl ?_
   refine Y_assign ?_
   refine XD_end ?_
   refine K_then ?_
   refine Y_pk [6, 3, 1, 2] ?_
   refine C_ret ?_
   refine K_ret ?_
   refine K_end (.inr rfl) (.tmp rfl .nil) (fun w hw => ?_)
   refine ⟨_, _, rfl, (by exact Mem.le.refl _), (hw.c), ?_⟩
   clear hw
   rfl
  ·replace hc2 := dF hc2
   refine Y_move ?_
   refine Y_len_sl F.elem51 ?_
   refine Y_cmp ?_
   refine Y_pick ?_
   refine XD_end ?_
   refine K_then ?_
   refine Y_pk [21, 6, 3, 1, 2] ?_
   refine C_cond rfl (fun hc3 => ?_) (fun hc3 => ?_)
   ·replace hc3 := dT hc3
    refine C_seq ?_
    refine C_region (l := [0]) rfl ?_
    refine Y_assign ?_
    refine XD_end ?_
    refine K_then ?_
    refine Y_pk [6, 3, 1, 2] ?_
    refine C_ret ?_
    refine K_ret ?_
    refine K_end (.inr rfl) (.tmp rfl .nil) (fun w hw => ?_)
    refine ⟨_, _, rfl, (by exact Mem.le.refl _), (hw.c), ?_⟩
    clear hw
    rfl
   ·replace hc3 := dF hc3
    refine C_skip ?_
    refine K_then ?_
    refine Y_pk [6, 3, 1, 2] ?_
    refine C_seq ?_
    refine C_region (l := [0, 1, 2, 3, 4, 5, 6, 7, 8]) rfl ?_
    refine Y_load F.lay28 ?_
    iterate 2 refine Y_move ?_
    refine X_fn rfl rfl F.ok22 rfl (Ask_ok _ ⟨_, _, _, _, ⟨_, _, _, _, _⟩, _⟩ ⟨_, _, _⟩ _ (by assumption) (by assumption)) rfl ?_
    rintro _ M1 hm1 ⟨⟨s1_a, s1_c, s1_l⟩, rfl, hs1, kk1, ko1⟩
    simp only at hs1 kk1 ko1
    obtain rfl := hs1.trans (by unfold askL; rw [dif_pos ⟨hcr, hC, rfl⟩]; rfl : _ = [(⟨(l_l[ownerI l_l c_key]'(by omega)).addr, ⟨1, epoch, c_key, ⟨c_op_client, c_op_req, c_op_kind, c_op_version, c_op_val⟩, ⟨0, 0, false, ⟨#[]⟩⟩, 0, ⟨0, false, ⟨#[]⟩, ⟨none, 0, []⟩⟩⟩⟩ : PostV)])
    rw [show askE ⟨c_num, c_req, true, c_key, ⟨c_op_client, c_op_req, c_op_kind, c_op_version, c_op_val⟩, c_tries⟩ l_l = 0 from by unfold askE; rw [if_pos ⟨hcr, hC⟩]]
    have hE1 := hE.mono hm1
    refine Y_move ?_
    iterate 2 refine Y_extract ?_
    iterate 2 refine Y_assign ?_
    refine XD_end ?_
    refine K_then ?_
    refine Y_pk [8, 7, 6, 3, 1, 2] ?_
    refine C_seq ?_
    refine C_region (l := [0, 1, 2, 3, 4, 5, 6, 7, 8]) rfl ?_
    refine Y_move ?_
    refine Y_fieldAddr F.foff28_3 ?_
    refine Y_load F.lay24 ?_
    refine X_fs rfl rfl F.ok27 rfl (Owner_ok M1 ⟨_, _, _⟩ _ (by exact SlM.mono (by assumption) (by assumption)) (by assumption)) rfl ?_
    rintro _ rfl
    rw [show ofII (ownerR l_l c_key) = .tuple #[.int .i64 ((ownerI l_l c_key : Nat) : Int), .int .i64 0] by unfold ofII ownerR; rw [if_pos hcr]]
    refine Y_move ?_
    iterate 2 refine Y_extract ?_
    iterate 2 refine Y_assign ?_
    refine XD_end ?_
    refine K_then ?_
    refine Y_pk [10, 9, 8, 7, 6, 3, 1, 2] ?_
    iterate 2 refine C_seq ?_
    refine C_region (l := [0, 1, 2, 3, 4, 5, 6]) rfl ?_
    refine Y_move ?_
    refine Y_cmp ?_
    refine Y_move ?_
    refine XD_part 38 rfl (fun hc4 => ?_) (fun hc4 => ?_)
    ·replace hc4 := nT hc4
     simp only [OpV.eta, ClientV.eta, AnswerV.eta, OutcomeV.eta, MarkV.eta, CellV.eta, ParcelV.eta, PostV.eta, PeerV.eta, StepL06V.eta] at hc4
     (exfalso; simp [eqX] at hc4; done)
    ·replace hc4 := nF hc4
     simp only [OpV.eta, ClientV.eta, AnswerV.eta, OutcomeV.eta, MarkV.eta, CellV.eta, ParcelV.eta, PostV.eta, PeerV.eta, StepL06V.eta] at hc4
     refine Y_fieldAddr F.foff28_2 ?_
     refine Y_load F.lay4 ?_
     refine Y_not ?_
     refine Y_pick ?_
     refine XD_end ?_
     refine K_then ?_
     refine Y_pk [42, 10, 9, 7, 6, 3, 1, 2] ?_
     refine C_cond rfl (fun hc6 => ?_) (fun hc6 => ?_)
     ·skip
      (exfalso; simp [eqX] at hc6; done)
     ·skip
      refine C_skip ?_
      refine K_then ?_
      refine Y_pk [10, 9, 7, 6, 3, 1, 2] ?_
      iterate 2 refine C_seq ?_
      refine C_region (l := [0, 1, 2, 3, 4, 5, 6, 7, 8, 9, 10, 11, 12, 13, 14, 15, 16]) rfl ?_
      refine Y_move ?_
      refine Y_cmp ?_
      refine Y_move ?_
      refine XD_part 51 rfl (fun hc8 => ?_) (fun hc8 => ?_)
      ·replace hc8 := nT hc8
       simp only [OpV.eta, ClientV.eta, AnswerV.eta, OutcomeV.eta, MarkV.eta, CellV.eta, ParcelV.eta, PostV.eta, PeerV.eta, StepL06V.eta] at hc8
       (exfalso; simp [eqX] at hc8; done)
      ·replace hc8 := nF hc8
       simp only [OpV.eta, ClientV.eta, AnswerV.eta, OutcomeV.eta, MarkV.eta, CellV.eta, ParcelV.eta, PostV.eta, PeerV.eta, StepL06V.eta] at hc8
       refine Y_move ?_
       refine Y_len_sl F.elem52 ?_
       refine Y_cmp ?_
       refine Y_pick ?_
       refine Y_move ?_
       refine XD_part 56 rfl (fun hc9 => ?_) (fun hc9 => ?_)
       ·replace hc9 := nT hc9
        (exfalso; simp [eqX] at hc9; done)
       ·replace hc9 := nF hc9
        refine Y_move ?_
        refine Y_cmp ?_
        refine Y_pick ?_
        refine Y_move ?_
        refine XD_part 60 rfl (fun hc10 => ?_) (fun hc10 => ?_)
        ·replace hc10 := dT hc10
         (exfalso; omega)
        ·replace hc10 := dF hc10
         iterate 2 refine Y_move ?_
         refine Y_len_sl F.elem51 ?_
         refine Y_cmp ?_
         refine Y_pick ?_
         refine XD_end ?_
         refine K_then ?_
         refine Y_pk [65, 9, 7, 6, 3, 1, 2] ?_
         refine C_cond rfl (fun hc11 => ?_) (fun hc11 => ?_)
         ·replace hc11 := dT hc11
          (exfalso; omega)
         ·replace hc11 := dF hc11
          refine C_skip ?_
          refine K_then ?_
          refine Y_pk [9, 7, 6, 3, 1, 2] ?_
          refine C_seq ?_
          refine C_region (l := [0, 1, 2, 3, 4, 5]) rfl ?_
          refine Y_move ?_
          refine X_indexAddr rfl rfl rfl rfl F.elem52 (by rfl) (by (simp; done)) (by exact SlM.plain (by assumption) (by (simp; done))) rfl ?_
          refine X_fieldAddr_el rfl rfl rfl (by exact SlM.plain (by assumption) (by (simp; done))) F.foff60_1 rfl ?_
          refine X_load_el rfl rfl rfl (by assumption) (by exact rfl) F.lay42 rfl rfl rfl ?_
          refine Y_alloc F.zero42 ?_; intro b12
          refine Y_store F.lay42 ?_
          refine XD_end ?_
          refine K_then ?_
          refine Y_pk [11, 9, 7, 6, 3, 1, 2] ?_
          refine C_seq ?_
          refine C_region_any (l := [0, 1, 2, 3, 4, 5, 6, 7, 8, 9, 10, 11, 12, 13, 14, 15, 16, 17, 18, 19, 20, 21, 22, 23, 24, 25, 26, 27, 28, 29, 30, 31, 32, 33, 34, 35, 36, 37, 38, 39, 40, 41, 42, 43, 44, 45, 46]) #[0, 1, 3, 7, 15, 31, 3, 3, 195, 451, 963, 2047, 4095, 8191, 16383, 32767, 65535, 131071, 262143, 524287, 262143, 2097151, 4194303, 8388607, 16777215, 33554431, 67108863, 16777215, 150994943, 536870911, 1073741823, 2147483647, 4294967295, 8589934591, 17179869183, 4294967295, 38654705663, 137438953471, 274877906943, 549755813887, 1099511627775, 2199023255551, 1099511627775, 5497558138879, 17592186044415, 35184372088831, 70368744177663] _ rfl (by kernel_rfl) (by kernel_rfl) St.drawn (fun _ h => h) ?_
          refine X_fs rfl rfl F.ok16 rfl (clients_ok _ (by assumption)) rfl ?_
          rintro _ rfl
          refine Y_move ?_
          refine XD_part 71 rfl (fun hc13 => ?_) (fun hc13 => ?_)
          ·skip
           simp only [OpV.eta, ClientV.eta, AnswerV.eta, OutcomeV.eta, MarkV.eta, CellV.eta, ParcelV.eta, PostV.eta, PeerV.eta, StepL06V.eta] at hc13
           refine Y_move ?_
           refine X_indexAddr rfl rfl rfl rfl F.elem52 (by rfl) (by (simp; done)) (by exact SlM.plain (by assumption) (by (simp; done))) rfl ?_
           refine X_fieldAddr_el rfl rfl rfl (by exact SlM.plain (by assumption) (by (simp; done))) F.foff60_0 rfl ?_
           refine X_load_el rfl rfl rfl (by assumption) (by exact rfl) F.lay3 rfl rfl rfl ?_
           iterate 2 refine Y_move ?_
           refine X_indexAddr rfl rfl rfl rfl F.elem51 (by rfl) (by omega) (by exact SlM.plain (by assumption) (by (simp; omega))) rfl ?_
           refine X_fieldAddr_el rfl rfl rfl (by exact SlM.plain (by assumption) (by (simp; omega))) F.foff62_0 rfl ?_
           refine X_load_el rfl rfl rfl (by exact SlM.mono (by assumption) (by assumption)) (by exact row_map (by omega)) F.lay3 rfl rfl rfl ?_
           refine Y_cmp ?_
           refine Y_pick ?_
           refine Y_move ?_
           refine XD_part 83 rfl (fun hc14 => ?_) (fun hc14 => ?_)
           ·replace hc14 := dT hc14
            refine Y_load F.lay42 ?_
            refine X_fs rfl rfl F.ok28 rfl (pIs_ok M1 ⟨_, _, _, ⟨_, _, _, _, _⟩, ⟨_, _, _, _⟩, _, ⟨_, _, _, ⟨_, _, _⟩⟩⟩ ⟨CellV.zero_ok M1⟩) rfl ?_
            rintro _ rfl
            have hpi : IsParcel ⟨1, epoch, c_key, ⟨c_op_client, c_op_req, c_op_kind, c_op_version, c_op_val⟩, ⟨0, 0, false, ⟨#[]⟩⟩, 0, ⟨0, false, ⟨#[]⟩, ⟨none, 0, []⟩⟩⟩ := .inl ⟨rfl, hC1.1, rfl, rfl, rfl, rfl, rfl, rfl⟩
            refine Y_pick ?_
            refine Y_move ?_
            refine XD_part 87 rfl (fun hc15 => ?_) (fun hc15 => ?_)
            ·replace hc15 := dT hc15
             refine Y_fieldAddr F.foff42_1 ?_
             refine Y_load F.lay22 ?_
             refine Y_move ?_
             refine Y_cmp ?_
             refine Y_pick ?_
             refine Y_move ?_
             refine XD_part 93 rfl (fun hc16 => ?_) (fun hc16 => ?_)
             ·replace hc16 := dT hc16
              simp only [OpV.eta, ClientV.eta, AnswerV.eta, OutcomeV.eta, MarkV.eta, CellV.eta, ParcelV.eta, PostV.eta, PeerV.eta, StepL06V.eta] at hc16
              refine Y_fieldAddr F.foff42_3 ?_
              refine Y_fieldAddr F.foff26_0 ?_
              refine Y_load F.lay3 ?_
              refine Y_fieldAddr F.foff28_0 ?_
              refine Y_load F.lay3 ?_
              refine Y_cmp ?_
              refine Y_pick ?_
              refine Y_move ?_
              refine XD_part 101 rfl (fun hc17 => ?_) (fun hc17 => ?_)
              ·replace hc17 := dT hc17
               refine Y_fieldAddr F.foff42_3 ?_
               refine Y_fieldAddr F.foff26_1 ?_
               refine Y_load F.lay22 ?_
               refine Y_fieldAddr F.foff28_1 ?_
               refine Y_load F.lay22 ?_
               refine Y_cmp ?_
               refine Y_pick ?_
               refine Y_move ?_
               refine XD_part 109 rfl (fun hc18 => ?_) (fun hc18 => ?_)
               ·replace hc18 := dT hc18
                refine Y_fieldAddr F.foff42_2 ?_
                refine Y_load F.lay24 ?_
                refine Y_fieldAddr F.foff28_3 ?_
                refine Y_load F.lay24 ?_
                refine X_same (m := 20) rfl rfl rfl rfl rfl (by constructor) (by constructor) F.lay24 F.kinds24 rfl F.guard24 (fit_id fit_nil) (fit_id fit_nil) rfl rfl rfl ?_; intro c19 he20
                replace he20 : c19 = true ↔ Segs.cells _ = Segs.cells _ := he20
                obtain rfl := eqD he20 (cells_id1 (x := _) (y := _)); clear he20
                refine Y_pick ?_
                refine Y_assign ?_
                refine XD_end ?_
                refine K_then ?_
                refine Y_pk [6] ?_
                refine C_ret ?_
                refine K_end (.inr rfl) (.tmp rfl .nil) (fun w hw => ?_)
                refine ⟨_, _, rfl, (by assumption), (hw.c), ?_⟩
                clear hw
                (simp [hC1]; rfl)
               ·replace hc18 := dF hc18
                (exfalso; omega)
              ·replace hc17 := dF hc17
               (exfalso; omega)
             ·replace hc16 := dF hc16
              simp only [OpV.eta, ClientV.eta, AnswerV.eta, OutcomeV.eta, MarkV.eta, CellV.eta, ParcelV.eta, PostV.eta, PeerV.eta, StepL06V.eta] at hc16
              (exfalso; simp [eqX] at hc16; done)
            ·replace hc15 := dF hc15
             contradiction
           ·replace hc14 := dF hc14
            (exfalso; simp [eqX] at hc14; done)
          ·skip
           (exfalso; simp [eqX] at hc13; done)

theorem lawAsks_b (M : Mem) (c : ClientV) (l : (Sl PeerV)) (epoch : Int) (hl0 : SlM M (l).a ((l).l.map PeerV.segs) 21) (hl1 : (l).l.length ≤ maxLen) (hEG : EG M) (hcr : IsCircle l.l) (hC : IsClient c) (hb : c.busy = false) : Esp.Fn Tryd.prog 7 [c.enc, Sl.val l, .int .u64 epoch] M (fun _ v => v = .bool true) := by
  obtain ⟨c_num, c_req, c_busy, c_key, ⟨c_op_client, c_op_req, c_op_kind, c_op_version, c_op_val⟩, c_tries⟩ := c
  obtain ⟨l_a, l_c, l_l⟩ := l
  have s_l : SlM M l_a (l_l.map PeerV.segs) 21 := hl0
  have n_l : (l_l.map PeerV.segs).length = l_l.length := List.length_map ..
  have m_l : l_l.length ≤ 9223372036854775807 := hl1
  have hE := hEG
  simp only at hcr hC hb
  have hol := ownerI_lt (l := l_l) (x := c_key) (by have := hcr.1.1; omega)
  subst hb
  refine fn_enter Tryd.func7 rfl Tryd.ntmps7 rfl ?_; intro H
  refine C_seq ?_
  refine C_region (l := [0, 1]) rfl ?_
  refine Y_box ?_; intro b1
  refine Y_assign ?_
  refine XD_end ?_
  refine K_then ?_
  refine Y_pk [6, 3, 1, 2] ?_
  iterate 2 refine C_seq ?_
  refine C_region (l := [0, 1, 2, 3, 4, 5, 6, 7, 8, 9]) rfl ?_
  refine Y_fieldAddr F.foff28_4 ?_
  refine Y_fieldAddr F.foff26_4 ?_
  refine Y_load F.lay9 ?_
  refine Y_len_str Tryd.underlying9 ?_
  refine Y_cmp ?_
  refine Y_move ?_
  refine XD_part 17 rfl (fun hc2 => ?_) (fun hc2 => ?_)
  ·replace hc2 := dT hc2
   iterate 3 refine Y_skip ?_
   refine Y_pick ?_
   refine XD_end ?_
   refine K_then ?_
   refine Y_pk [21, 6, 3, 1, 2] ?_
   refine C_true rfl ?_
   refine C_seq ?_
   refine C_region (l := [0]) rfl ?_
   refine Y_assign ?_
   refine XD_end ?_
   refine K_then ?_
   refine Y_pk [6, 3, 1, 2] ?_
   refine C_ret ?_
   refine K_ret ?_
   refine K_end (.inr rfl) (.tmp rfl .nil) (fun w hw => ?_)
   refine ⟨_, _, rfl, (by exact Mem.le.refl _), (hw.c), ?_⟩
   clear hw
   rfl
  ·replace hc2 := dF hc2
   refine Y_move ?_
   refine Y_len_sl F.elem51 ?_
   refine Y_cmp ?_
   refine Y_pick ?_
   refine XD_end ?_
   refine K_then ?_
   refine Y_pk [21, 6, 3, 1, 2] ?_
   refine C_cond rfl (fun hc3 => ?_) (fun hc3 => ?_)
   ·replace hc3 := dT hc3
    refine C_seq ?_
    refine C_region (l := [0]) rfl ?_
    refine Y_assign ?_
    refine XD_end ?_
    refine K_then ?_
    refine Y_pk [6, 3, 1, 2] ?_
    refine C_ret ?_
    refine K_ret ?_
    refine K_end (.inr rfl) (.tmp rfl .nil) (fun w hw => ?_)
    refine ⟨_, _, rfl, (by exact Mem.le.refl _), (hw.c), ?_⟩
    clear hw
    rfl
   ·replace hc3 := dF hc3
    refine C_skip ?_
    refine K_then ?_
    refine Y_pk [6, 3, 1, 2] ?_
    refine C_seq ?_
    refine C_region (l := [0, 1, 2, 3, 4, 5, 6, 7, 8]) rfl ?_
    refine Y_load F.lay28 ?_
    iterate 2 refine Y_move ?_
    refine X_fn rfl rfl F.ok22 rfl (Ask_ok _ ⟨_, _, _, _, ⟨_, _, _, _, _⟩, _⟩ ⟨_, _, _⟩ _ (by assumption) (by assumption)) rfl ?_
    rintro _ M1 hm1 ⟨⟨s1_a, s1_c, s1_l⟩, rfl, hs1, kk1, ko1⟩
    simp only at hs1 kk1 ko1
    obtain rfl := hs1.trans (by unfold askL; rw [dif_neg (by simp)] : _ = ([] : List PostV))
    rw [show askE ⟨c_num, c_req, false, c_key, ⟨c_op_client, c_op_req, c_op_kind, c_op_version, c_op_val⟩, c_tries⟩ l_l = 0 from by unfold askE; rw [if_pos ⟨hcr, hC⟩]]
    have hE1 := hE.mono hm1
    refine Y_move ?_
    iterate 2 refine Y_extract ?_
    iterate 2 refine Y_assign ?_
    refine XD_end ?_
    refine K_then ?_
    refine Y_pk [8, 7, 6, 3, 1, 2] ?_
    refine C_seq ?_
    refine C_region (l := [0, 1, 2, 3, 4, 5, 6, 7, 8]) rfl ?_
    refine Y_move ?_
    refine Y_fieldAddr F.foff28_3 ?_
    refine Y_load F.lay24 ?_
    refine X_fs rfl rfl F.ok27 rfl (Owner_ok M1 ⟨_, _, _⟩ _ (by exact SlM.mono (by assumption) (by assumption)) (by assumption)) rfl ?_
    rintro _ rfl
    rw [show ofII (ownerR l_l c_key) = .tuple #[.int .i64 ((ownerI l_l c_key : Nat) : Int), .int .i64 0] by unfold ofII ownerR; rw [if_pos hcr]]
    refine Y_move ?_
    iterate 2 refine Y_extract ?_
    iterate 2 refine Y_assign ?_
    refine XD_end ?_
    refine K_then ?_
    refine Y_pk [10, 9, 8, 7, 6, 3, 1, 2] ?_
    iterate 2 refine C_seq ?_
    refine C_region (l := [0, 1, 2, 3, 4, 5, 6]) rfl ?_
    refine Y_move ?_
    refine Y_cmp ?_
    refine Y_move ?_
    refine XD_part 38 rfl (fun hc4 => ?_) (fun hc4 => ?_)
    ·replace hc4 := nT hc4
     simp only [OpV.eta, ClientV.eta, AnswerV.eta, OutcomeV.eta, MarkV.eta, CellV.eta, ParcelV.eta, PostV.eta, PeerV.eta, StepL06V.eta] at hc4
     (exfalso; simp [eqX] at hc4; done)
    ·replace hc4 := nF hc4
     simp only [OpV.eta, ClientV.eta, AnswerV.eta, OutcomeV.eta, MarkV.eta, CellV.eta, ParcelV.eta, PostV.eta, PeerV.eta, StepL06V.eta] at hc4
     refine Y_fieldAddr F.foff28_2 ?_
     refine Y_load F.lay4 ?_
     refine Y_not ?_
     refine Y_pick ?_
     refine XD_end ?_
     refine K_then ?_
     refine Y_pk [42, 10, 9, 7, 6, 3, 1, 2] ?_
     refine C_cond rfl (fun hc6 => ?_) (fun hc6 => ?_)
     ·skip
      refine C_seq ?_
      refine C_region (l := [0, 1, 2, 3, 4, 5, 6]) rfl ?_
      refine X_fs rfl rfl F.ok16 rfl (clients_ok _ (by assumption)) rfl ?_
      rintro _ rfl
      refine Y_move ?_
      refine XD_part 44 rfl (fun hc7 => ?_) (fun hc7 => ?_)
      ·skip
       simp only [OpV.eta, ClientV.eta, AnswerV.eta, OutcomeV.eta, MarkV.eta, CellV.eta, ParcelV.eta, PostV.eta, PeerV.eta, StepL06V.eta] at hc7
       refine Y_move ?_
       refine Y_len_sl F.elem52 ?_
       refine Y_cmp ?_
       refine Y_pick ?_
       refine Y_assign ?_
       refine XD_end ?_
       refine K_then ?_
       refine Y_pk [6, 10, 9, 7, 3, 1, 2] ?_
       refine C_ret ?_
       refine K_ret ?_
       refine K_end (.inr rfl) (.tmp rfl .nil) (fun w hw => ?_)
       refine ⟨_, _, rfl, (by assumption), (hw.c), ?_⟩
       clear hw
       rfl
      ·skip
       (exfalso; simp [eqX] at hc7; done)
     ·skip
      (exfalso; simp [eqX] at hc6; done)

theorem lawAsks_c (M : Mem) (c : ClientV) (l : (Sl PeerV)) (epoch : Int) (hl0 : SlM M (l).a ((l).l.map PeerV.segs) 21) (hl1 : (l).l.length ≤ maxLen) (hEG : EG M) (hc : ¬ (IsCircle l.l ∧ IsClient c)) : Esp.Fn Tryd.prog 7 [c.enc, Sl.val l, .int .u64 epoch] M (fun _ v => v = .bool true) := by
  obtain ⟨c_num, c_req, c_busy, c_key, ⟨c_op_client, c_op_req, c_op_kind, c_op_version, c_op_val⟩, c_tries⟩ := c
  obtain ⟨l_a, l_c, l_l⟩ := l
  have s_l : SlM M l_a (l_l.map PeerV.segs) 21 := hl0
  have n_l : (l_l.map PeerV.segs).length = l_l.length := List.length_map ..
  have m_l : l_l.length ≤ 9223372036854775807 := hl1
  have hE := hEG
  simp only at hc
  refine fn_enter Tryd.func7 rfl Tryd.ntmps7 rfl ?_; intro H
  refine C_seq ?_
  refine C_region (l := [0, 1]) rfl ?_
  refine Y_box ?_; intro b1
  refine Y_assign ?_
  refine XD_end ?_
  refine K_then ?_
  refine Y_pk [6, 3, 1, 2] ?_
  iterate 2 refine C_seq ?_
  refine C_region (l := [0, 1, 2, 3, 4, 5, 6, 7, 8, 9]) rfl ?_
  refine Y_fieldAddr F.foff28_4 ?_
  refine Y_fieldAddr F.foff26_4 ?_
  refine Y_load F.lay9 ?_
  refine Y_len_str Tryd.underlying9 ?_
  refine Y_cmp ?_
  refine Y_move ?_
  refine XD_part 17 rfl (fun hc2 => ?_) (fun hc2 => ?_)
  ·replace hc2 := dT hc2
   iterate 3 refine Y_skip ?_
   refine Y_pick ?_
   refine XD_end ?_
   refine K_then ?_
   refine Y_pk [21, 6, 3, 1, 2] ?_
   refine C_true rfl ?_
   refine C_seq ?_
   refine C_region (l := [0]) rfl ?_
   refine Y_assign ?_
   refine XD_end ?_
   refine K_then ?_
   refine Y_pk [6, 3, 1, 2] ?_
   refine C_ret ?_
   refine K_ret ?_
   refine K_end (.inr rfl) (.tmp rfl .nil) (fun w hw => ?_)
   refine ⟨_, _, rfl, (by exact Mem.le.refl _), (hw.c), ?_⟩
   clear hw
   rfl
  ·replace hc2 := dF hc2
   refine Y_move ?_
   refine Y_len_sl F.elem51 ?_
   refine Y_cmp ?_
   refine Y_pick ?_
   refine XD_end ?_
   refine K_then ?_
   refine Y_pk [21, 6, 3, 1, 2] ?_
   refine C_cond rfl (fun hc3 => ?_) (fun hc3 => ?_)
   ·replace hc3 := dT hc3
    refine C_seq ?_
    refine C_region (l := [0]) rfl ?_
    refine Y_assign ?_
    refine XD_end ?_
    refine K_then ?_
    refine Y_pk [6, 3, 1, 2] ?_
    refine C_ret ?_
    refine K_ret ?_
    refine K_end (.inr rfl) (.tmp rfl .nil) (fun w hw => ?_)
    refine ⟨_, _, rfl, (by exact Mem.le.refl _), (hw.c), ?_⟩
    clear hw
    rfl
   ·replace hc3 := dF hc3
    refine C_skip ?_
    refine K_then ?_
    refine Y_pk [6, 3, 1, 2] ?_
    refine C_seq ?_
    refine C_region (l := [0, 1, 2, 3, 4, 5, 6, 7, 8]) rfl ?_
    refine Y_load F.lay28 ?_
    iterate 2 refine Y_move ?_
    refine X_fn rfl rfl F.ok22 rfl (Ask_ok _ ⟨_, _, _, _, ⟨_, _, _, _, _⟩, _⟩ ⟨_, _, _⟩ _ (by assumption) (by assumption)) rfl ?_
    rintro _ M1 hm1 ⟨⟨s1_a, s1_c, s1_l⟩, rfl, hs1, kk1, ko1⟩
    simp only at hs1 kk1 ko1
    obtain rfl := hs1.trans (by unfold askL; rw [dif_neg (fun h => hc ⟨h.1, h.2.1⟩)] : _ = ([] : List PostV))
    rw [show askE ⟨c_num, c_req, c_busy, c_key, ⟨c_op_client, c_op_req, c_op_kind, c_op_version, c_op_val⟩, c_tries⟩ l_l = 1 from by unfold askE; rw [if_neg hc]]
    have hE1 := hE.mono hm1
    refine Y_move ?_
    iterate 2 refine Y_extract ?_
    iterate 2 refine Y_assign ?_
    refine XD_end ?_
    refine K_then ?_
    refine Y_pk [8, 7, 6, 3, 1, 2] ?_
    refine C_seq ?_
    refine C_region (l := [0, 1, 2, 3, 4, 5, 6, 7, 8]) rfl ?_
    refine Y_move ?_
    refine Y_fieldAddr F.foff28_3 ?_
    refine Y_load F.lay24 ?_
    refine X_fs rfl rfl F.ok27 rfl (Owner_ok M1 ⟨_, _, _⟩ _ (by exact SlM.mono (by assumption) (by assumption)) (by assumption)) rfl ?_
    rintro _ rfl
    rw [show ofII (ownerR l_l c_key) = .tuple #[.int .i64 (ownerR l_l c_key).1, .int .i64 (ownerR l_l c_key).2] from rfl]
    refine Y_move ?_
    iterate 2 refine Y_extract ?_
    iterate 2 refine Y_assign ?_
    refine XD_end ?_
    refine K_then ?_
    refine Y_pk [10, 9, 8, 7, 6, 3, 1, 2] ?_
    iterate 2 refine C_seq ?_
    refine C_region (l := [0, 1, 2, 3, 4, 5, 6]) rfl ?_
    refine Y_move ?_
    refine Y_cmp ?_
    refine Y_move ?_
    refine XD_part 38 rfl (fun hc4 => ?_) (fun hc4 => ?_)
    ·replace hc4 := nT hc4
     iterate 3 refine Y_skip ?_
     refine Y_pick ?_
     refine XD_end ?_
     refine K_then ?_
     refine Y_pk [42, 10, 9, 7, 6, 3, 1, 2] ?_
     refine C_true rfl ?_
     refine C_seq ?_
     refine C_region (l := [0, 1, 2, 3, 4, 5, 6]) rfl ?_
     refine X_fs rfl rfl F.ok16 rfl (clients_ok _ (by assumption)) rfl ?_
     rintro _ rfl
     refine Y_move ?_
     refine XD_part 44 rfl (fun hc5 => ?_) (fun hc5 => ?_)
     ·skip
      simp only [OpV.eta, ClientV.eta, AnswerV.eta, OutcomeV.eta, MarkV.eta, CellV.eta, ParcelV.eta, PostV.eta, PeerV.eta, StepL06V.eta] at hc5
      refine Y_move ?_
      refine Y_len_sl F.elem52 ?_
      refine Y_cmp ?_
      refine Y_pick ?_
      refine Y_assign ?_
      refine XD_end ?_
      refine K_then ?_
      refine Y_pk [6, 10, 9, 7, 3, 1, 2] ?_
      refine C_ret ?_
      refine K_ret ?_
      refine K_end (.inr rfl) (.tmp rfl .nil) (fun w hw => ?_)
      refine ⟨_, _, rfl, (by assumption), (hw.c), ?_⟩
      clear hw
      rfl
     ·skip
      (exfalso; simp [eqX] at hc5; done)
    ·replace hc4 := nF hc4
     (exfalso; omega)

theorem lawAsks_ok (M : Mem) (c : ClientV) (l : (Sl PeerV)) (epoch : Int) (hl0 : SlM M (l).a ((l).l.map PeerV.segs) 21) (hl1 : (l).l.length ≤ maxLen) (hEG : EG M) : Esp.Fn Tryd.prog 7 [c.enc, Sl.val l, .int .u64 epoch] M (fun _ v => v = .bool true) := by
  by_cases hc : IsCircle l.l ∧ IsClient c
  ·by_cases hb : c.busy = true
   ·exact lawAsks_a M c l epoch hl0 hl1 hEG hc.1 hc.2 hb
   ·exact lawAsks_b M c l epoch hl0 hl1 hEG hc.1 hc.2 (by simpa using hb)
  ·exact lawAsks_c M c l epoch hl0 hl1 hEG hc

end Go.Proofs.YtelpkhhfjfbkcaaDoor
/- made small -/
