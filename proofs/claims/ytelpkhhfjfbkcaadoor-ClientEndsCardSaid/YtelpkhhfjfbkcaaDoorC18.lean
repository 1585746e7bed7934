/-
  The third law.
-/
import Derived.Test.YtelpkhhfjfbkcaaDoorC15
import Derived.Test.YtelpkhhfjfbkcaaDoorClientL
set_option linter.unusedSimpArgs false
set_option linter.unusedVariables false
set_option linter.unnecessarySimpa false
set_option maxRecDepth 8000
namespace Go.Proofs.YtelpkhhfjfbkcaaDoor
open Go.Esp


theorem lawEnds_a (M : Mem) (num : Int) (key : Plc) (budget : Int) (hEG : EG M) (hn : 0 ≤ num ∧ num ≤ 63) (hb : 0 ≤ budget ∧ budget ≤ 200) : Esp.Fn Tryd.prog 5 [.int .i64 num, aggV [idSeg key], .int .i64 budget] M (fun _ v => v = .bool true) := by
  have hE := hEG
  refine fn_enter Tryd.func5 rfl Tryd.ntmps5 rfl ?_; intro H
  refine C_seq ?_
  refine C_region (l := [0, 1]) rfl ?_
  refine Y_box ?_; intro b1
  refine Y_assign ?_
  refine XD_end ?_
  refine K_then ?_
  refine Y_pk [6, 4, 0, 2] ?_
  refine C_seq ?_
  refine C_region (l := [0, 1, 2, 3, 4, 5, 6, 7]) rfl ?_
  refine Y_move ?_
  refine X_fs rfl rfl F.ok12 rfl (New_ok M _) rfl ?_
  rintro _ rfl
  refine XD_is 20 rfl (show _ = Value.tuple #[ClientV.enc ⟨num, 0, false, 0, ⟨0, 0, 0, 0, ⟨#[]⟩⟩, 0⟩, .int .i64 0] from congrArg ofPair (endsC_new hn)) ?_
  refine Y_move ?_
  iterate 2 refine Y_extract ?_
  refine Y_alloc F.zero28 ?_; intro b2
  refine Y_store F.lay28 ?_
  refine Y_assign ?_
  refine XD_end ?_
  refine K_then ?_
  refine Y_pk [8, 7, 6, 4, 2] ?_
  iterate 2 refine C_seq ?_
  refine C_region (l := [0, 1, 2, 3, 4, 5, 6, 7, 8, 9]) rfl ?_
  refine Y_move ?_
  refine Y_cmp ?_
  refine Y_move ?_
  refine XD_part 25 rfl (fun hc3 => ?_) (fun hc3 => ?_)
  ·replace hc3 := nT hc3
   simp only [OpV.eta, ClientV.eta, AnswerV.eta, OutcomeV.eta, MarkV.eta, CellV.eta, ParcelV.eta, PostV.eta, PeerV.eta, StepL06V.eta] at hc3
   (exfalso; simp [eqX] at hc3; done)
  ·replace hc3 := nF hc3
   simp only [OpV.eta, ClientV.eta, AnswerV.eta, OutcomeV.eta, MarkV.eta, CellV.eta, ParcelV.eta, PostV.eta, PeerV.eta, StepL06V.eta] at hc3
   refine Y_move ?_
   refine Y_cmp ?_
   refine Y_pick ?_
   refine Y_move ?_
   refine XD_part 29 rfl (fun hc4 => ?_) (fun hc4 => ?_)
   ·replace hc4 := dT hc4
    (exfalso; omega)
   ·replace hc4 := dF hc4
    refine Y_move ?_
    refine Y_cmp ?_
    refine Y_pick ?_
    refine XD_end ?_
    refine K_then ?_
    refine Y_pk [32, 7, 6, 4, 2] ?_
    refine C_cond rfl (fun hc5 => ?_) (fun hc5 => ?_)
    ·replace hc5 := dT hc5
     (exfalso; omega)
    ·replace hc5 := dF hc5
     refine C_skip ?_
     refine K_then ?_
     refine Y_pk [7, 6, 4, 2] ?_
     refine C_seq ?_
     refine C_region (l := [0, 1, 2, 3, 4, 5, 6, 7, 8]) rfl ?_
     refine Y_load F.lay28 ?_
     refine Y_load F.lay24 ?_
     refine X_fs rfl rfl F.ok14 rfl (Start_ok M ⟨_, _, _, _, ⟨_, _, _, _, _⟩, _⟩ key 1 0 ⟨#[]⟩) rfl ?_
     rintro _ rfl
     refine XD_is 37 rfl (show _ = Value.tuple #[ClientV.enc ⟨num, 1, true, key, ⟨num, 1, 1, 0, ⟨#[]⟩⟩, 0⟩, .int .i64 0] from congrArg ofPair (endsC_start hn key)) ?_
     refine Y_move ?_
     iterate 2 refine Y_extract ?_
     refine Y_alloc F.zero28 ?_; intro b6
     refine Y_store F.lay28 ?_
     refine Y_assign ?_
     refine XD_end ?_
     refine K_then ?_
     refine Y_pk [10, 9, 6, 2] ?_
     iterate 2 refine C_seq ?_
     refine C_region (l := [0, 1]) rfl ?_
     refine Y_move ?_
     refine Y_cmp ?_
     refine XD_end ?_
     refine K_then ?_
     refine Y_pk [41, 9, 6, 2] ?_
     refine C_cond rfl (fun hc7 => ?_) (fun hc7 => ?_)
     ·replace hc7 := nT hc7
      simp only [OpV.eta, ClientV.eta, AnswerV.eta, OutcomeV.eta, MarkV.eta, CellV.eta, ParcelV.eta, PostV.eta, PeerV.eta, StepL06V.eta] at hc7
      (exfalso; simp [eqX] at hc7; done)
     ·replace hc7 := nF hc7
      simp only [OpV.eta, ClientV.eta, AnswerV.eta, OutcomeV.eta, MarkV.eta, CellV.eta, ParcelV.eta, PostV.eta, PeerV.eta, StepL06V.eta] at hc7
      refine C_skip ?_
      refine K_then ?_
      refine Y_pk [9, 6, 2] ?_
      iterate 2 refine C_seq ?_
      refine C_region (l := [0]) rfl ?_
      refine Y_assign ?_
      refine XD_end ?_
      refine K_then ?_
      refine C_block ?_
      refine Y_pk [11, 9, 6, 2] ?_
      refine C_loopO (Hin := [(b6, rowO (ClientV.segs ⟨num, 1, true, key, ⟨num, 1, 1, 0, ⟨#[]⟩⟩, 0⟩) 28)]) (.succ .zero) (by repeat first | exact Rem.here _ | exact Rem.two | apply Rem.skip | apply Rem.over) (fun (k : Nat) M1 h1 z => M1 = M ∧ z = [(11, .int .i64 (k : Int))] ∧ (k : Int) ≤ budget ∧ h1 = [(b6, rowO (ClientV.segs ⟨num, 1, true, key, ⟨num, 1, 1, 0, ⟨#[]⟩⟩, (k : Int)⟩) 28)]) (fun k => 200 - k) (0) (⟨rfl, rfl, by omega, rfl⟩) ?_
      rintro k M1 h1 z hm1 ⟨hM1, rfl, hk, rfl⟩
      subst hM1
      iterate 2 refine C_seq ?_
      refine C_region (l := [0, 1, 2]) rfl ?_
      iterate 2 refine Y_move ?_
      refine Y_cmp ?_
      refine XD_end ?_
      refine K_then ?_
      refine C_cond rfl (fun hc8 => ?_) (fun hc8 => ?_)
      ·replace hc8 := dT hc8
       refine C_skip ?_
       refine K_then ?_
       refine C_seq ?_
       refine C_block ?_
       refine C_seq ?_
       refine C_region (l := [0, 1, 2, 3, 4, 5, 6, 7, 8, 9, 10, 11]) rfl ?_
       refine Y_load F.lay28 ?_
       refine Y_move ?_
       refine X_fs rfl rfl F.ok21 rfl (Tick_ok _ hE ⟨_, _, _, _, ⟨_, _, _, _, _⟩, _⟩ budget) rfl ?_
       rintro _ rfl
       refine XD_is 50 rfl (show _ = Value.tuple #[ClientV.enc ⟨num, 1, true, key, ⟨num, 1, 1, 0, ⟨#[]⟩⟩, ((k + 1 : Nat) : Int)⟩, (OutcomeV.enc OutcomeV.zero), .int .i64 0] from congrArg ofTri (endsC_tick hn key (by omega) (by omega))) ?_
       refine Y_move ?_
       iterate 3 refine Y_extract ?_
       refine Y_alloc F.zero28 ?_; intro b9
       refine Y_alloc F.zero45 ?_; intro b10
       refine Y_store F.lay28 ?_
       refine Y_store F.lay45 ?_
       refine Y_assign ?_
       refine XD_end ?_
       refine K_then ?_
       iterate 2 refine C_seq ?_
       refine C_region (l := [0, 1, 2, 3, 4, 5, 6, 7, 8, 9, 10]) rfl ?_
       refine Y_move ?_
       refine Y_cmp ?_
       refine Y_move ?_
       refine XD_part 56 rfl (fun hc11 => ?_) (fun hc11 => ?_)
       ·replace hc11 := nT hc11
        simp only [OpV.eta, ClientV.eta, AnswerV.eta, OutcomeV.eta, MarkV.eta, CellV.eta, ParcelV.eta, PostV.eta, PeerV.eta, StepL06V.eta] at hc11
        (exfalso; simp [eqX] at hc11; done)
       ·replace hc11 := nF hc11
        simp only [OpV.eta, ClientV.eta, AnswerV.eta, OutcomeV.eta, MarkV.eta, CellV.eta, ParcelV.eta, PostV.eta, PeerV.eta, StepL06V.eta] at hc11
        refine Y_fieldAddr F.foff45_0 ?_
        refine Y_load F.lay4 ?_
        refine Y_pick ?_
        refine Y_move ?_
        refine XD_part 60 rfl (fun hc12 => ?_) (fun hc12 => ?_)
        ·skip
         (exfalso; simp [eqX] at hc12; done)
        ·skip
         simp only [OpV.eta, ClientV.eta, AnswerV.eta, OutcomeV.eta, MarkV.eta, CellV.eta, ParcelV.eta, PostV.eta, PeerV.eta, StepL06V.eta] at hc12
         refine Y_fieldAddr F.foff28_2 ?_
         refine Y_load F.lay4 ?_
         refine Y_not ?_
         refine Y_pick ?_
         refine XD_end ?_
         refine K_then ?_
         refine C_cond rfl (fun hc13 => ?_) (fun hc13 => ?_)
         ·skip
          (exfalso; simp [eqX] at hc13; done)
         ·skip
          refine C_skip ?_
          refine K_then ?_
          refine C_region (l := [0, 1]) rfl ?_
          refine Y_load F.lay28 ?_
          refine Y_store F.lay28 ?_
          refine XD_end ?_
          refine K_out ?_
          refine K_then ?_
          refine C_region (l := [0, 1, 2]) rfl ?_
          refine Y_move ?_
          refine X_ari rfl rfl rfl rfl rfl (by exact wrap_in (by decide) (by omega)) rfl ?_
          refine Y_assign ?_
          refine XD_end ?_
          refine K_roundO (a' := [(11, _)]) (k + 1) ([(b6, rowO (ClientV.segs ⟨num, 1, true, key, ⟨num, 1, 1, 0, ⟨#[]⟩⟩, ((k + 1 : Nat) : Int)⟩) 28)]) (.cons (k := 11) rfl (.cons (k := 9) rfl (.cons (k := 6) rfl (.cons (k := 2) rfl (.nil))))) (by exact Mem.le.refl _) (fun w hw => by first | exact hw | exact hw.c) ?_ ?_
          ·exact ⟨rfl, rfl, by omega, rfl⟩
          ·omega
      ·replace hc8 := dF hc8
       refine C_exit ?_
       iterate 2 refine K_exit ?_
       refine K_hit ?_
       refine K_then ?_
       refine Y_pk [9, 6, 2] ?_
       refine C_seq ?_
       refine C_region (l := [0, 1, 2, 3, 4, 5, 6, 7, 8, 9, 10, 11]) rfl ?_
       refine Y_load F.lay28 ?_
       refine Y_move ?_
       refine X_fs rfl rfl F.ok21 rfl (Tick_ok _ hE ⟨_, _, _, _, ⟨_, _, _, _, _⟩, _⟩ budget) rfl ?_
       rintro _ rfl
       refine XD_is 69 rfl (show _ = Value.tuple #[ClientV.enc ⟨num, 1, false, key, ⟨num, 1, 1, 0, ⟨#[]⟩⟩, (k : Int)⟩, (OutcomeV.enc ⟨true, ⟨10, 0, false, ⟨#[]⟩⟩⟩), .int .i64 0] from congrArg ofTri (endsC_last hn key (by omega) (by omega))) ?_
       refine Y_move ?_
       iterate 3 refine Y_extract ?_
       refine Y_alloc F.zero28 ?_; intro b14
       refine Y_alloc F.zero45 ?_; intro b15
       refine Y_store F.lay28 ?_
       refine Y_store F.lay45 ?_
       refine Y_assign ?_
       refine XD_end ?_
       refine K_then ?_
       refine Y_pk [17, 16, 15, 6] ?_
       refine C_seq ?_
       refine C_region (l := [0, 1, 2, 3, 4, 5, 6, 7, 8, 9, 10, 11, 12, 13, 14, 15, 16, 17, 18, 19, 20]) rfl ?_
       refine X_fs rfl rfl F.ok16 rfl (clients_ok _ (by assumption)) rfl ?_
       rintro _ rfl
       refine Y_move ?_
       refine XD_part 74 rfl (fun hc16 => ?_) (fun hc16 => ?_)
       ·skip
        simp only [OpV.eta, ClientV.eta, AnswerV.eta, OutcomeV.eta, MarkV.eta, CellV.eta, ParcelV.eta, PostV.eta, PeerV.eta, StepL06V.eta] at hc16
        refine Y_move ?_
        refine Y_cmp ?_
        refine Y_pick ?_
        refine Y_move ?_
        refine XD_part 78 rfl (fun hc17 => ?_) (fun hc17 => ?_)
        ·replace hc17 := dT hc17
         simp only [OpV.eta, ClientV.eta, AnswerV.eta, OutcomeV.eta, MarkV.eta, CellV.eta, ParcelV.eta, PostV.eta, PeerV.eta, StepL06V.eta] at hc17
         refine Y_fieldAddr F.foff45_0 ?_
         refine Y_load F.lay4 ?_
         refine Y_pick ?_
         refine Y_move ?_
         refine XD_part 82 rfl (fun hc18 => ?_) (fun hc18 => ?_)
         ·skip
          simp only [OpV.eta, ClientV.eta, AnswerV.eta, OutcomeV.eta, MarkV.eta, CellV.eta, ParcelV.eta, PostV.eta, PeerV.eta, StepL06V.eta] at hc18
          refine Y_fieldAddr F.foff45_1 ?_
          refine Y_load F.lay37 ?_
          refine X_build rfl rfl F.bld37 (.cons rfl (by constructor) .nil) rfl rfl ?_
          refine X_same (m := 20) rfl rfl rfl rfl rfl (by constructor) (by constructor) F.lay37 F.kinds37 rfl F.guard37 (by exact FitAnswerV (⟨_, _, _, _⟩)) (by exact FitAnswerV (⟨_, _, _, _⟩)) rfl rfl rfl ?_; intro c19 he20
          replace he20 : c19 = true ↔ Segs.cells _ = Segs.cells _ := he20
          obtain rfl := eqD he20 (AnswerV.inj (x := ⟨_, _, _, _⟩) (y := ⟨_, _, _, _⟩)); clear he20
          refine Y_pick ?_
          refine Y_move ?_
          refine XD_part 88 rfl (fun hc21 => ?_) (fun hc21 => ?_)
          ·replace hc21 := dT hc21
           simp only [OpV.eta, ClientV.eta, AnswerV.eta, OutcomeV.eta, MarkV.eta, CellV.eta, ParcelV.eta, PostV.eta, PeerV.eta, StepL06V.eta] at hc21
           refine Y_fieldAddr F.foff28_2 ?_
           refine Y_load F.lay4 ?_
           refine Y_not ?_
           refine Y_pick ?_
           refine Y_assign ?_
           refine XD_end ?_
           refine K_then ?_
           refine Y_pk [6] ?_
           refine C_ret ?_
           refine K_end (.inr rfl) (.tmp rfl .nil) (fun w hw => ?_)
           refine ⟨_, _, rfl, (by exact Mem.le.refl _), (hw.c), ?_⟩
           clear hw
           rfl
          ·replace hc21 := dF hc21
           simp only [OpV.eta, ClientV.eta, AnswerV.eta, OutcomeV.eta, MarkV.eta, CellV.eta, ParcelV.eta, PostV.eta, PeerV.eta, StepL06V.eta] at hc21
           (exfalso; simp [eqX] at hc21; done)
         ·skip
          (exfalso; simp [eqX] at hc18; done)
        ·replace hc17 := dF hc17
         simp only [OpV.eta, ClientV.eta, AnswerV.eta, OutcomeV.eta, MarkV.eta, CellV.eta, ParcelV.eta, PostV.eta, PeerV.eta, StepL06V.eta] at hc17
         (exfalso; simp [eqX] at hc17; done)
       ·skip
        (exfalso; simp [eqX] at hc16; done)

theorem lawEnds_b (M : Mem) (num : Int) (key : Plc) (budget : Int) (hEG : EG M) (hn : 0 ≤ num ∧ num ≤ 63) (hb : ¬ (0 ≤ budget ∧ budget ≤ 200)) : Esp.Fn Tryd.prog 5 [.int .i64 num, aggV [idSeg key], .int .i64 budget] M (fun _ v => v = .bool true) := by
  have hE := hEG
  refine fn_enter Tryd.func5 rfl Tryd.ntmps5 rfl ?_; intro H
  refine C_seq ?_
  refine C_region (l := [0, 1]) rfl ?_
  refine Y_box ?_; intro b1
  refine Y_assign ?_
  refine XD_end ?_
  refine K_then ?_
  refine Y_pk [6, 4, 0, 2] ?_
  refine C_seq ?_
  refine C_region (l := [0, 1, 2, 3, 4, 5, 6, 7]) rfl ?_
  refine Y_move ?_
  refine X_fs rfl rfl F.ok12 rfl (New_ok M _) rfl ?_
  rintro _ rfl
  refine XD_is 20 rfl (show _ = Value.tuple #[ClientV.enc ⟨num, 0, false, 0, ⟨0, 0, 0, 0, ⟨#[]⟩⟩, 0⟩, .int .i64 0] from congrArg ofPair (endsC_new hn)) ?_
  refine Y_move ?_
  iterate 2 refine Y_extract ?_
  refine Y_alloc F.zero28 ?_; intro b2
  refine Y_store F.lay28 ?_
  refine Y_assign ?_
  refine XD_end ?_
  refine K_then ?_
  refine Y_pk [8, 7, 6, 4, 2] ?_
  iterate 2 refine C_seq ?_
  refine C_region (l := [0, 1, 2, 3, 4, 5, 6, 7, 8, 9]) rfl ?_
  refine Y_move ?_
  refine Y_cmp ?_
  refine Y_move ?_
  refine XD_part 25 rfl (fun hc3 => ?_) (fun hc3 => ?_)
  ·replace hc3 := nT hc3
   simp only [OpV.eta, ClientV.eta, AnswerV.eta, OutcomeV.eta, MarkV.eta, CellV.eta, ParcelV.eta, PostV.eta, PeerV.eta, StepL06V.eta] at hc3
   (exfalso; simp [eqX] at hc3; done)
  ·replace hc3 := nF hc3
   simp only [OpV.eta, ClientV.eta, AnswerV.eta, OutcomeV.eta, MarkV.eta, CellV.eta, ParcelV.eta, PostV.eta, PeerV.eta, StepL06V.eta] at hc3
   refine Y_move ?_
   refine Y_cmp ?_
   refine Y_pick ?_
   refine Y_move ?_
   refine XD_part 29 rfl (fun hc4 => ?_) (fun hc4 => ?_)
   ·replace hc4 := dT hc4
    iterate 2 refine Y_skip ?_
    refine Y_pick ?_
    refine XD_end ?_
    refine K_then ?_
    refine Y_pk [32, 7, 6, 4, 2] ?_
    refine C_true rfl ?_
    refine C_seq ?_
    refine C_region (l := [0, 1]) rfl ?_
    refine X_fs rfl rfl F.ok16 rfl (clients_ok _ (by assumption)) rfl ?_
    rintro _ rfl
    refine Y_assign ?_
    refine XD_end ?_
    refine K_then ?_
    refine Y_pk [6, 7, 4, 2] ?_
    refine C_ret ?_
    refine K_ret ?_
    refine K_end (.inr rfl) (.tmp rfl .nil) (fun w hw => ?_)
    refine ⟨_, _, rfl, (by exact Mem.le.refl _), (hw.c), ?_⟩
    clear hw
    rfl
   ·replace hc4 := dF hc4
    refine Y_move ?_
    refine Y_cmp ?_
    refine Y_pick ?_
    refine XD_end ?_
    refine K_then ?_
    refine Y_pk [32, 7, 6, 4, 2] ?_
    refine C_cond rfl (fun hc5 => ?_) (fun hc5 => ?_)
    ·replace hc5 := dT hc5
     refine C_seq ?_
     refine C_region (l := [0, 1]) rfl ?_
     refine X_fs rfl rfl F.ok16 rfl (clients_ok _ (by assumption)) rfl ?_
     rintro _ rfl
     refine Y_assign ?_
     refine XD_end ?_
     refine K_then ?_
     refine Y_pk [6, 7, 4, 2] ?_
     refine C_ret ?_
     refine K_ret ?_
     refine K_end (.inr rfl) (.tmp rfl .nil) (fun w hw => ?_)
     refine ⟨_, _, rfl, (by exact Mem.le.refl _), (hw.c), ?_⟩
     clear hw
     rfl
    ·replace hc5 := dF hc5
     (exfalso; omega)

theorem lawEnds_c (M : Mem) (num : Int) (key : Plc) (budget : Int) (hEG : EG M) (hn : ¬ (0 ≤ num ∧ num ≤ 63)) : Esp.Fn Tryd.prog 5 [.int .i64 num, aggV [idSeg key], .int .i64 budget] M (fun _ v => v = .bool true) := by
  have hE := hEG
  refine fn_enter Tryd.func5 rfl Tryd.ntmps5 rfl ?_; intro H
  refine C_seq ?_
  refine C_region (l := [0, 1]) rfl ?_
  refine Y_box ?_; intro b1
  refine Y_assign ?_
  refine XD_end ?_
  refine K_then ?_
  refine Y_pk [6, 4, 0, 2] ?_
  refine C_seq ?_
  refine C_region (l := [0, 1, 2, 3, 4, 5, 6, 7]) rfl ?_
  refine Y_move ?_
  refine X_fs rfl rfl F.ok12 rfl (New_ok M _) rfl ?_
  rintro _ rfl
  refine XD_is 20 rfl (show _ = Value.tuple #[ClientV.enc ClientV.zero, .int .i64 1] from congrArg ofPair (endsC_not hn)) ?_
  refine Y_move ?_
  iterate 2 refine Y_extract ?_
  refine Y_alloc F.zero28 ?_; intro b2
  refine Y_store F.lay28 ?_
  refine Y_assign ?_
  refine XD_end ?_
  refine K_then ?_
  refine Y_pk [8, 7, 6, 4, 2] ?_
  iterate 2 refine C_seq ?_
  refine C_region (l := [0, 1, 2, 3, 4, 5, 6, 7, 8, 9]) rfl ?_
  refine Y_move ?_
  refine Y_cmp ?_
  refine Y_move ?_
  refine XD_part 25 rfl (fun hc3 => ?_) (fun hc3 => ?_)
  ·replace hc3 := nT hc3
   iterate 2 refine Y_skip ?_
   refine Y_pick ?_
   refine Y_move ?_
   iterate 2 refine Y_skip ?_
   refine Y_pick ?_
   refine XD_end ?_
   refine K_then ?_
   refine Y_pk [32, 7, 6, 4, 2] ?_
   refine C_true rfl ?_
   refine C_seq ?_
   refine C_region (l := [0, 1]) rfl ?_
   refine X_fs rfl rfl F.ok16 rfl (clients_ok _ (by assumption)) rfl ?_
   rintro _ rfl
   refine Y_assign ?_
   refine XD_end ?_
   refine K_then ?_
   refine Y_pk [6, 7, 4, 2] ?_
   refine C_ret ?_
   refine K_ret ?_
   refine K_end (.inr rfl) (.tmp rfl .nil) (fun w hw => ?_)
   refine ⟨_, _, rfl, (by exact Mem.le.refl _), (hw.c), ?_⟩
   clear hw
   rfl
  ·replace hc3 := nF hc3
   (exfalso; omega)

theorem lawEnds_ok (M : Mem) (num : Int) (key : Plc) (budget : Int) (hEG : EG M) : Esp.Fn Tryd.prog 5 [.int .i64 num, aggV [idSeg key], .int .i64 budget] M (fun _ v => v = .bool true) := by
  by_cases hn : 0 ≤ num ∧ num ≤ 63
  ·by_cases hb : 0 ≤ budget ∧ budget ≤ 200
   ·exact lawEnds_a M num key budget hEG hn hb
   ·exact lawEnds_b M num key budget hEG hn hb
  ·exact lawEnds_c M num key budget hEG hn

end Go.Proofs.YtelpkhhfjfbkcaaDoor
