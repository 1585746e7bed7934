/-
  Texts of this claim, one behind the other: V5, V6, SetM, V7, V8, V9, WalkX, V10, WalkL, V11, V12, V13, V14, RingL.
-/
import Derived.Test.YtbjklbmmchiahaaPw4
import Derived.KernelRfl
/-
  Circles.
-/
set_option linter.unusedSimpArgs false
set_option linter.unusedVariables false
set_option linter.unnecessarySimpa false
set_option maxRecDepth 8000
set_option maxHeartbeats 1000000
namespace Go.Proofs.Ytbjklbmmchiahaa
open Go.Esp
theorem F.ok110 : okFn Try.prog 110 = true := by kernel_rfl
theorem F.ok111 : okFn Try.prog 111 = true := by kernel_rfl
theorem F.ok92 : okFn Try.prog 92 = true := by kernel_rfl
theorem F.ok95 : okFn Try.prog 95 = true := by kernel_rfl
theorem F.ok97 : okFn Try.prog 97 = true := by kernel_rfl

theorem Circ_ok (M : Mem) (l : (Sl PeerV)) (hl0 : SlK M PeerV.segs 21 l) : Fs Try.prog 92 [Sl.val l] M (fun v => v = Value.bool (decide (IsCircle l.l))) := by
  obtain ⟨l_a, l_c, l_l⟩ := l
  have k_l : SlK M PeerV.segs 21 ⟨l_a, l_c, l_l⟩ := hl0
  have s_l : SlM M l_a (l_l.map PeerV.segs) 21 := k_l.h1
  have n_l : (l_l.map PeerV.segs).length = l_l.length := List.length_map ..
  have m_l : l_l.length ≤ 9223372036854775807 := k_l.h2
  have c_l : l_l.length ≤ l_c := k_l.h3
  refine fs_enter Try.func92 rfl Try.ntmps92 rfl ?_; intro H
  refine C_seq ?_
  refine C_region (l := [0]) rfl ?_
  refine Y_assign ?_
  refine XD_end ?_
  refine K_then ?_
  iterate 2 refine C_seq ?_
  refine C_region (l := [0, 1, 2, 3, 4, 5, 6, 7]) rfl ?_
  refine Y_move ?_
  refine Y_len_sl F.elem26 ?_
  refine Y_cmp ?_
  refine Y_move ?_
  refine XD_part 9 rfl (fun hc1 => ?_) (fun hc1 => ?_)
  ·replace hc1 := dT hc1
   iterate 3 refine Y_skip ?_
   refine Y_pick ?_
   refine XD_end ?_
   refine K_then ?_
   refine Y_pk [13, 2, 0] ?_
   refine C_true rfl ?_
   refine C_seq ?_
   refine C_region (l := [0]) rfl ?_
   refine Y_assign ?_
   refine XD_end ?_
   refine K_then ?_
   refine Y_pk [2, 0] ?_
   refine C_ret ?_
   refine K_ret ?_
   refine K_end (.inr rfl) (.tmp rfl .nil) (fun w hw => ?_)
   refine ⟨_, rfl, (hw.c), ?_⟩
   clear hw
   refine congrArg Value.bool ?_
   grind [IsCircle]
  ·replace hc1 := dF hc1
   refine Y_move ?_
   refine Y_len_sl F.elem26 ?_
   refine Y_cmp ?_
   refine Y_pick ?_
   refine XD_end ?_
   refine K_then ?_
   refine Y_pk [13, 2, 0] ?_
   refine C_cond rfl (fun hc2 => ?_) (fun hc2 => ?_)
   ·replace hc2 := dT hc2
    refine C_seq ?_
    refine C_region (l := [0]) rfl ?_
    refine Y_assign ?_
    refine XD_end ?_
    refine K_then ?_
    refine Y_pk [2, 0] ?_
    refine C_ret ?_
    refine K_ret ?_
    refine K_end (.inr rfl) (.tmp rfl .nil) (fun w hw => ?_)
    refine ⟨_, rfl, (hw.c), ?_⟩
    clear hw
    refine congrArg Value.bool ?_
    grind [IsCircle]
   ·replace hc2 := dF hc2
    refine C_skip ?_
    refine K_then ?_
    refine Y_pk [2, 0] ?_
    refine C_seq ?_
    refine C_region (l := [0]) rfl ?_
    refine Y_assign ?_
    refine XD_end ?_
    refine K_then ?_
    iterate 2 refine C_seq ?_
    refine C_region (l := [0, 1, 2]) rfl ?_
    refine Y_move ?_
    refine Y_len_sl F.elem26 ?_
    refine Y_move ?_
    refine XD_end ?_
    refine K_then ?_
    refine C_block ?_
    refine Y_pk [16, 3, 15, 14, 2, 0] ?_
    refine C_loopO (Hin := []) (.succ (.succ .zero)) (by repeat first | exact Rem.here _ | exact Rem.two | apply Rem.skip | apply Rem.over) (fun (k : Nat) M1 h1 z => ∃ v, M1 = M ∧ z = [(16, .int .i64 (k : Int)), (3, v)] ∧ k ≤ l_l.length ∧ CircOk (l_l.take k) ∧ OSl 3 1 v h1 (((l_l.take k).map PeerV.addr).map (oneI .i64))) (fun k => l_l.length - k) (0) (⟨_, rfl, rfl, by omega, by simp [CircOk], OSl.nil⟩) ?_
    rintro k M1 h1 z hm1 ⟨v1, hM1, rfl, hk, hI, ho⟩
    subst hM1
    obtain ⟨ad1, cp1, rfl⟩ := ho.valL
    have hlk : (l_l.take k).length = k := by rw [List.length_take]; omega
    have hlm : (((l_l.take k).map PeerV.addr).map (oneI .i64)).length = k := by simp; omega
    refine C_seq ?_
    refine C_region (l := [0]) rfl ?_
    refine Y_cmp ?_
    refine XD_end ?_
    refine K_then ?_
    refine C_seq ?_
    refine C_cond rfl (fun hc3 => ?_) (fun hc3 => ?_)
    ·replace hc3 := dT hc3
     refine C_skip ?_
     refine K_then ?_
     refine C_seq ?_
     refine C_block ?_
     refine C_seq ?_
     refine C_region (l := [0, 1, 2, 3, 4, 5]) rfl ?_
     refine Y_move ?_
     refine X_indexAddr rfl rfl rfl rfl F.elem26 (by rfl) (by omega) (by exact SlM.plain (by assumption) (by (simp; omega))) rfl ?_
     refine X_load_el rfl rfl rfl (by assumption) (by exact row_map (by omega)) F.lay25 rfl rfl rfl ?_
     refine Y_alloc F.zero25 ?_; intro b4
     refine Y_assign ?_
     refine Y_store F.lay25 ?_
     refine XD_end ?_
     refine K_then ?_
     iterate 2 refine C_seq ?_
     refine C_region_any (l := [0, 1, 2, 3, 4, 5, 6, 7, 8, 9, 10, 11, 12, 13, 14, 15, 16, 17, 18, 19, 20, 21, 22, 23, 24, 25, 26, 27, 28, 29]) #[0, 1, 3, 7, 15, 31, 63, 127, 255, 511, 511, 1535, 4095, 8191, 16383, 32767, 65535, 131071, 262143, 262143, 786431, 2097151, 4194303, 8388607, 262143, 17039359, 67108863, 134217727, 268435455, 536870911] _ rfl (by kernel_rfl) (by kernel_rfl) St.drawn (fun _ h => h) ?_
     refine Y_fieldAddr F.foff25_0 ?_
     refine Y_load F.lay3 ?_
     refine Y_cmp ?_
     refine Y_move ?_
     refine XD_part 24 rfl (fun hc5 => ?_) (fun hc5 => ?_)
     ·replace hc5 := dT hc5
      iterate 3 refine Y_skip ?_
      refine Y_pick ?_
      refine Y_move ?_
      iterate 4 refine Y_skip ?_
      refine Y_pick ?_
      refine Y_move ?_
      iterate 14 refine Y_skip ?_
      refine Y_pick ?_
      refine XD_end ?_
      refine K_then ?_
      refine C_true rfl ?_
      refine C_seq ?_
      refine C_region (l := [0]) rfl ?_
      refine Y_assign ?_
      refine XD_end ?_
      refine K_then ?_
      refine C_ret ?_
      refine K_ret ?_
      refine K_retB ?_
      iterate 2 refine K_ret ?_
      refine K_retB ?_
      refine K_ret ?_
      refine K_end (.inr rfl) (.tmp rfl .nil) (fun w hw => ?_)
      refine ⟨_, rfl, (hw.c), ?_⟩
      clear hw
      refine congrArg Value.bool ?_
      (have hd := circ_take (l := l_l) (k := k) (by omega); have hp := circ_pre (l := l_l); grind [IsCircle])
     ·replace hc5 := dF hc5
      refine Y_fieldAddr F.foff25_0 ?_
      refine Y_load F.lay3 ?_
      refine Y_cmp ?_
      refine Y_pick ?_
      refine Y_move ?_
      refine XD_part 29 rfl (fun hc6 => ?_) (fun hc6 => ?_)
      ·replace hc6 := dT hc6
       iterate 4 refine Y_skip ?_
       refine Y_pick ?_
       refine Y_move ?_
       iterate 14 refine Y_skip ?_
       refine Y_pick ?_
       refine XD_end ?_
       refine K_then ?_
       refine C_true rfl ?_
       refine C_seq ?_
       refine C_region (l := [0]) rfl ?_
       refine Y_assign ?_
       refine XD_end ?_
       refine K_then ?_
       refine C_ret ?_
       refine K_ret ?_
       refine K_retB ?_
       iterate 2 refine K_ret ?_
       refine K_retB ?_
       refine K_ret ?_
       refine K_end (.inr rfl) (.tmp rfl .nil) (fun w hw => ?_)
       refine ⟨_, rfl, (hw.c), ?_⟩
       clear hw
       refine congrArg Value.bool ?_
       (have hd := circ_take (l := l_l) (k := k) (by omega); have hp := circ_pre (l := l_l); grind [IsCircle])
      ·replace hc6 := dF hc6
       refine Y_move ?_
       refine Y_fieldAddr F.foff25_0 ?_
       refine Y_load F.lay3 ?_
       refine X_fo rfl rfl F.ok75 rfl (ContainsI_rd _ h1 ⟨ad1, cp1, (l_l.take k).map PeerV.addr⟩ _ (ho.rd _) (by simp; omega)) (by repeat first | exact Rem.here _ | exact Rem.two | apply Rem.skip | apply Rem.over) (putE_some rfl) ?_
       rintro _ M1 _ ⟨hM1, rfl⟩; subst M1
       refine Y_pick ?_
       refine Y_move ?_
       refine XD_part 35 rfl (fun hc7 => ?_) (fun hc7 => ?_)
       ·replace hc7 := dT hc7
        simp only [PeerV.eta, TableV.eta, RouteV.eta] at hc7
        iterate 14 refine Y_skip ?_
        refine Y_pick ?_
        refine XD_end ?_
        refine K_then ?_
        refine C_true rfl ?_
        refine C_seq ?_
        refine C_region (l := [0]) rfl ?_
        refine Y_assign ?_
        refine XD_end ?_
        refine K_then ?_
        refine C_ret ?_
        refine K_ret ?_
        refine K_retB ?_
        iterate 2 refine K_ret ?_
        refine K_retB ?_
        refine K_ret ?_
        refine K_end (.inr rfl) (.tmp rfl .nil) (fun w hw => ?_)
        refine ⟨_, rfl, (hw.c), ?_⟩
        clear hw
        refine congrArg Value.bool ?_
        (have hd := circ_take (l := l_l) (k := k) (by omega); have hp := circ_pre (l := l_l); grind [IsCircle])
       ·replace hc7 := dF hc7
        simp only [PeerV.eta, TableV.eta, RouteV.eta] at hc7
        refine Y_move ?_
        refine Y_cmp ?_
        refine Y_move ?_
        refine XD_part 38 rfl (fun hc8 => ?_) (fun hc8 => ?_)
        ·replace hc8 := dT hc8
         iterate 2 refine Y_move ?_
         refine X_ari rfl rfl rfl rfl rfl (by exact wrap_in (by decide) (by omega)) rfl ?_
         refine X_indexAddr rfl rfl rfl rfl F.elem26 (by exact (Int.toNat_of_nonneg (by omega)).symm) (by omega) (by exact SlM.plain (by assumption) (by (simp; omega))) rfl ?_
         refine X_fieldAddr_el rfl rfl rfl (by exact SlM.plain (by assumption) (by (simp; omega))) F.foff25_1 rfl ?_
         refine X_load_el rfl rfl rfl (by assumption) (by exact row_map (by omega)) F.lay23 rfl rfl rfl ?_
         refine Y_fieldAddr F.foff25_1 ?_
         refine Y_load F.lay23 ?_
         refine X_fs rfl rfl F.ok59 rfl (Less_ok _ _ _) rfl ?_
         rintro _ rfl
         refine Y_not ?_
         iterate 2 refine Y_pick ?_
         refine XD_end ?_
         refine K_then ?_
         refine C_cond rfl (fun hc9 => ?_) (fun hc9 => ?_)
         ·replace hc9 := nT hc9
          refine C_seq ?_
          refine C_region (l := [0]) rfl ?_
          refine Y_assign ?_
          refine XD_end ?_
          refine K_then ?_
          refine C_ret ?_
          refine K_ret ?_
          refine K_retB ?_
          iterate 2 refine K_ret ?_
          refine K_retB ?_
          refine K_ret ?_
          refine K_end (.inr rfl) (.tmp rfl .nil) (fun w hw => ?_)
          refine ⟨_, rfl, (hw.c), ?_⟩
          clear hw
          refine congrArg Value.bool ?_
          (have hd := circ_take (l := l_l) (k := k) (by omega); have hp := circ_pre (l := l_l); grind [IsCircle])
         ·replace hc9 := nF hc9
          refine C_skip ?_
          refine K_then ?_
          refine C_region (l := [0, 1, 2, 3, 4, 5]) rfl ?_
          refine Y_move ?_
          refine Y_fieldAddr F.foff25_0 ?_
          refine Y_load F.lay3 ?_
          refine X_buildSliceF rfl rfl F.elem41 F.zero3 rfl rfl (.cons rfl (by constructor) .nil) rfl rfl (by simp only [List.map_cons, List.map_nil] <;> rfl) rfl ?_; intro b10 hob11
          refine X_append (m := 1000000) rfl rfl rfl rfl rfl F.elem41 F.zero3 (by rfl) rfl (by assumption) (by repeat first | exact Rem.here _ | exact Rem.two | apply Rem.skip | apply Rem.over) (Src.own hob11.lens (by (refine rows_one1 ?_; (repeat (first | exact flat_nil | refine flat_id ?_ | (refine flat_one ?_ ?_; rfl))); done)) rfl (by repeat first | exact List.Mem.head _ | refine List.Mem.tail _ ?_ | refine List.mem_append_right _ ?_)) (by (simp; omega)) (by decide) rfl ?_; intro v14 hs13 ho12; obtain ⟨adv14, cpv14, rfl⟩ := ho12.val
          refine Y_assign ?_
          refine XD_end ?_
          refine K_out ?_
          refine K_then ?_
          refine C_region (l := [0, 1]) rfl ?_
          refine X_ari rfl rfl rfl rfl rfl (by exact wrap_in (by decide) (by omega)) rfl ?_
          refine Y_move ?_
          refine XD_end ?_
          refine K_roundO (a' := [(16, _), (3, _)]) (k + 1) (hs13) (.cons (k := 16) rfl (.cons (k := 3) rfl (.cons (k := 15) rfl (.cons (k := 14) rfl (.cons (k := 2) rfl (.cons (k := 0) rfl (.nil))))))) (by exact Mem.le.refl _) (fun w hw => by first | exact hw | exact hw.c) ?_ ?_
          ·refine ⟨_, rfl, rfl, by omega, ?_, ?_⟩
           ·have hd := circ_take (l := l_l) (k := k) (by omega); grind
           ·have e9 : (((l_l.take (k + 1)).map PeerV.addr).map (oneI .i64)) = (((l_l.take k).map PeerV.addr).map (oneI .i64)) ++ [oneI .i64 l_l[k].addr] := by rw [take_map_succ _ (by omega), List.map_append]; rfl
            rw [e9]; assumption
          ·omega
        ·replace hc8 := dF hc8
         iterate 10 refine Y_skip ?_
         iterate 2 refine Y_pick ?_
         refine XD_end ?_
         refine K_then ?_
         refine C_false rfl ?_
         refine C_skip ?_
         refine K_then ?_
         refine C_region (l := [0, 1, 2, 3, 4, 5]) rfl ?_
         refine Y_move ?_
         refine Y_fieldAddr F.foff25_0 ?_
         refine Y_load F.lay3 ?_
         refine X_buildSliceF rfl rfl F.elem41 F.zero3 rfl rfl (.cons rfl (by constructor) .nil) rfl rfl (by simp only [List.map_cons, List.map_nil] <;> rfl) rfl ?_; intro b15 hob16
         refine X_append (m := 1000000) rfl rfl rfl rfl rfl F.elem41 F.zero3 (by rfl) rfl (by assumption) (by repeat first | exact Rem.here _ | exact Rem.two | apply Rem.skip | apply Rem.over) (Src.own hob16.lens (by (refine rows_one1 ?_; (repeat (first | exact flat_nil | refine flat_id ?_ | (refine flat_one ?_ ?_; rfl))); done)) rfl (by repeat first | exact List.Mem.head _ | refine List.Mem.tail _ ?_ | refine List.mem_append_right _ ?_)) (by (simp; omega)) (by decide) rfl ?_; intro v19 hs18 ho17; obtain ⟨adv19, cpv19, rfl⟩ := ho17.val
         refine Y_assign ?_
         refine XD_end ?_
         refine K_out ?_
         refine K_then ?_
         refine C_region (l := [0, 1]) rfl ?_
         refine X_ari rfl rfl rfl rfl rfl (by exact wrap_in (by decide) (by omega)) rfl ?_
         refine Y_move ?_
         refine XD_end ?_
         refine K_roundO (a' := [(16, _), (3, _)]) (k + 1) (hs18) (.cons (k := 16) rfl (.cons (k := 3) rfl (.cons (k := 15) rfl (.cons (k := 14) rfl (.cons (k := 2) rfl (.cons (k := 0) rfl (.nil))))))) (by exact Mem.le.refl _) (fun w hw => by first | exact hw | exact hw.c) ?_ ?_
         ·refine ⟨_, rfl, rfl, by omega, ?_, ?_⟩
          ·have hd := circ_take (l := l_l) (k := k) (by omega); grind
          ·have e9 : (((l_l.take (k + 1)).map PeerV.addr).map (oneI .i64)) = (((l_l.take k).map PeerV.addr).map (oneI .i64)) ++ [oneI .i64 l_l[k].addr] := by rw [take_map_succ _ (by omega), List.map_append]; rfl
           rw [e9]; assumption
         ·omega
    ·replace hc3 := dF hc3
     refine C_exit ?_
     iterate 2 refine K_exit ?_
     refine K_hit ?_
     refine K_then ?_
     refine Y_pk [2] ?_
     refine C_seq ?_
     refine C_region (l := [0]) rfl ?_
     refine Y_assign ?_
     refine XD_end ?_
     refine K_then ?_
     refine C_ret ?_
     refine K_end (.inr rfl) (.tmp rfl .nil) (fun w hw => ?_)
     refine ⟨_, rfl, (hw.c), ?_⟩
     clear hw
     refine congrArg Value.bool ?_
     (have hk9 : k = l_l.length := (by omega); subst hk9; grind [IsCircle, List.take_length])

theorem rCirc_ok (M : Mem) (l : (Sl PeerV)) (hl0 : SlK M PeerV.segs 21 l) : Fs Try.prog 95 [Sl.val l] M (fun v => v = Value.bool (decide (IsCircle l.l))) := by
  obtain ⟨l_a, l_c, l_l⟩ := l
  have k_l : SlK M PeerV.segs 21 ⟨l_a, l_c, l_l⟩ := hl0
  have s_l : SlM M l_a (l_l.map PeerV.segs) 21 := k_l.h1
  have n_l : (l_l.map PeerV.segs).length = l_l.length := List.length_map ..
  have m_l : l_l.length ≤ 9223372036854775807 := k_l.h2
  have c_l : l_l.length ≤ l_c := k_l.h3
  refine fs_enter Try.func95 rfl Try.ntmps95 rfl ?_; intro H
  refine C_seq ?_
  refine C_region (l := [0]) rfl ?_
  refine Y_assign ?_
  refine XD_end ?_
  refine K_then ?_
  iterate 2 refine C_seq ?_
  refine C_region (l := [0, 1, 2, 3, 4, 5, 6, 7]) rfl ?_
  refine Y_move ?_
  refine Y_len_sl F.elem26 ?_
  refine Y_cmp ?_
  refine Y_move ?_
  refine XD_part 8 rfl (fun hc1 => ?_) (fun hc1 => ?_)
  ·replace hc1 := dT hc1
   iterate 3 refine Y_skip ?_
   refine Y_pick ?_
   refine XD_end ?_
   refine K_then ?_
   refine Y_pk [12, 2, 0] ?_
   refine C_true rfl ?_
   refine C_seq ?_
   refine C_region (l := [0]) rfl ?_
   refine Y_assign ?_
   refine XD_end ?_
   refine K_then ?_
   refine Y_pk [2, 0] ?_
   refine C_ret ?_
   refine K_ret ?_
   refine K_end (.inr rfl) (.tmp rfl .nil) (fun w hw => ?_)
   refine ⟨_, rfl, (hw.c), ?_⟩
   clear hw
   refine congrArg Value.bool ?_
   grind [IsCircle]
  ·replace hc1 := dF hc1
   refine Y_move ?_
   refine Y_len_sl F.elem26 ?_
   refine Y_cmp ?_
   refine Y_pick ?_
   refine XD_end ?_
   refine K_then ?_
   refine Y_pk [12, 2, 0] ?_
   refine C_cond rfl (fun hc2 => ?_) (fun hc2 => ?_)
   ·replace hc2 := dT hc2
    refine C_seq ?_
    refine C_region (l := [0]) rfl ?_
    refine Y_assign ?_
    refine XD_end ?_
    refine K_then ?_
    refine Y_pk [2, 0] ?_
    refine C_ret ?_
    refine K_ret ?_
    refine K_end (.inr rfl) (.tmp rfl .nil) (fun w hw => ?_)
    refine ⟨_, rfl, (hw.c), ?_⟩
    clear hw
    refine congrArg Value.bool ?_
    grind [IsCircle]
   ·replace hc2 := dF hc2
    refine C_skip ?_
    refine K_then ?_
    refine Y_pk [2, 0] ?_
    iterate 2 refine C_seq ?_
    refine C_region (l := [0]) rfl ?_
    refine Y_assign ?_
    refine XD_end ?_
    refine K_then ?_
    refine C_block ?_
    refine Y_pk [3, 2, 0] ?_
    refine C_loopS (.succ .zero) (fun (k : Nat) z => z = [(3, .int .i64 (k : Int))] ∧ k ≤ l_l.length ∧ ((1 ≤ l_l.length ∧ l_l.length ≤ 16) ∧ CircOk (l_l.take k))) (fun k => l_l.length - k) (0) (⟨rfl, by omega, by (refine ⟨by omega, ?_⟩; simp [CircOk])⟩) ?_
    rintro k _ ⟨rfl, hk, hI⟩
    have hlk : (l_l.take k).length = k := by rw [List.length_take]; omega
    iterate 2 refine C_seq ?_
    refine C_region (l := [0, 1, 2, 3]) rfl ?_
    iterate 2 refine Y_move ?_
    refine Y_len_sl F.elem26 ?_
    refine Y_cmp ?_
    refine XD_end ?_
    refine K_then ?_
    refine C_cond rfl (fun hc3 => ?_) (fun hc3 => ?_)
    ·replace hc3 := dT hc3
     refine C_skip ?_
     refine K_then ?_
     refine C_seq ?_
     refine C_block ?_
     iterate 2 refine C_seq ?_
     refine C_region_any (l := [0, 1, 2, 3, 4, 5, 6, 7, 8, 9, 10, 11, 12, 13, 14, 15, 16, 17, 18, 19, 20, 21, 22, 23, 24, 25, 26, 27, 28, 29, 30, 31, 32]) #[0, 0, 3, 7, 15, 31, 63, 127, 127, 511, 1023, 2047, 4095, 8191, 16383, 32767, 65535, 131071, 262143, 262143, 786431, 2097151, 4194303, 8388607, 262143, 262143, 50593791, 117702655, 251920383, 536870911, 1073741823, 2147483647, 4294967295] _ rfl (by kernel_rfl) (by kernel_rfl) St.drawn (fun _ h => h) ?_
     iterate 2 refine Y_move ?_
     refine X_indexAddr rfl rfl rfl rfl F.elem26 (by rfl) (by omega) (by exact SlM.plain (by assumption) (by (simp; omega))) rfl ?_
     refine X_fieldAddr_el rfl rfl rfl (by exact SlM.plain (by assumption) (by (simp; omega))) F.foff25_0 rfl ?_
     refine X_load_el rfl rfl rfl (by assumption) (by exact row_map (by omega)) F.lay3 rfl rfl rfl ?_
     refine Y_cmp ?_
     refine Y_move ?_
     refine XD_part 25 rfl (fun hc4 => ?_) (fun hc4 => ?_)
     ·replace hc4 := dT hc4
      iterate 6 refine Y_skip ?_
      refine Y_pick ?_
      refine Y_move ?_
      iterate 17 refine Y_skip ?_
      refine Y_pick ?_
      refine XD_end ?_
      refine K_then ?_
      refine C_true rfl ?_
      refine C_seq ?_
      refine C_region (l := [0]) rfl ?_
      refine Y_assign ?_
      refine XD_end ?_
      refine K_then ?_
      refine C_ret ?_
      refine K_ret ?_
      refine K_retB ?_
      iterate 2 refine K_ret ?_
      refine K_retB ?_
      refine K_ret ?_
      refine K_end (.inr rfl) (.tmp rfl .nil) (fun w hw => ?_)
      refine ⟨_, rfl, (hw.c), ?_⟩
      clear hw
      refine congrArg Value.bool ?_
      (have hd := circ_take (l := l_l) (k := k) (by omega); have hp := circ_pre (l := l_l); grind [IsCircle, mem_map_take])
     ·replace hc4 := dF hc4
      iterate 2 refine Y_move ?_
      refine X_indexAddr rfl rfl rfl rfl F.elem26 (by rfl) (by omega) (by exact SlM.plain (by assumption) (by (simp; omega))) rfl ?_
      refine X_fieldAddr_el rfl rfl rfl (by exact SlM.plain (by assumption) (by (simp; omega))) F.foff25_0 rfl ?_
      refine X_load_el rfl rfl rfl (by assumption) (by exact row_map (by omega)) F.lay3 rfl rfl rfl ?_
      refine Y_cmp ?_
      refine Y_pick ?_
      refine Y_move ?_
      refine XD_part 33 rfl (fun hc5 => ?_) (fun hc5 => ?_)
      ·replace hc5 := dT hc5
       iterate 17 refine Y_skip ?_
       refine Y_pick ?_
       refine XD_end ?_
       refine K_then ?_
       refine C_true rfl ?_
       refine C_seq ?_
       refine C_region (l := [0]) rfl ?_
       refine Y_assign ?_
       refine XD_end ?_
       refine K_then ?_
       refine C_ret ?_
       refine K_ret ?_
       refine K_retB ?_
       iterate 2 refine K_ret ?_
       refine K_retB ?_
       refine K_ret ?_
       refine K_end (.inr rfl) (.tmp rfl .nil) (fun w hw => ?_)
       refine ⟨_, rfl, (hw.c), ?_⟩
       clear hw
       refine congrArg Value.bool ?_
       (have hd := circ_take (l := l_l) (k := k) (by omega); have hp := circ_pre (l := l_l); grind [IsCircle, mem_map_take])
      ·replace hc5 := dF hc5
       refine Y_move ?_
       refine Y_cmp ?_
       refine Y_move ?_
       refine XD_part 36 rfl (fun hc6 => ?_) (fun hc6 => ?_)
       ·replace hc6 := dT hc6
        iterate 2 refine Y_move ?_
        refine X_ari rfl rfl rfl rfl rfl (by exact wrap_in (by decide) (by omega)) rfl ?_
        refine X_indexAddr rfl rfl rfl rfl F.elem26 (by exact (Int.toNat_of_nonneg (by omega)).symm) (by omega) (by exact SlM.plain (by assumption) (by (simp; omega))) rfl ?_
        refine X_fieldAddr_el rfl rfl rfl (by exact SlM.plain (by assumption) (by (simp; omega))) F.foff25_1 rfl ?_
        refine X_load_el rfl rfl rfl (by assumption) (by exact row_map (by omega)) F.lay23 rfl rfl rfl ?_
        iterate 2 refine Y_move ?_
        refine X_indexAddr rfl rfl rfl rfl F.elem26 (by rfl) (by omega) (by exact SlM.plain (by assumption) (by (simp; omega))) rfl ?_
        refine X_fieldAddr_el rfl rfl rfl (by exact SlM.plain (by assumption) (by (simp; omega))) F.foff25_1 rfl ?_
        refine X_load_el rfl rfl rfl (by assumption) (by exact row_map (by omega)) F.lay23 rfl rfl rfl ?_
        refine X_fs rfl rfl F.ok77 rfl (rLess_ok _ _ _) rfl ?_
        rintro _ rfl
        refine Y_not ?_
        iterate 2 refine Y_pick ?_
        refine XD_end ?_
        refine K_then ?_
        refine C_cond rfl (fun hc7 => ?_) (fun hc7 => ?_)
        ·replace hc7 := nT hc7
         refine C_seq ?_
         refine C_region (l := [0]) rfl ?_
         refine Y_assign ?_
         refine XD_end ?_
         refine K_then ?_
         refine C_ret ?_
         refine K_ret ?_
         refine K_retB ?_
         iterate 2 refine K_ret ?_
         refine K_retB ?_
         refine K_ret ?_
         refine K_end (.inr rfl) (.tmp rfl .nil) (fun w hw => ?_)
         refine ⟨_, rfl, (hw.c), ?_⟩
         clear hw
         refine congrArg Value.bool ?_
         (have hd := circ_take (l := l_l) (k := k) (by omega); have hp := circ_pre (l := l_l); grind [IsCircle, mem_map_take])
        ·replace hc7 := nF hc7
         refine C_skip ?_
         refine K_then ?_
         refine C_seq ?_
         refine C_region (l := [0]) rfl ?_
         refine Y_assign ?_
         refine XD_end ?_
         refine K_then ?_
         refine C_block ?_
         refine Y_pk [4, 51, 50, 49, 48, 47, 46, 45, 44, 43, 42, 41, 40, 39, 38, 37, 36, 35, 34, 33, 32, 31, 30, 29, 28, 27, 26, 25, 24, 23, 22, 21, 20, 19, 16, 15, 14, 13, 3, 2, 0] ?_
         refine C_loopS (.succ .zero) (fun (j : Nat) z => z = [(4, .int .i64 (j : Int))] ∧ j ≤ k ∧ l_l[k].addr ∉ (l_l.take j).map PeerV.addr) (fun j => k - j) (0) (⟨rfl, by omega, by simp⟩) ?_
         rintro j _ ⟨rfl, hj, hJ⟩
         iterate 2 refine C_seq ?_
         refine C_region (l := [0, 1, 2]) rfl ?_
         iterate 2 refine Y_move ?_
         refine Y_cmp ?_
         refine XD_end ?_
         refine K_then ?_
         refine C_cond rfl (fun hc8 => ?_) (fun hc8 => ?_)
         ·replace hc8 := dT hc8
          refine C_skip ?_
          refine K_then ?_
          refine C_seq ?_
          refine C_block ?_
          refine C_seq ?_
          refine C_region_any (l := [0, 1, 2, 3, 4, 5, 6, 7, 8, 9, 10]) #[0, 0, 3, 7, 15, 0, 0, 96, 224, 480, 1023] _ rfl (by kernel_rfl) (by kernel_rfl) St.drawn (fun _ h => h) ?_
          iterate 2 refine Y_move ?_
          refine X_indexAddr rfl rfl rfl rfl F.elem26 (by rfl) (by omega) (by exact SlM.plain (by assumption) (by (simp; omega))) rfl ?_
          refine X_fieldAddr_el rfl rfl rfl (by exact SlM.plain (by assumption) (by (simp; omega))) F.foff25_0 rfl ?_
          refine X_load_el rfl rfl rfl (by assumption) (by exact row_map (by omega)) F.lay3 rfl rfl rfl ?_
          iterate 2 refine Y_move ?_
          refine X_indexAddr rfl rfl rfl rfl F.elem26 (by rfl) (by omega) (by exact SlM.plain (by assumption) (by (simp; omega))) rfl ?_
          refine X_fieldAddr_el rfl rfl rfl (by exact SlM.plain (by assumption) (by (simp; omega))) F.foff25_0 rfl ?_
          refine X_load_el rfl rfl rfl (by assumption) (by exact row_map (by omega)) F.lay3 rfl rfl rfl ?_
          refine Y_cmp ?_
          refine XD_end ?_
          refine K_then ?_
          refine C_cond rfl (fun hc9 => ?_) (fun hc9 => ?_)
          ·replace hc9 := dT hc9
           refine C_seq ?_
           refine C_region (l := [0]) rfl ?_
           refine Y_assign ?_
           refine XD_end ?_
           refine K_then ?_
           refine C_ret ?_
           refine K_retB ?_
           iterate 2 refine K_ret ?_
           iterate 2 refine K_retB ?_
           iterate 2 refine K_ret ?_
           refine K_retB ?_
           refine K_ret ?_
           refine K_end (.inr rfl) (.tmp rfl .nil) (fun w hw => ?_)
           refine ⟨_, rfl, (hw.c), ?_⟩
           clear hw
           refine congrArg Value.bool ?_
           (have hd := circ_take (l := l_l) (k := k) (by omega); have hp := circ_pre (l := l_l); grind [IsCircle, mem_map_take])
          ·replace hc9 := dF hc9
           refine C_skip ?_
           refine K_out ?_
           refine K_then ?_
           refine C_region (l := [0, 1, 2]) rfl ?_
           refine Y_move ?_
           refine X_ari rfl rfl rfl rfl rfl (by exact wrap_in (by decide) (by omega)) rfl ?_
           refine Y_assign ?_
           refine XD_end ?_
           refine K_roundS (a' := [(4, _)]) (j + 1) (.cons (k := 4) rfl (.cons (k := 51) rfl (.cons (k := 50) rfl (.cons (k := 49) rfl (.cons (k := 48) rfl (.cons (k := 47) rfl (.cons (k := 46) rfl (.cons (k := 45) rfl (.cons (k := 44) rfl (.cons (k := 43) rfl (.cons (k := 42) rfl (.cons (k := 41) rfl (.cons (k := 40) rfl (.cons (k := 39) rfl (.cons (k := 38) rfl (.cons (k := 37) rfl (.cons (k := 36) rfl (.cons (k := 35) rfl (.cons (k := 34) rfl (.cons (k := 33) rfl (.cons (k := 32) rfl (.cons (k := 31) rfl (.cons (k := 30) rfl (.cons (k := 29) rfl (.cons (k := 28) rfl (.cons (k := 27) rfl (.cons (k := 26) rfl (.cons (k := 25) rfl (.cons (k := 24) rfl (.cons (k := 23) rfl (.cons (k := 22) rfl (.cons (k := 21) rfl (.cons (k := 20) rfl (.cons (k := 19) rfl (.cons (k := 16) rfl (.cons (k := 15) rfl (.cons (k := 14) rfl (.cons (k := 13) rfl (.cons (k := 3) rfl (.cons (k := 2) rfl (.cons (k := 0) rfl (.nil)))))))))))))))))))))))))))))))))))))))))) (fun w hw => by first | exact hw | exact hw.c) ?_ ?_
           ·refine ⟨rfl, by omega, ?_⟩
            exact not_mem_step (by omega) hJ (by assumption)
           ·omega
         ·replace hc8 := dF hc8
          refine C_exit ?_
          iterate 2 refine K_exit ?_
          refine K_hit ?_
          refine K_out ?_
          refine K_then ?_
          refine C_region (l := [0, 1, 2]) rfl ?_
          refine Y_move ?_
          refine X_ari rfl rfl rfl rfl rfl (by exact wrap_in (by decide) (by omega)) rfl ?_
          refine Y_assign ?_
          refine XD_end ?_
          refine K_roundS (a' := [(3, _)]) (k + 1) (.cons (k := 3) rfl (.cons (k := 2) rfl (.cons (k := 0) rfl (.nil)))) (fun w hw => by first | exact hw | exact hw.c) ?_ ?_
          ·refine ⟨rfl, by omega, ?_⟩
           have hd := circ_take (l := l_l) (k := k) (by omega); have hj9 : j = k := (by omega); subst hj9; grind
          ·omega
       ·replace hc6 := dF hc6
        iterate 13 refine Y_skip ?_
        iterate 2 refine Y_pick ?_
        refine XD_end ?_
        refine K_then ?_
        refine C_false rfl ?_
        refine C_skip ?_
        refine K_then ?_
        refine C_seq ?_
        refine C_region (l := [0]) rfl ?_
        refine Y_assign ?_
        refine XD_end ?_
        refine K_then ?_
        refine C_block ?_
        refine Y_pk [4, 51, 50, 49, 48, 47, 46, 45, 44, 43, 42, 41, 40, 39, 38, 37, 36, 35, 34, 33, 32, 31, 30, 29, 28, 27, 26, 25, 24, 23, 22, 21, 20, 19, 16, 15, 14, 13, 3, 2, 0] ?_
        refine C_loopS (.succ .zero) (fun (j : Nat) z => z = [(4, .int .i64 (j : Int))] ∧ j ≤ k ∧ l_l[k].addr ∉ (l_l.take j).map PeerV.addr) (fun j => k - j) (0) (⟨rfl, by omega, by simp⟩) ?_
        rintro j _ ⟨rfl, hj, hJ⟩
        iterate 2 refine C_seq ?_
        refine C_region (l := [0, 1, 2]) rfl ?_
        iterate 2 refine Y_move ?_
        refine Y_cmp ?_
        refine XD_end ?_
        refine K_then ?_
        refine C_cond rfl (fun hc10 => ?_) (fun hc10 => ?_)
        ·replace hc10 := dT hc10
         (exfalso; omega)
        ·replace hc10 := dF hc10
         refine C_exit ?_
         iterate 2 refine K_exit ?_
         refine K_hit ?_
         refine K_out ?_
         refine K_then ?_
         refine C_region (l := [0, 1, 2]) rfl ?_
         refine Y_move ?_
         refine X_ari rfl rfl rfl rfl rfl (by exact wrap_in (by decide) (by omega)) rfl ?_
         refine Y_assign ?_
         refine XD_end ?_
         refine K_roundS (a' := [(3, _)]) (k + 1) (.cons (k := 3) rfl (.cons (k := 2) rfl (.cons (k := 0) rfl (.nil)))) (fun w hw => by first | exact hw | exact hw.c) ?_ ?_
         ·refine ⟨rfl, by omega, ?_⟩
          have hd := circ_take (l := l_l) (k := k) (by omega); have hj9 : j = k := (by omega); subst hj9; grind
         ·omega
    ·replace hc3 := dF hc3
     refine C_exit ?_
     iterate 2 refine K_exit ?_
     refine K_hit ?_
     refine K_then ?_
     refine Y_pk [2] ?_
     refine C_seq ?_
     refine C_region (l := [0]) rfl ?_
     refine Y_assign ?_
     refine XD_end ?_
     refine K_then ?_
     refine C_ret ?_
     refine K_end (.inr rfl) (.tmp rfl .nil) (fun w hw => ?_)
     refine ⟨_, rfl, (hw.c), ?_⟩
     clear hw
     refine congrArg Value.bool ?_
     (have hk9 : k = l_l.length := (by omega); subst hk9; grind [IsCircle, List.take_length])

theorem Search_ok (M : Mem) (Hin : Hp) (g : FuncId) (caps : List Value) (p : Nat → Bool) (n : Nat) (hn : n ≤ 1000000000) (hok : okFn Try.prog g = true) (hc : ∀ i, i < n → Fo Try.prog g ([.int .i64 (i : Int)] ++ caps) M Hin (fun M' v => M' = M ∧ v = .bool (p i))) (hmono : ∀ i j, i ≤ j → j < n → p i = true → p j = true) : Fo Try.prog 110 [.int .i64 (n : Int), .func (.func g) #[] caps.toArray] M Hin (fun M' v => M' = M ∧ v = .int .i64 (firstP p n : Nat)) := by
  refine fo_enter Try.func110 rfl Try.ntmps110 rfl ?_; intro H
  refine C_seq ?_
  refine C_region (l := [0]) rfl ?_
  refine Y_assign ?_
  refine XD_end ?_
  refine K_then ?_
  refine C_seq ?_
  refine C_region (l := [0, 1, 2]) rfl ?_
  refine Y_move ?_
  iterate 2 refine Y_assign ?_
  refine XD_end ?_
  refine K_then ?_
  refine Y_pk [6, 5, 4, 1] ?_
  refine C_seq ?_
  refine C_block ?_
  refine Y_pk [5, 6, 4, 1] ?_
  refine C_loopS (.succ (.succ .zero)) (fun (x : Nat × Nat) z => z = [(5, .int .i64 (x.1 : Int)), (6, .int .i64 (x.2 : Int))] ∧ x.1 ≤ x.2 ∧ x.2 ≤ n ∧ (∀ y, y < x.1 → p y = false) ∧ (x.2 < n → p x.2 = true)) (fun x => x.2 - x.1) ((0, n)) (⟨rfl, Nat.zero_le _, Nat.le_refl _, fun y h => (by cases h), fun h => (by omega)⟩) ?_
  rintro ⟨a, b⟩ z ⟨hz, h1, h2, h3, h4⟩
  simp only at hz h1 h2 h3 h4
  subst hz
  iterate 2 refine C_seq ?_
  refine C_region (l := [0, 1, 2]) rfl ?_
  iterate 2 refine Y_move ?_
  refine Y_cmp ?_
  refine XD_end ?_
  refine K_then ?_
  refine C_cond rfl (fun hc1 => ?_) (fun hc1 => ?_)
  ·skip
   replace hc1 := dT hc1
   refine C_skip ?_
   refine K_then ?_
   refine C_block ?_
   refine C_seq ?_
   refine C_region (l := [0, 1, 2, 3, 4, 5, 6]) rfl ?_
   iterate 2 refine Y_move ?_
   refine X_ari rfl rfl rfl rfl rfl (by exact wrap_in (by decide) (by omega)) rfl ?_
   refine X_conv rfl rfl rfl Try.underlying3 Try.underlying99 (by exact wrap_u64_in (by decide) (by omega)) rfl ?_
   refine X_shift rfl rfl rfl rfl (by decide) (shr_lit 1 (by decide)) rfl rfl ?_
   refine X_conv rfl rfl rfl Try.underlying99 Try.underlying3 (by exact wrap_in (by decide) (by omega)) rfl ?_
   have e9 : ((a : Int) + (b : Int)) / 2 ^ 1 = (((a + b) / 2 : Nat) : Int) := by omega
   rw [e9]
   refine Y_assign ?_
   refine XD_end ?_
   refine K_then ?_
   refine C_seq ?_
   refine C_region (l := [0, 1, 2, 3]) rfl ?_
   iterate 2 refine Y_move ?_
   have hab : a < b := by omega
   refine X_foV rfl rfl rfl hok rfl rfl (hc ((a + b) / 2) (by omega)) (by repeat first | exact Rem.here _ | exact Rem.two | apply Rem.skip | apply Rem.over) (putE_some rfl) ?_
   rintro _ M1 _ ⟨hM1, rfl⟩; subst M1
   refine Y_not ?_
   refine XD_end ?_
   refine K_then ?_
   refine C_cond rfl (fun hc2 => ?_) (fun hc2 => ?_)
   ·simp only [Bool.not_eq_true', Bool.not_eq_false'] at hc2
    have hP := hc2
    refine C_region (l := [0, 1, 2]) rfl ?_
    refine Y_move ?_
    refine X_ari rfl rfl rfl rfl rfl (by exact wrap_in (by decide) (by omega)) rfl ?_
    refine Y_assign ?_
    refine XD_end ?_
    refine K_out ?_
    refine K_roundS (a' := [(5, _), (6, _)]) (((a + b) / 2 + 1, b)) (.cons (k := 5) rfl (.cons (k := 6) rfl (.cons (k := 4) rfl (.cons (k := 1) rfl (.nil))))) (fun w hw => by first | exact hw | exact hw.c) ?_ ?_
    ·refine ⟨rfl, (by show (a + b) / 2 + 1 ≤ b; omega), h2, fun y hy => ?_, h4⟩
     have hy2 : y < (a + b) / 2 + 1 := hy
     cases hpy : p y with
     |false => rfl
     |true => have := hmono y ((a + b) / 2) (by omega) (by omega) hpy; simp_all
    ·show b - ((a + b) / 2 + 1) < b - a; omega
   ·simp only [Bool.not_eq_true', Bool.not_eq_false'] at hc2
    have hP := hc2
    refine C_region (l := [0, 1]) rfl ?_
    refine Y_move ?_
    refine Y_assign ?_
    refine XD_end ?_
    refine K_out ?_
    refine K_roundS (a' := [(5, _), (6, _)]) ((a, (a + b) / 2)) (.cons (k := 5) rfl (.cons (k := 6) rfl (.cons (k := 4) rfl (.cons (k := 1) rfl (.nil))))) (fun w hw => by first | exact hw | exact hw.c) ?_ ?_
    ·exact ⟨rfl, (by show a ≤ (a + b) / 2; omega), (by show (a + b) / 2 ≤ n; omega), h3, fun _ => by simpa using hP⟩
    ·show (a + b) / 2 - a < b - a; omega
  ·skip
   replace hc1 := dF hc1
   refine C_exit ?_
   iterate 2 refine K_exit ?_
   refine K_hit ?_
   refine K_then ?_
   refine Y_pk [5, 4] ?_
   refine C_seq ?_
   refine C_region (l := [0, 1]) rfl ?_
   refine Y_move ?_
   refine Y_assign ?_
   refine XD_end ?_
   refine K_then ?_
   refine Y_pk [4] ?_
   refine C_ret ?_
   refine K_end (.inr rfl) (.tmp rfl .nil) (fun w hw => ?_)
   refine ⟨_, M, rfl, Mem.le.refl M, hw.c, rfl, ?_⟩
   refine congrArg (Value.int .i64) ?_
   have e : a = b := by omega
   subst e
   exact congrArg Nat.cast (firstP_at h2 h3 h4).symm

theorem own1_ok (M : Mem) (b1 b2 : Nat) (l : Sl PeerV) (x : Plc) (s_l : SlM M l.a (l.l.map PeerV.segs) 21) (i : Nat) (hi : i < l.l.length) : Fo Try.prog 111 ([.int .i64 (i : Int)] ++ [.pointer (some ⟨b1, 0, none⟩), .pointer (some ⟨b2, 0, none⟩)]) M [(b2, rowO [idSeg x] 23), (b1, rowO [.one l.val] 26)] (fun M' v => M' = M ∧ v = .bool (pO l.l x i)) := by
  obtain ⟨l_a, l_c, l_l⟩ := l
  simp only at s_l hi
  have n_l : (l_l.map PeerV.segs).length = l_l.length := List.length_map ..
  refine fo_enter Try.func111 rfl Try.ntmps111 rfl ?_; intro H
  refine C_seq ?_
  refine C_region (l := [0]) rfl ?_
  refine Y_assign ?_
  refine XD_end ?_
  refine K_then ?_
  refine C_seq ?_
  refine C_region_any (l := [0, 1, 2, 3, 4, 5, 6, 7, 8]) #[0, 0, 3, 7, 15, 0, 63, 127, 255] _ rfl (by kernel_rfl) (by kernel_rfl) St.drawn (fun _ h => h) ?_
  refine Y_load F.lay26 ?_
  refine Y_move ?_
  refine X_indexAddr rfl rfl rfl rfl F.elem26 (by rfl) (by omega) (by exact SlM.plain (by assumption) (by (simp; omega))) rfl ?_
  refine X_fieldAddr_el rfl rfl rfl (by exact SlM.plain (by assumption) (by (simp; omega))) F.foff25_1 rfl ?_
  refine X_load_el rfl rfl rfl (by assumption) (by exact row_map (by omega)) F.lay23 rfl rfl rfl ?_
  refine Y_load F.lay23 ?_
  refine X_fs rfl rfl F.ok59 rfl (Less_ok _ _ _) rfl ?_
  rintro _ rfl
  refine Y_not ?_
  refine Y_assign ?_
  refine XD_end ?_
  refine K_then ?_
  refine Y_pk [4] ?_
  refine C_ret ?_
  refine K_end (.inr rfl) (.tmp rfl .nil) (fun w hw => ?_)
  exact ⟨_, M, rfl, Mem.le.refl M, hw.c, rfl, congrArg Value.bool (by rw [pO_at hi]; simp)⟩

theorem owner_ok (M : Mem) (l : (Sl PeerV)) (x : Plc) (hl0 : SlK M PeerV.segs 21 l) (hc : IsCircle l.l) : Fs Try.prog 97 [Sl.val l, aggV [idSeg x]] M (fun v => v = Value.int .i64 (((ownerI l.l x : Nat) : Int))) := by
  obtain ⟨l_a, l_c, l_l⟩ := l
  have k_l : SlK M PeerV.segs 21 ⟨l_a, l_c, l_l⟩ := hl0
  have s_l : SlM M l_a (l_l.map PeerV.segs) 21 := k_l.h1
  have n_l : (l_l.map PeerV.segs).length = l_l.length := List.length_map ..
  have m_l : l_l.length ≤ 9223372036854775807 := k_l.h2
  have c_l : l_l.length ≤ l_c := k_l.h3
  have hc1 := hc.1
  simp only at hc1
  refine fs_enter Try.func97 rfl Try.ntmps97 rfl ?_; intro H
  refine C_seq ?_
  refine C_region (l := [0, 1, 2]) rfl ?_
  refine Y_box ?_; intro b1
  refine Y_box ?_; intro b2
  refine Y_assign ?_
  refine XD_end ?_
  refine K_then ?_
  refine Y_pk [4, 3, 2] ?_
  refine C_seq ?_
  refine C_region_any (l := [0, 1, 2, 3, 4, 5, 6, 7]) #[0, 1, 0, 7, 0, 16, 63, 127] _ rfl (by kernel_rfl) (by kernel_rfl) St.drawn (fun _ h => h) ?_
  refine Y_load F.lay26 ?_
  refine Y_len_sl F.elem26 ?_
  refine X_makeFunc rfl rfl rfl rfl rfl ?_
  refine X_fo rfl rfl F.ok110 rfl (Search_ok _ _ 111 [_, _] (pO l_l x) l_l.length (by omega) F.ok111 (fun i hi => own1_ok M _ _ ⟨l_a, l_c, l_l⟩ x s_l i hi) (pO_mono hc.2)) (by repeat first | exact Rem.here _ | exact Rem.two | apply Rem.skip | apply Rem.over) (putE_some rfl) ?_
  rintro _ M1 _ ⟨hM1, rfl⟩; subst M1
  refine Y_load F.lay26 ?_
  refine Y_len_sl F.elem26 ?_
  refine X_rem rfl rfl rfl rfl (by omega) (by exact rem_nn (by omega)) rfl ?_
  refine Y_assign ?_
  refine XD_end ?_
  refine K_then ?_
  refine Y_pk [4] ?_
  refine C_ret ?_
  refine K_end (.inr rfl) (.tmp rfl .nil) (fun w hw => ?_)
  refine ⟨_, rfl, (hw.c), ?_⟩
  clear hw
  exact congrArg (Value.int .i64) (Int.natCast_emod _ _).symm

theorem Owner_ok (M : Mem) (l : (Sl PeerV)) (x : Plc) (hl0 : SlK M PeerV.segs 21 l) : Fs Try.prog 55 [Sl.val l, aggV [idSeg x]] M (fun v => v = ofII (ownerR l.l x)) := by
  obtain ⟨l_a, l_c, l_l⟩ := l
  have k_l : SlK M PeerV.segs 21 ⟨l_a, l_c, l_l⟩ := hl0
  have s_l : SlM M l_a (l_l.map PeerV.segs) 21 := k_l.h1
  have n_l : (l_l.map PeerV.segs).length = l_l.length := List.length_map ..
  have m_l : l_l.length ≤ 9223372036854775807 := k_l.h2
  have c_l : l_l.length ≤ l_c := k_l.h3
  refine fs_enter Try.func55 rfl Try.ntmps55 rfl ?_; intro H
  refine C_seq ?_
  refine C_region (l := [0, 1, 2]) rfl ?_
  refine Y_box ?_; intro b1
  iterate 2 refine Y_assign ?_
  refine XD_end ?_
  refine K_then ?_
  refine Y_pk [5, 4, 3, 0] ?_
  iterate 2 refine C_seq ?_
  refine C_region (l := [0, 1, 2]) rfl ?_
  refine Y_move ?_
  refine X_fs rfl rfl F.ok92 rfl (Circ_ok _ ⟨_, _, _⟩ (by assumption)) rfl ?_
  rintro _ rfl
  refine Y_not ?_
  refine XD_end ?_
  refine K_then ?_
  refine Y_pk [8, 5, 4, 3, 0] ?_
  refine C_cond rfl (fun hc2 => ?_) (fun hc2 => ?_)
  ·replace hc2 := nT hc2
   simp only [PeerV.eta, TableV.eta, RouteV.eta] at hc2
   refine C_seq ?_
   refine C_region (l := [0, 1]) rfl ?_
   iterate 2 refine Y_assign ?_
   refine XD_end ?_
   refine K_then ?_
   refine Y_pk [5, 4, 3, 0] ?_
   refine C_ret ?_
   refine K_ret ?_
   refine K_end (.inr rfl) (.tmp rfl (.tmp rfl .nil)) (fun w hw => ?_)
   refine ⟨_, rfl, (hw.c), ?_⟩
   clear hw
   refine congrArg ofII (a₁ := (_, _)) ?_
   grind [w64, ownerR]
  ·replace hc2 := nF hc2
   simp only [PeerV.eta, TableV.eta, RouteV.eta] at hc2
   refine C_skip ?_
   refine K_then ?_
   refine Y_pk [5, 4, 3, 0] ?_
   refine C_seq ?_
   refine C_region (l := [0, 1, 2, 3, 4]) rfl ?_
   refine Y_move ?_
   refine Y_load F.lay23 ?_
   refine X_fs rfl rfl F.ok97 rfl (owner_ok _ ⟨_, _, _⟩ _ (by assumption) (by assumption)) rfl ?_
   rintro _ rfl
   iterate 2 refine Y_assign ?_
   refine XD_end ?_
   refine K_then ?_
   refine Y_pk [5, 4] ?_
   refine C_ret ?_
   refine K_end (.inr rfl) (.tmp rfl (.tmp rfl .nil)) (fun w hw => ?_)
   refine ⟨_, rfl, (hw.c), ?_⟩
   clear hw
   refine congrArg ofII (a₁ := (_, _)) ?_
   grind [w64, ownerR]

theorem rOwner_ok (M : Mem) (l : (Sl PeerV)) (x : Plc) (hl0 : SlK M PeerV.segs 21 l) : Fs Try.prog 109 [Sl.val l, aggV [idSeg x]] M (fun v => v = ofII (ownerR l.l x)) := by
  obtain ⟨l_a, l_c, l_l⟩ := l
  have k_l : SlK M PeerV.segs 21 ⟨l_a, l_c, l_l⟩ := hl0
  have s_l : SlM M l_a (l_l.map PeerV.segs) 21 := k_l.h1
  have n_l : (l_l.map PeerV.segs).length = l_l.length := List.length_map ..
  have m_l : l_l.length ≤ 9223372036854775807 := k_l.h2
  have c_l : l_l.length ≤ l_c := k_l.h3
  refine fs_enter Try.func109 rfl Try.ntmps109 rfl ?_; intro H
  refine C_seq ?_
  refine C_region (l := [0, 1, 2]) rfl ?_
  refine Y_box ?_; intro b1
  iterate 2 refine Y_assign ?_
  refine XD_end ?_
  refine K_then ?_
  refine Y_pk [5, 4, 3, 0] ?_
  iterate 2 refine C_seq ?_
  refine C_region (l := [0, 1, 2]) rfl ?_
  refine Y_move ?_
  refine X_fs rfl rfl F.ok95 rfl (rCirc_ok _ ⟨_, _, _⟩ (by assumption)) rfl ?_
  rintro _ rfl
  refine Y_not ?_
  refine XD_end ?_
  refine K_then ?_
  refine Y_pk [9, 5, 4, 3, 0] ?_
  refine C_cond rfl (fun hc2 => ?_) (fun hc2 => ?_)
  ·replace hc2 := nT hc2
   simp only [PeerV.eta, TableV.eta, RouteV.eta] at hc2
   refine C_seq ?_
   refine C_region (l := [0, 1]) rfl ?_
   iterate 2 refine Y_assign ?_
   refine XD_end ?_
   refine K_then ?_
   refine Y_pk [5, 4, 3, 0] ?_
   refine C_ret ?_
   refine K_ret ?_
   refine K_end (.inr rfl) (.tmp rfl (.tmp rfl .nil)) (fun w hw => ?_)
   refine ⟨_, rfl, (hw.c), ?_⟩
   clear hw
   refine congrArg ofII (a₁ := (_, _)) ?_
   grind [ownerR]
  ·replace hc2 := nF hc2
   simp only [PeerV.eta, TableV.eta, RouteV.eta] at hc2
   refine C_skip ?_
   refine K_then ?_
   refine Y_pk [5, 4, 3, 0] ?_
   iterate 2 refine C_seq ?_
   refine C_region (l := [0]) rfl ?_
   refine Y_assign ?_
   refine XD_end ?_
   refine K_then ?_
   refine C_block ?_
   refine Y_pk [6, 5, 4, 3, 0] ?_
   refine C_loopS (.succ .zero) (fun (k : Nat) z => z = [(6, .int .i64 (k : Int))] ∧ k ≤ l_l.length ∧ (IsCircle l_l ∧ ∀ j, j < k → pO l_l x j = false)) (fun k => l_l.length - k) (0) (⟨rfl, by omega, by (refine ⟨by assumption, ?_⟩; intro j hj; omega)⟩) ?_
   rintro k _ ⟨rfl, hk, hI⟩
   iterate 2 refine C_seq ?_
   refine C_region (l := [0, 1, 2, 3]) rfl ?_
   iterate 2 refine Y_move ?_
   refine Y_len_sl F.elem26 ?_
   refine Y_cmp ?_
   refine XD_end ?_
   refine K_then ?_
   refine C_cond rfl (fun hc3 => ?_) (fun hc3 => ?_)
   ·replace hc3 := dT hc3
    refine C_skip ?_
    refine K_then ?_
    refine C_seq ?_
    refine C_block ?_
    refine C_seq ?_
    refine C_region_any (l := [0, 1, 2, 3, 4, 5, 6, 7]) #[0, 0, 3, 7, 15, 0, 63, 127] _ rfl (by kernel_rfl) (by kernel_rfl) St.drawn (fun _ h => h) ?_
    iterate 2 refine Y_move ?_
    refine X_indexAddr rfl rfl rfl rfl F.elem26 (by rfl) (by omega) (by exact SlM.plain (by assumption) (by (simp; omega))) rfl ?_
    refine X_fieldAddr_el rfl rfl rfl (by exact SlM.plain (by assumption) (by (simp; omega))) F.foff25_1 rfl ?_
    refine X_load_el rfl rfl rfl (by assumption) (by exact row_map (by omega)) F.lay23 rfl rfl rfl ?_
    refine Y_load F.lay23 ?_
    refine X_fs rfl rfl F.ok77 rfl (rLess_ok _ _ _) rfl ?_
    rintro _ rfl
    refine Y_not ?_
    refine XD_end ?_
    refine K_then ?_
    refine C_cond rfl (fun hc4 => ?_) (fun hc4 => ?_)
    ·replace hc4 := nT hc4
     refine C_seq ?_
     refine C_region (l := [0, 1, 2]) rfl ?_
     refine Y_move ?_
     iterate 2 refine Y_assign ?_
     refine XD_end ?_
     refine K_then ?_
     refine C_ret ?_
     refine K_retB ?_
     iterate 2 refine K_ret ?_
     refine K_retB ?_
     refine K_ret ?_
     refine K_end (.inr rfl) (.tmp rfl (.tmp rfl .nil)) (fun w hw => ?_)
     refine ⟨_, rfl, (hw.c), ?_⟩
     clear hw
     refine congrArg ofII (a₁ := (_, _)) ?_
     (have h9 := ownerI_at (l := l_l) (x := x) (k := k) (by omega) hI.2 (by rw [pO_at (by omega)]; simp_all); grind [ownerR])
    ·replace hc4 := nF hc4
     refine C_skip ?_
     refine K_out ?_
     refine K_then ?_
     refine C_region (l := [0, 1, 2]) rfl ?_
     refine Y_move ?_
     refine X_ari rfl rfl rfl rfl rfl (by exact wrap_in (by decide) (by omega)) rfl ?_
     refine Y_assign ?_
     refine XD_end ?_
     refine K_roundS (a' := [(6, _)]) (k + 1) (.cons (k := 6) rfl (.cons (k := 5) rfl (.cons (k := 4) rfl (.cons (k := 3) rfl (.cons (k := 0) rfl (.nil)))))) (fun w hw => by first | exact hw | exact hw.c) ?_ ?_
     ·refine ⟨rfl, by omega, ?_⟩
      refine ⟨hI.1, ?_⟩; intro j hj; rcases Nat.lt_or_ge j k with h9 | h9; exact hI.2 j h9; obtain rfl : j = k := by omega
      rw [pO_at (by omega)]; simp_all
     ·omega
   ·replace hc3 := dF hc3
    refine C_exit ?_
    iterate 2 refine K_exit ?_
    refine K_hit ?_
    refine K_then ?_
    refine Y_pk [5, 4] ?_
    refine C_seq ?_
    refine C_region (l := [0, 1]) rfl ?_
    iterate 2 refine Y_assign ?_
    refine XD_end ?_
    refine K_then ?_
    refine C_ret ?_
    refine K_end (.inr rfl) (.tmp rfl (.tmp rfl .nil)) (fun w hw => ?_)
    refine ⟨_, rfl, (hw.c), ?_⟩
    clear hw
    refine congrArg ofII (a₁ := (_, _)) ?_
    (have hk9 : k = l_l.length := (by omega); subst hk9; have h9 := ownerI_none hI.2; grind [ownerR])

end Go.Proofs.Ytbjklbmmchiahaa
/-
  Circles: fingers, arcs.
-/
set_option linter.unusedSimpArgs false
set_option linter.unusedVariables false
set_option linter.unnecessarySimpa false
set_option maxRecDepth 8000
set_option maxHeartbeats 1000000
namespace Go.Proofs.Ytbjklbmmchiahaa
open Go.Esp
theorem F.ok109 : okFn Try.prog 109 = true := by kernel_rfl

theorem Fingers_ok (M : Mem) (l : (Sl PeerV)) (i : Int) (hl0 : SlK M PeerV.segs 21 l) : Esp.Fn Try.prog 94 [Sl.val l, .int .i64 i] M (fun M' v => IntsE M' v (fingersR l.l i)) := by
  obtain ⟨l_a, l_c, l_l⟩ := l
  have k_l : SlK M PeerV.segs 21 ⟨l_a, l_c, l_l⟩ := hl0
  have s_l : SlM M l_a (l_l.map PeerV.segs) 21 := k_l.h1
  have n_l : (l_l.map PeerV.segs).length = l_l.length := List.length_map ..
  have m_l : l_l.length ≤ 9223372036854775807 := k_l.h2
  have c_l : l_l.length ≤ l_c := k_l.h3
  refine fn_enter Try.func94 rfl Try.ntmps94 rfl ?_; intro H
  refine C_seq ?_
  refine C_region (l := [0, 1]) rfl ?_
  iterate 2 refine Y_assign ?_
  refine XD_end ?_
  refine K_then ?_
  iterate 2 refine C_seq ?_
  refine C_region (l := [0, 1, 2, 3, 4, 5, 6, 7, 8, 9, 10, 11, 12]) rfl ?_
  refine Y_move ?_
  refine X_fs rfl rfl F.ok92 rfl (Circ_ok _ ⟨_, _, _⟩ (by assumption)) rfl ?_
  rintro _ rfl
  refine Y_not ?_
  refine Y_move ?_
  refine XD_part 13 rfl (fun hc1 => ?_) (fun hc1 => ?_)
  ·replace hc1 := nT hc1
   simp only [PeerV.eta, TableV.eta, RouteV.eta] at hc1
   iterate 2 refine Y_skip ?_
   refine Y_pick ?_
   refine Y_move ?_
   iterate 4 refine Y_skip ?_
   refine Y_pick ?_
   refine XD_end ?_
   refine K_then ?_
   refine Y_pk [22, 5, 4, 0, 1] ?_
   refine C_true rfl ?_
   refine C_seq ?_
   refine C_region (l := [0, 1]) rfl ?_
   iterate 2 refine Y_assign ?_
   refine XD_end ?_
   refine K_then ?_
   refine Y_pk [5, 4, 0, 1] ?_
   refine C_ret ?_
   refine K_ret ?_
   refine K_end (.inr rfl) (.tmp rfl (.tmp rfl .nil)) (fun w hw => ?_)
   refine ⟨_, M, rfl, Mem.le.refl M, hw.c, ?_⟩
   rw [show fingersR l_l i = ([], 1) from fingersR_no (by rintro ⟨g1, g2, g3⟩; first | exact absurd g1 (by assumption) | omega)]
   exact ⟨⟨none, 0, []⟩, rfl, rfl, SlK.nil⟩
  ·replace hc1 := nF hc1
   simp only [PeerV.eta, TableV.eta, RouteV.eta] at hc1
   refine Y_move ?_
   refine Y_cmp ?_
   refine Y_pick ?_
   refine Y_move ?_
   refine XD_part 17 rfl (fun hc2 => ?_) (fun hc2 => ?_)
   ·replace hc2 := dT hc2
    iterate 4 refine Y_skip ?_
    refine Y_pick ?_
    refine XD_end ?_
    refine K_then ?_
    refine Y_pk [22, 5, 4, 0, 1] ?_
    refine C_true rfl ?_
    refine C_seq ?_
    refine C_region (l := [0, 1]) rfl ?_
    iterate 2 refine Y_assign ?_
    refine XD_end ?_
    refine K_then ?_
    refine Y_pk [5, 4, 0, 1] ?_
    refine C_ret ?_
    refine K_ret ?_
    refine K_end (.inr rfl) (.tmp rfl (.tmp rfl .nil)) (fun w hw => ?_)
    refine ⟨_, M, rfl, Mem.le.refl M, hw.c, ?_⟩
    rw [show fingersR l_l i = ([], 1) from fingersR_no (by rintro ⟨g1, g2, g3⟩; first | exact absurd g1 (by assumption) | omega)]
    exact ⟨⟨none, 0, []⟩, rfl, rfl, SlK.nil⟩
   ·replace hc2 := dF hc2
    iterate 2 refine Y_move ?_
    refine Y_len_sl F.elem26 ?_
    refine Y_cmp ?_
    refine Y_pick ?_
    refine XD_end ?_
    refine K_then ?_
    refine Y_pk [22, 5, 4, 0, 1] ?_
    refine C_cond rfl (fun hc3 => ?_) (fun hc3 => ?_)
    ·replace hc3 := dT hc3
     refine C_seq ?_
     refine C_region (l := [0, 1]) rfl ?_
     iterate 2 refine Y_assign ?_
     refine XD_end ?_
     refine K_then ?_
     refine Y_pk [5, 4, 0, 1] ?_
     refine C_ret ?_
     refine K_ret ?_
     refine K_end (.inr rfl) (.tmp rfl (.tmp rfl .nil)) (fun w hw => ?_)
     refine ⟨_, M, rfl, Mem.le.refl M, hw.c, ?_⟩
     rw [show fingersR l_l i = ([], 1) from fingersR_no (by rintro ⟨g1, g2, g3⟩; first | exact absurd g1 (by assumption) | omega)]
     exact ⟨⟨none, 0, []⟩, rfl, rfl, SlK.nil⟩
    ·replace hc3 := dF hc3
     refine C_skip ?_
     refine K_then ?_
     refine Y_pk [5, 4, 0, 1] ?_
     refine C_seq ?_
     refine C_region (l := [0, 1]) rfl ?_
     obtain ⟨n, rfl⟩ : ∃ n : Nat, i = n := ⟨i.toNat, by omega⟩
     have hc : IsCircle l_l := by assumption
     have hn : n < l_l.length := by omega
     have hc1 := hc.1
     refine X_makeSliceO (k := 160) (zr := oneI .i64 0) rfl rfl rfl rfl F.elem41 F.zero3 rfl rfl rfl (by decide) (by decide) rfl ?_; intro b1 hs1 ho1
     refine Y_assign ?_
     refine XD_end ?_
     refine K_then ?_
     refine Y_pk [6, 5, 4, 0, 1] ?_
     iterate 2 refine C_seq ?_
     refine C_region (l := [0, 1, 2]) rfl ?_
     refine Y_move ?_
     refine Y_len_sl F.elem41 ?_
     refine Y_move ?_
     refine XD_end ?_
     refine K_then ?_
     refine Y_pk [26, 25, 6, 5, 4, 0, 1] ?_
     refine C_block ?_
     refine Y_pk [26, 25, 6, 5, 4, 0, 1] ?_
     refine C_loopO (Hin := hs1) (.succ .zero) (by repeat first | exact Rem.here _ | exact Rem.two | apply Rem.skip | apply Rem.over) (fun (k : Nat) M1 h1 z => M1 = M ∧ z = [(26, .int .i64 (k : Int))] ∧ k ≤ 160 ∧ OSl 3 1 (.slice (some ⟨b1, 0, none⟩) 160 160) h1 ((fillL (fingerAt l_l l_l[n]) (k)).map (oneI .i64))) (fun k => 160 - k) (0) (⟨rfl, rfl, by omega, by rw [fillL_zero, List.map_replicate]; exact ho1⟩) ?_
     rintro k M1 h1 z hm1 ⟨hM1, rfl, hk, ho⟩
     subst hM1
     have hfl := fillL_len (fingerAt l_l l_l[n]) k
     have hml : ((fillL (fingerAt l_l l_l[n]) (k)).map (oneI .i64)).length = 160 := by rw [List.length_map]; exact hfl
     refine C_seq ?_
     refine C_region (l := [0]) rfl ?_
     refine Y_cmp ?_
     refine XD_end ?_
     refine K_then ?_
     refine C_seq ?_
     refine C_cond rfl (fun hc4 => ?_) (fun hc4 => ?_)
     ·replace hc4 := dT hc4
      refine C_skip ?_
      refine K_then ?_
      refine C_seq ?_
      refine C_block ?_
      refine C_seq ?_
      refine C_region (l := [0, 1]) rfl ?_
      refine Y_move ?_
      refine Y_assign ?_
      refine XD_end ?_
      refine K_then ?_
      refine C_seq ?_
      refine C_region (l := [0, 1, 2, 3, 4, 5, 6, 7]) rfl ?_
      refine Y_move ?_
      refine X_fs rfl rfl F.ok44 rfl (Power_ok_in _ k (by omega)) rfl ?_
      rintro _ rfl
      refine Y_move ?_
      iterate 2 refine Y_extract ?_
      refine Y_alloc F.zero23 ?_; intro b5
      refine Y_store F.lay23 ?_
      refine Y_assign ?_
      refine XD_end ?_
      refine K_then ?_
      refine Y_pk [8, 33, 32, 29, 31, 30, 7, 28, 27, 26, 25, 6, 5, 4, 0, 1] ?_
      refine C_region_any (l := [0, 1, 2, 3, 4, 5, 6, 7, 8, 9, 10, 11, 12]) #[0, 0, 0, 0, 0, 24, 56, 120, 0, 504, 1020, 2047, 4095] _ rfl (by kernel_rfl) (by kernel_rfl) St.drawn (fun _ h => h) ?_
      iterate 5 refine Y_move ?_
      refine X_indexAddr rfl rfl rfl rfl F.elem26 (by rfl) (by omega) (by exact SlM.plain (by assumption) (by (simp; omega))) rfl ?_
      refine X_fieldAddr_el rfl rfl rfl (by exact SlM.plain (by assumption) (by (simp; omega))) F.foff25_1 rfl ?_
      refine X_load_el rfl rfl rfl (by assumption) (by exact row_map (by omega)) F.lay23 rfl rfl rfl ?_
      refine Y_load F.lay23 ?_
      refine X_fs rfl rfl F.ok46 rfl (Plus_ok _ _ _) rfl ?_
      rintro _ rfl
      refine X_fs rfl rfl F.ok97 rfl (owner_ok _ ⟨_, _, _⟩ _ (by assumption) (by assumption)) rfl ?_
      rintro _ rfl
      refine X_indexAddr rfl rfl rfl rfl F.elem41 (by rfl) (by omega) (by exact ⟨_, _, rfl⟩) rfl ?_
      refine X_storeO (b := b1) (j := k) rfl rfl rfl rfl (by constructor) (flat_one rfl flat_nil) F.lay3 rfl rfl ho (by repeat first | exact Rem.here _ | exact Rem.two | apply Rem.skip | apply Rem.over) (by omega) ?_; intro hs2 ho2
      replace ho2 : OSl 3 1 (.slice (some ⟨b1, 0, none⟩) 160 160) hs2 ((fillL (fingerAt l_l l_l[n]) (k + 1)).map (oneI .i64)) := by rw [← fillL_set (fingerAt l_l l_l[n]) (by omega) rfl, List.map_set]; exact ho2.as (by simp [hml])
      refine XD_end ?_
      refine K_out ?_
      refine K_then ?_
      refine C_region (l := [0, 1]) rfl ?_
      refine X_ari rfl rfl rfl rfl rfl (by exact wrap_in (by decide) (by omega)) rfl ?_
      refine Y_move ?_
      refine XD_end ?_
      refine K_roundO (a' := [(26, _)]) (k + 1) (hs2) (.cons (k := 26) rfl (.cons (k := 25) rfl (.cons (k := 6) rfl (.cons (k := 5) rfl (.cons (k := 4) rfl (.cons (k := 0) rfl (.cons (k := 1) rfl (.nil)))))))) (by exact Mem.le.refl _) (fun w hw => by first | exact hw | exact hw.c) ?_ ?_
      ·exact ⟨rfl, rfl, by omega, ho2⟩
      ·omega
     ·replace hc4 := dF hc4
      refine C_exit ?_
      iterate 2 refine K_exit ?_
      refine K_hit ?_
      refine K_then ?_
      refine Y_pk [6, 5, 4] ?_
      refine C_seq ?_
      refine C_region (l := [0, 1, 2]) rfl ?_
      refine Y_move ?_
      iterate 2 refine Y_assign ?_
      refine XD_end ?_
      refine K_then ?_
      refine Y_pk [5, 4] ?_
      refine C_ret ?_
      refine K_end (.inr rfl) (.tmp rfl (.tmp rfl .nil)) (fun w hw => ?_)
      obtain rfl : k = 160 := by omega
      obtain ⟨M9, s1, g1, g2, g3, g4, g5⟩ := OSl.freezeK (f := oneI .i64) (H := H) (l := (List.range 160).map (fingerAt l_l l_l[n])) (by rw [← fillL_all]; exact ho) (hw.c)
      refine ⟨_, M9, rfl, g1, g2, ?_⟩
      rw [show fingersR l_l ((n : Nat) : Int) = _ from fingersR_yes hc hn]
      exact ⟨s1, by rw [← g3]; rfl, g4, g5⟩

theorem rFingers_ok (M : Mem) (l : (Sl PeerV)) (i : Int) (hl0 : SlK M PeerV.segs 21 l) : Esp.Fn Try.prog 96 [Sl.val l, .int .i64 i] M (fun M' v => IntsE M' v (fingersR l.l i)) := by
  obtain ⟨l_a, l_c, l_l⟩ := l
  have k_l : SlK M PeerV.segs 21 ⟨l_a, l_c, l_l⟩ := hl0
  have s_l : SlM M l_a (l_l.map PeerV.segs) 21 := k_l.h1
  have n_l : (l_l.map PeerV.segs).length = l_l.length := List.length_map ..
  have m_l : l_l.length ≤ 9223372036854775807 := k_l.h2
  have c_l : l_l.length ≤ l_c := k_l.h3
  refine fn_enter Try.func96 rfl Try.ntmps96 rfl ?_; intro H
  refine C_seq ?_
  refine C_region (l := [0, 1]) rfl ?_
  iterate 2 refine Y_assign ?_
  refine XD_end ?_
  refine K_then ?_
  iterate 2 refine C_seq ?_
  refine C_region (l := [0, 1, 2, 3, 4, 5, 6, 7, 8, 9, 10, 11, 12]) rfl ?_
  refine Y_move ?_
  refine X_fs rfl rfl F.ok95 rfl (rCirc_ok _ ⟨_, _, _⟩ (by assumption)) rfl ?_
  rintro _ rfl
  refine Y_not ?_
  refine Y_move ?_
  refine XD_part 15 rfl (fun hc1 => ?_) (fun hc1 => ?_)
  ·replace hc1 := nT hc1
   simp only [PeerV.eta, TableV.eta, RouteV.eta] at hc1
   iterate 2 refine Y_skip ?_
   refine Y_pick ?_
   refine Y_move ?_
   iterate 4 refine Y_skip ?_
   refine Y_pick ?_
   refine XD_end ?_
   refine K_then ?_
   refine Y_pk [24, 5, 4, 0, 1] ?_
   refine C_true rfl ?_
   refine C_seq ?_
   refine C_region (l := [0, 1]) rfl ?_
   iterate 2 refine Y_assign ?_
   refine XD_end ?_
   refine K_then ?_
   refine Y_pk [5, 4, 0, 1] ?_
   refine C_ret ?_
   refine K_ret ?_
   refine K_end (.inr rfl) (.tmp rfl (.tmp rfl .nil)) (fun w hw => ?_)
   refine ⟨_, M, rfl, Mem.le.refl M, hw.c, ?_⟩
   rw [show fingersR l_l i = ([], 1) from fingersR_no (by rintro ⟨g1, g2, g3⟩; first | exact absurd g1 (by assumption) | omega)]
   exact ⟨⟨none, 0, []⟩, rfl, rfl, SlK.nil⟩
  ·replace hc1 := nF hc1
   simp only [PeerV.eta, TableV.eta, RouteV.eta] at hc1
   refine Y_move ?_
   refine Y_cmp ?_
   refine Y_pick ?_
   refine Y_move ?_
   refine XD_part 19 rfl (fun hc2 => ?_) (fun hc2 => ?_)
   ·replace hc2 := dT hc2
    iterate 4 refine Y_skip ?_
    refine Y_pick ?_
    refine XD_end ?_
    refine K_then ?_
    refine Y_pk [24, 5, 4, 0, 1] ?_
    refine C_true rfl ?_
    refine C_seq ?_
    refine C_region (l := [0, 1]) rfl ?_
    iterate 2 refine Y_assign ?_
    refine XD_end ?_
    refine K_then ?_
    refine Y_pk [5, 4, 0, 1] ?_
    refine C_ret ?_
    refine K_ret ?_
    refine K_end (.inr rfl) (.tmp rfl (.tmp rfl .nil)) (fun w hw => ?_)
    refine ⟨_, M, rfl, Mem.le.refl M, hw.c, ?_⟩
    rw [show fingersR l_l i = ([], 1) from fingersR_no (by rintro ⟨g1, g2, g3⟩; first | exact absurd g1 (by assumption) | omega)]
    exact ⟨⟨none, 0, []⟩, rfl, rfl, SlK.nil⟩
   ·replace hc2 := dF hc2
    iterate 2 refine Y_move ?_
    refine Y_len_sl F.elem26 ?_
    refine Y_cmp ?_
    refine Y_pick ?_
    refine XD_end ?_
    refine K_then ?_
    refine Y_pk [24, 5, 4, 0, 1] ?_
    refine C_cond rfl (fun hc3 => ?_) (fun hc3 => ?_)
    ·replace hc3 := dT hc3
     refine C_seq ?_
     refine C_region (l := [0, 1]) rfl ?_
     iterate 2 refine Y_assign ?_
     refine XD_end ?_
     refine K_then ?_
     refine Y_pk [5, 4, 0, 1] ?_
     refine C_ret ?_
     refine K_ret ?_
     refine K_end (.inr rfl) (.tmp rfl (.tmp rfl .nil)) (fun w hw => ?_)
     refine ⟨_, M, rfl, Mem.le.refl M, hw.c, ?_⟩
     rw [show fingersR l_l i = ([], 1) from fingersR_no (by rintro ⟨g1, g2, g3⟩; first | exact absurd g1 (by assumption) | omega)]
     exact ⟨⟨none, 0, []⟩, rfl, rfl, SlK.nil⟩
    ·replace hc3 := dF hc3
     refine C_skip ?_
     refine K_then ?_
     refine Y_pk [5, 4, 0, 1] ?_
     refine C_seq ?_
     refine C_region (l := [0]) rfl ?_
     obtain ⟨n, rfl⟩ : ∃ n : Nat, i = n := ⟨i.toNat, by omega⟩
     have hc : IsCircle l_l := by assumption
     have hn : n < l_l.length := by omega
     have hc1 := hc.1
     refine Y_assign ?_
     refine XD_end ?_
     refine K_then ?_
     iterate 2 refine C_seq ?_
     refine C_region (l := [0]) rfl ?_
     refine Y_assign ?_
     refine XD_end ?_
     refine K_then ?_
     refine C_block ?_
     refine Y_pk [7, 6, 5, 4, 0, 1] ?_
     refine C_loopO (Hin := []) (.succ (.succ .zero)) (by repeat first | exact Rem.here _ | exact Rem.two | apply Rem.skip | apply Rem.over) (fun (k : Nat) M1 h1 z => ∃ v, M1 = M ∧ z = [(7, .int .i64 (k : Int)), (6, v)] ∧ k ≤ 160 ∧ OSl 3 1 v h1 (((List.range k).map (fingerAt l_l l_l[n])).map (oneI .i64))) (fun k => 160 - k) (0) (⟨_, rfl, rfl, by omega, OSl.nil⟩) ?_
     rintro k M1 h1 z hm1 ⟨v0, hM1, rfl, hk, ho⟩
     subst hM1
     obtain ⟨ad0, cp0, rfl⟩ := ho.valL
     have hml : (((List.range k).map (fingerAt l_l l_l[n])).map (oneI .i64)).length = k := by simp
     iterate 2 refine C_seq ?_
     refine C_region (l := [0, 1]) rfl ?_
     refine Y_move ?_
     refine Y_cmp ?_
     refine XD_end ?_
     refine K_then ?_
     refine C_cond rfl (fun hc4 => ?_) (fun hc4 => ?_)
     ·replace hc4 := dT hc4
      refine C_skip ?_
      refine K_then ?_
      refine C_seq ?_
      refine C_block ?_
      refine C_seq ?_
      refine C_region (l := [0, 1, 2, 3, 4, 5, 6, 7]) rfl ?_
      refine Y_move ?_
      refine X_fs rfl rfl F.ok69 rfl (rPower_ok_in _ k (by omega)) rfl ?_
      rintro _ rfl
      refine Y_move ?_
      iterate 2 refine Y_extract ?_
      refine Y_alloc F.zero23 ?_; intro b5
      refine Y_store F.lay23 ?_
      refine Y_assign ?_
      refine XD_end ?_
      refine K_then ?_
      refine Y_pk [8, 33, 32, 29, 31, 30, 26, 25, 7, 6, 5, 4, 0, 1] ?_
      refine C_seq ?_
      refine C_region_any (l := [0, 1, 2, 3, 4, 5, 6, 7, 8, 9, 10, 11, 12, 13]) #[0, 0, 0, 6, 14, 30, 0, 126, 255, 511, 1023, 1023, 2047, 8191] _ rfl (by kernel_rfl) (by kernel_rfl) St.drawn (fun _ h => h) ?_
      iterate 3 refine Y_move ?_
      refine X_indexAddr rfl rfl rfl rfl F.elem26 (by rfl) (by omega) (by exact SlM.plain (by assumption) (by (simp; omega))) rfl ?_
      refine X_fieldAddr_el rfl rfl rfl (by exact SlM.plain (by assumption) (by (simp; omega))) F.foff25_1 rfl ?_
      refine X_load_el rfl rfl rfl (by assumption) (by exact row_map (by omega)) F.lay23 rfl rfl rfl ?_
      refine Y_load F.lay23 ?_
      refine X_fs rfl rfl F.ok71 rfl (rPlus_ok _ _ _) rfl ?_
      rintro _ rfl
      refine X_fs rfl rfl F.ok109 rfl (rOwner_ok _ ⟨l_a, l_c, l_l⟩ _ k_l) rfl ?_
      rintro _ hv
      replace hv : _ = ofII (ownerR l_l (l_l[n].id + powP k)) := hv
      rw [show ownerR l_l (l_l[n].id + powP k) = (((ownerI l_l (l_l[n].id + powP k) : Nat) : Int), 0) from if_pos hc] at hv
      subst hv
      refine Y_move ?_
      iterate 2 refine Y_extract ?_
      iterate 2 refine Y_assign ?_
      refine XD_end ?_
      refine K_then ?_
      refine Y_pk [10, 45, 44, 34, 43, 42, 41, 40, 39, 38, 37, 36, 35, 8, 33, 32, 29, 31, 30, 26, 25, 7, 6, 5, 4, 0, 1] ?_
      refine C_region (l := [0, 1, 2, 3, 4]) rfl ?_
      iterate 2 refine Y_move ?_
      refine X_buildSliceF rfl rfl F.elem41 F.zero3 rfl rfl (.cons rfl (by constructor) .nil) rfl rfl (by simp only [List.map_cons, List.map_nil] <;> rfl) rfl ?_; intro b6 hob7
      refine X_append (m := 1000000) rfl rfl rfl rfl rfl F.elem41 F.zero3 (by rfl) rfl (by assumption) (by repeat first | exact Rem.here _ | exact Rem.two | apply Rem.skip | apply Rem.over) (Src.own hob7.lens (by (refine rows_one1 ?_; (repeat (first | exact flat_nil | refine flat_id ?_ | (refine flat_one ?_ ?_; rfl))); done)) rfl (by repeat first | exact List.Mem.head _ | refine List.Mem.tail _ ?_ | refine List.mem_append_right _ ?_)) (by (simp; omega)) (by decide) rfl ?_; intro v10 hs9 ho8; obtain ⟨adv10, cpv10, rfl⟩ := ho8.val
      refine Y_assign ?_
      refine XD_end ?_
      refine K_out ?_
      refine K_then ?_
      refine C_region (l := [0, 1, 2]) rfl ?_
      refine Y_move ?_
      refine X_ari rfl rfl rfl rfl rfl (by exact wrap_in (by decide) (by omega)) rfl ?_
      refine Y_assign ?_
      refine XD_end ?_
      refine K_roundO (a' := [(7, _), (6, _)]) (k + 1) (hs9) (.cons (k := 7) rfl (.cons (k := 6) rfl (.cons (k := 5) rfl (.cons (k := 4) rfl (.cons (k := 0) rfl (.cons (k := 1) rfl (.nil))))))) (by exact Mem.le.refl _) (fun w hw => by first | exact hw | exact hw.c) ?_ ?_
      ·refine ⟨_, rfl, rfl, by omega, ?_⟩
       rw [List.range_succ, List.map_append, List.map_append]
       exact ho8
      ·omega
     ·replace hc4 := dF hc4
      refine C_exit ?_
      iterate 2 refine K_exit ?_
      refine K_hit ?_
      refine K_then ?_
      refine Y_pk [6, 5, 4] ?_
      refine C_seq ?_
      refine C_region (l := [0, 1, 2]) rfl ?_
      refine Y_move ?_
      iterate 2 refine Y_assign ?_
      refine XD_end ?_
      refine K_then ?_
      refine Y_pk [5, 4] ?_
      refine C_ret ?_
      refine K_end (.inr rfl) (.tmp rfl (.tmp rfl .nil)) (fun w hw => ?_)
      obtain rfl : k = 160 := by omega
      obtain ⟨M9, s1, g1, g2, g3, g4, g5⟩ := OSl.freezeK (f := oneI .i64) (H := H) (l := (List.range 160).map (fingerAt l_l l_l[n])) (ho) (hw.c)
      refine ⟨_, M9, rfl, g1, g2, ?_⟩
      rw [show fingersR l_l ((n : Nat) : Int) = _ from fingersR_yes hc hn]
      exact ⟨s1, by rw [← g3]; rfl, g4, g5⟩

theorem Arc_ok (M : Mem) (l : (Sl PeerV)) (i : Int) (hl0 : SlK M PeerV.segs 21 l) : Fs Try.prog 56 [Sl.val l, .int .i64 i] M (fun v => v =  (ofArc (arcR l.l i))) := by
  obtain ⟨l_a, l_c, l_l⟩ := l
  have k_l : SlK M PeerV.segs 21 ⟨l_a, l_c, l_l⟩ := hl0
  have s_l : SlM M l_a (l_l.map PeerV.segs) 21 := k_l.h1
  have n_l : (l_l.map PeerV.segs).length = l_l.length := List.length_map ..
  have m_l : l_l.length ≤ 9223372036854775807 := k_l.h2
  have c_l : l_l.length ≤ l_c := k_l.h3
  refine fs_enter Try.func56 rfl Try.ntmps56 rfl ?_; intro H
  refine C_seq ?_
  refine C_region (l := [0, 1, 2]) rfl ?_
  refine Y_alloc F.zero23 ?_; intro b1
  refine Y_alloc F.zero23 ?_; intro b2
  refine Y_assign ?_
  refine XD_end ?_
  refine K_then ?_
  iterate 2 refine C_seq ?_
  refine C_region (l := [0, 1, 2, 3, 4, 5, 6, 7, 8, 9, 10, 11, 12]) rfl ?_
  refine Y_move ?_
  refine X_fs rfl rfl F.ok92 rfl (Circ_ok _ ⟨_, _, _⟩ (by assumption)) rfl ?_
  rintro _ rfl
  refine Y_not ?_
  refine Y_move ?_
  refine XD_part 10 rfl (fun hc3 => ?_) (fun hc3 => ?_)
  ·replace hc3 := nT hc3
   simp only [PeerV.eta, TableV.eta, RouteV.eta] at hc3
   iterate 2 refine Y_skip ?_
   refine Y_pick ?_
   refine Y_move ?_
   iterate 4 refine Y_skip ?_
   refine Y_pick ?_
   refine XD_end ?_
   refine K_then ?_
   refine Y_pk [19, 6, 5, 4, 0, 1] ?_
   refine C_true rfl ?_
   refine C_seq ?_
   refine C_region (l := [0, 1, 2, 3, 4]) rfl ?_
   iterate 2 refine X_build0 rfl rfl F.zero23 F.arr23 rfl ?_
   iterate 2 refine Y_store F.lay23 ?_
   refine Y_assign ?_
   refine XD_end ?_
   refine K_then ?_
   refine Y_pk [6, 5, 4, 0, 1] ?_
   refine C_ret ?_
   refine K_ret ?_
   refine K_end (.inr rfl) (.cell rfl (by repeat first | exact List.Mem.head _ | refine List.Mem.tail _ ?_ | refine List.mem_append_right _ ?_) F.lay23 rfl rfl (.cell rfl (by repeat first | exact List.Mem.head _ | refine List.Mem.tail _ ?_ | refine List.mem_append_right _ ?_) F.lay23 rfl rfl (.tmp rfl .nil))) (fun w hw => ?_)
   refine ⟨_, rfl, (hw.c), ?_⟩
   clear hw
   rw [show arcR l_l i = (0, 0, 1) from arcR_no (by rintro ⟨g1, g2, g3⟩; first | exact absurd g1 (by assumption) | omega)]
   rfl
  ·replace hc3 := nF hc3
   simp only [PeerV.eta, TableV.eta, RouteV.eta] at hc3
   refine Y_move ?_
   refine Y_cmp ?_
   refine Y_pick ?_
   refine Y_move ?_
   refine XD_part 14 rfl (fun hc4 => ?_) (fun hc4 => ?_)
   ·replace hc4 := dT hc4
    iterate 4 refine Y_skip ?_
    refine Y_pick ?_
    refine XD_end ?_
    refine K_then ?_
    refine Y_pk [19, 6, 5, 4, 0, 1] ?_
    refine C_true rfl ?_
    refine C_seq ?_
    refine C_region (l := [0, 1, 2, 3, 4]) rfl ?_
    iterate 2 refine X_build0 rfl rfl F.zero23 F.arr23 rfl ?_
    iterate 2 refine Y_store F.lay23 ?_
    refine Y_assign ?_
    refine XD_end ?_
    refine K_then ?_
    refine Y_pk [6, 5, 4, 0, 1] ?_
    refine C_ret ?_
    refine K_ret ?_
    refine K_end (.inr rfl) (.cell rfl (by repeat first | exact List.Mem.head _ | refine List.Mem.tail _ ?_ | refine List.mem_append_right _ ?_) F.lay23 rfl rfl (.cell rfl (by repeat first | exact List.Mem.head _ | refine List.Mem.tail _ ?_ | refine List.mem_append_right _ ?_) F.lay23 rfl rfl (.tmp rfl .nil))) (fun w hw => ?_)
    refine ⟨_, rfl, (hw.c), ?_⟩
    clear hw
    rw [show arcR l_l i = (0, 0, 1) from arcR_no (by rintro ⟨g1, g2, g3⟩; first | exact absurd g1 (by assumption) | omega)]
    rfl
   ·replace hc4 := dF hc4
    iterate 2 refine Y_move ?_
    refine Y_len_sl F.elem26 ?_
    refine Y_cmp ?_
    refine Y_pick ?_
    refine XD_end ?_
    refine K_then ?_
    refine Y_pk [19, 6, 5, 4, 0, 1] ?_
    refine C_cond rfl (fun hc5 => ?_) (fun hc5 => ?_)
    ·replace hc5 := dT hc5
     refine C_seq ?_
     refine C_region (l := [0, 1, 2, 3, 4]) rfl ?_
     iterate 2 refine X_build0 rfl rfl F.zero23 F.arr23 rfl ?_
     iterate 2 refine Y_store F.lay23 ?_
     refine Y_assign ?_
     refine XD_end ?_
     refine K_then ?_
     refine Y_pk [6, 5, 4, 0, 1] ?_
     refine C_ret ?_
     refine K_ret ?_
     refine K_end (.inr rfl) (.cell rfl (by repeat first | exact List.Mem.head _ | refine List.Mem.tail _ ?_ | refine List.mem_append_right _ ?_) F.lay23 rfl rfl (.cell rfl (by repeat first | exact List.Mem.head _ | refine List.Mem.tail _ ?_ | refine List.mem_append_right _ ?_) F.lay23 rfl rfl (.tmp rfl .nil))) (fun w hw => ?_)
     refine ⟨_, rfl, (hw.c), ?_⟩
     clear hw
     rw [show arcR l_l i = (0, 0, 1) from arcR_no (by rintro ⟨g1, g2, g3⟩; first | exact absurd g1 (by assumption) | omega)]
     rfl
    ·replace hc5 := dF hc5
     refine C_skip ?_
     refine K_then ?_
     refine Y_pk [6, 5, 4, 0, 1] ?_
     refine C_seq ?_
     refine C_region_anyWR2 (l := [0, 1, 2, 3, 4, 5, 6, 7, 8, 9, 10, 11, 12, 13, 14, 15, 16, 17, 18, 19]) (Hin := [(b1, _)]) (Hin2 := [(b2, _)]) [17, 18] #[0, 0, 0, 4, 14, 30, 0, 64, 254, 511, 1023, 2047, 0, 0, 12288, 28672, 61440, 4095, 262143, 524287] (by repeat first | exact Rem.here _ | exact Rem.two | apply Rem.skip | apply Rem.over) (by repeat first | exact Rem.here _ | exact Rem.two | apply Rem.skip | apply Rem.over) rfl (by kernel_rfl) (by kernel_rfl) ?_
     obtain ⟨n, rfl⟩ : ∃ n : Nat, i = n := ⟨i.toNat, by omega⟩
     have hc : IsCircle l_l := by assumption
     have hn : n < l_l.length := by omega
     have hc1 := hc.1
     iterate 3 refine Y_move ?_
     refine Y_len_sl F.elem26 ?_
     iterate 2 refine X_ari rfl rfl rfl rfl rfl (by exact wrap_in (by decide) (by omega)) rfl ?_
     refine Y_move ?_
     refine Y_len_sl F.elem26 ?_
     refine X_rem rfl rfl rfl rfl (by omega) (by exact rem_nn (by omega)) rfl ?_
     have hq0 : ((n : Int) + (l_l.length : Int) - 1) % (l_l.length : Int) = (((n + l_l.length - 1) % l_l.length : Nat) : Int) := by rw [Int.natCast_emod]; first | rfl | (congr 1; omega)
     have hq1 : (n + l_l.length - 1) % l_l.length < l_l.length := Nat.mod_lt _ (by omega)
     generalize hq : (n + l_l.length - 1) % l_l.length = q at hq0 hq1
     rw [hq0]
     refine X_indexAddr rfl rfl rfl rfl F.elem26 (by rfl) (by omega) (by exact SlM.plain (by assumption) (by (simp; omega))) rfl ?_
     refine X_fieldAddr_el rfl rfl rfl (by exact SlM.plain (by assumption) (by (simp; omega))) F.foff25_1 rfl ?_
     refine X_load_el rfl rfl rfl (by assumption) (by exact row_map (by omega)) F.lay23 rfl rfl rfl ?_
     iterate 2 refine Y_move ?_
     refine X_indexAddr rfl rfl rfl rfl F.elem26 (by rfl) (by omega) (by exact SlM.plain (by assumption) (by (simp; omega))) rfl ?_
     refine X_fieldAddr_el rfl rfl rfl (by exact SlM.plain (by assumption) (by (simp; omega))) F.foff25_1 rfl ?_
     refine X_load_el rfl rfl rfl (by assumption) (by exact row_map (by omega)) F.lay23 rfl rfl rfl ?_
     iterate 2 refine X_storeE rfl rfl rfl rfl rfl (by constructor) (by ((try simp only [cat, List.cons_append, List.nil_append, List.append_nil]); (repeat (first | exact flat_nil | refine flat_id ?_ | (refine flat_one ?_ ?_; rfl))); done)) (by repeat first | exact Upd.head | apply Upd.tail | apply Upd.over) F.lay23 rfl rfl (fun _ h => h.c) ?_
     refine Y_assign ?_
     refine XD_end ?_
     refine K_unw ?_
     refine K_then ?_
     refine Y_pk [6, 5, 4] ?_
     refine C_ret ?_
     refine K_end (.inr rfl) (.cell rfl (by repeat first | exact List.Mem.head _ | refine List.Mem.tail _ ?_ | refine List.mem_append_right _ ?_) F.lay23 rfl rfl (.cell rfl (by repeat first | exact List.Mem.head _ | refine List.Mem.tail _ ?_ | refine List.mem_append_right _ ?_) F.lay23 rfl rfl (.tmp rfl .nil))) (fun w hw => ?_)
     refine ⟨_, rfl, (hw.c), ?_⟩
     clear hw
     rw [show arcR l_l ((n : Nat) : Int) = _ from arcR_yes hc hn]
     simp only [hq]
     rfl

end Go.Proofs.Ytbjklbmmchiahaa
/-
  Settled tables, in plain Lean.
-/
set_option linter.unusedSimpArgs false
set_option linter.unusedVariables false
set_option linter.unnecessarySimpa false
namespace Go.Esp
theorem flat_len {rows : List (Sl PeerV)} {i : Nat} {a : Option Addr} {c : Nat} {l : List PeerV} (hi : i < rows.length) (hr : rows[i] = ⟨a, c, l⟩) : ((rows.take i).map Sl.l).flatten.length + l.length ≤ (rows.map Sl.l).flatten.length := by
  have h := flat_next hi hr
  have h2 : (rows.map Sl.l).flatten = ((rows.take (i + 1)).map Sl.l).flatten ++ ((rows.drop (i + 1)).map Sl.l).flatten := by
    rw [← List.flatten_append, ← List.map_append, List.take_append_drop]
  have h3 := congrArg List.length h2
  rw [h] at h3
  simp only [List.length_append] at h3
  omega
/-- The peers behind the i-th one, clockwise. -/
def roundL (l : List PeerV) (i : Nat) : List PeerV := l.drop (i + 1) ++ l.take i
theorem roundL_len {l : List PeerV} {i : Nat} (hi : i < l.length) : (roundL l i).length = l.length - 1 := by
  unfold roundL; simp; omega
theorem roundL_at {l : List PeerV} {i k : Nat} (hi : i < l.length) (hk : k + 1 < l.length) : (roundL l i)[k]? = l[(i + (k + 1)) % l.length]? := by
  unfold roundL
  rcases Nat.lt_or_ge (i + (k + 1)) l.length with h | h
  · rw [List.getElem?_append_left (by simp; omega), List.getElem?_drop, Nat.mod_eq_of_lt h]
    congr 1; omega
  · rw [List.getElem?_append_right (by simp; omega), Nat.mod_eq_sub_mod h, Nat.mod_eq_of_lt (by omega), List.getElem?_take_of_lt (by simp; omega)]
    congr 1; simp; omega
theorem lastD_at {l : List PeerV} {d : PeerV} (h : 0 < l.length) : l.getLastD d = l[l.length - 1]'(by omega) := by
  rw [List.getLastD_eq_getLast?, List.getLast?_eq_getElem?, List.getElem?_eq_getElem (by omega)]
  rfl
theorem roundL_last {l : List PeerV} {i : Nat} (hi : i < l.length) (h : 1 < l.length) : (roundL l i).getLastD noneP = l[(i + l.length - 1) % l.length]'(Nat.mod_lt _ (by omega)) := by
  have hl := roundL_len hi
  rw [lastD_at (by omega)]
  have h1 := roundL_at (k := l.length - 2) hi (by omega)
  rw [List.getElem?_eq_getElem (by omega), List.getElem?_eq_getElem (Nat.mod_lt _ (by omega))] at h1
  have h2 := Option.some.inj h1
  simp only [hl]
  simp only [show l.length - 1 - 1 = l.length - 2 by omega]
  rw [h2]
  simp only [show i + (l.length - 2 + 1) = i + l.length - 1 by omega]
theorem roundL_next {l : List PeerV} {i k q : Nat} (hi : i < l.length) (hk : k + 1 < l.length) (hq : (i + (k + 1)) % l.length = q) (hq2 : q < l.length) : (roundL l i).take (k + 1) = (roundL l i).take k ++ [l[q]] := by
  rw [List.take_add_one, roundL_at hi hk, hq, List.getElem?_eq_getElem hq2]
  rfl
/-- The first k of 160 are known; all others are d. -/
def fillP (f : Nat → PeerV) (d : PeerV) (k : Nat) : List PeerV := (List.range 160).map fun j => if j < k then f j else d
theorem fillP_zero (f : Nat → PeerV) (d : PeerV) : fillP f d 0 = List.replicate 160 d := by
  unfold fillP
  simp only [Nat.not_lt_zero, if_false]
  exact List.map_const' ..
theorem fillP_all (f : Nat → PeerV) (d : PeerV) : fillP f d 160 = (List.range 160).map f := by
  unfold fillP
  refine List.map_congr_left fun j hj => ?_
  rw [if_pos (List.mem_range.1 hj)]
theorem fillP_len (f : Nat → PeerV) (d : PeerV) (k : Nat) : (fillP f d k).length = 160 := by unfold fillP; simp
theorem fillP_set (f : Nat → PeerV) (d : PeerV) {k : Nat} (hk : k < 160) {v : PeerV} (hv : v = f k) : (fillP f d k).set k v = fillP f d (k + 1) := by
  unfold fillP
  refine List.ext_getElem (by simp) fun j h1 h2 => ?_
  rw [List.getElem_set]
  simp only [List.getElem_map, List.getElem_range]
  split
  · rename_i h; subst h; rw [if_pos (by omega)]; exact hv
  · rename_i h
    by_cases h3 : j < k
    · rw [if_pos h3, if_pos (by omega)]
    · rw [if_neg h3, if_neg (by omega)]
theorem fillP_stay (f : Nat → PeerV) (d : PeerV) {k : Nat} (hv : d = f k) : fillP f d k = fillP f d (k + 1) := by
  unfold fillP
  refine List.map_congr_left fun j hj => ?_
  by_cases h3 : j < k
  · rw [if_pos h3, if_pos (by omega)]
  · rw [if_neg h3]
    by_cases h4 : j < k + 1
    · obtain rfl : j = k := by omega
      rw [if_pos (by omega)]; exact hv
    · rw [if_neg h4]
/-- The k-th finger of the i-th peer p. -/
def setF (l : List PeerV) (i : Nat) (p : PeerV) (k : Nat) : PeerV := if ownerI l (p.id + powP k) = i then noneP else l[ownerI l (p.id + powP k)]?.getD noneP
/-- The i-th peer's table. -/
def setT (l : List PeerV) (r : Nat) (i : Nat) (p : PeerV) : Tb :=
  ⟨p, (roundL l i).getLastD noneP, (roundL l i).take r, (List.range 160).map (setF l i p)⟩
def setL (l : List PeerV) (r : Nat) : List Tb := l.mapIdx (setT l r)
def settledT (l : List PeerV) (r : Int) : List Tb × Int := if IsCircle l ∧ 1 ≤ r ∧ r ≤ 8 then (setL l r.toNat, 0) else ([], 1)
theorem settledT_yes {l : List PeerV} {r : Nat} (h : IsCircle l) (h1 : 1 ≤ r) (h2 : r ≤ 8) : settledT l (r : Int) = (setL l r, 0) := by
  unfold settledT
  rw [if_pos ⟨h, by omega, by omega⟩]
  simp only [Int.toNat_natCast]
theorem settledT_no {l : List PeerV} {r : Int} (h : ¬ (IsCircle l ∧ 1 ≤ r ∧ r ≤ 8)) : settledT l r = ([], 1) := if_neg h
theorem setL_take {l : List PeerV} {r k : Nat} (hk : k < l.length) : (setL l r).take (k + 1) = (setL l r).take k ++ [setT l r k l[k]] := by
  rw [List.take_add_one]
  unfold setL
  rw [List.getElem?_mapIdx, List.getElem?_eq_getElem hk]
  rfl
theorem setL_len {l : List PeerV} {r : Nat} : (setL l r).length = l.length := by unfold setL; simp
/-- v is a row of tables in memory that never changes. -/
def TbsIs (M : Mem) (v : Value) (l : List Tb) : Prop := ∃ s : Sl TableV, v = s.val ∧ s.l.map TableV.tb = l ∧ SlK M TableV.segs 44 s ∧ ∀ t ∈ s.l, TableV.ok M t
def TbsE (M : Mem) (v : Value) (r : List Tb × Int) : Prop := ∃ u, v = .tuple #[u, .int .i64 r.2] ∧ TbsIs M u r.1
end Go.Esp
/-
  Rows joined.
-/
set_option linter.unusedSimpArgs false
set_option linter.unusedVariables false
set_option linter.unnecessarySimpa false
set_option maxRecDepth 8000
set_option maxHeartbeats 1000000
namespace Go.Proofs.Ytbjklbmmchiahaa
open Go.Esp
theorem F.ok108 : okFn Try.prog 108 = true := by kernel_rfl

theorem NewF_ok (M : Mem) (p : PeerV) (h : okAddr p.addr) : Fh Try.prog 17 [p.enc] M [] (fun M' v Hout => M' = M ∧ ∃ v2, v = .tuple #[aggV [.one (.int .i64 p.addr), idSeg p.id, .one (.int .i64 (-1)), idSeg 0, .one (.slice none 0 0), .one v2], .int .i64 0] ∧ OSl 25 21 v2 Hout (List.replicate 160 noneP.segs)) := by
  obtain ⟨p_addr, p_id⟩ := p
  simp only at h
  refine fh_enter Try.func17 rfl Try.ntmps17 rfl ?_; intro H
  refine C_seq ?_
  refine C_region (l := [0, 1, 2]) rfl ?_
  refine Y_box ?_; intro b1
  refine Y_alloc F.zero28 ?_; intro b2
  refine Y_assign ?_
  refine XD_end ?_
  refine K_then ?_
  refine Y_pk [3, 2, 1] ?_
  iterate 2 refine C_seq ?_
  refine C_region (l := [0, 1, 2, 3]) rfl ?_
  refine Y_fieldAddr F.foff25_0 ?_
  refine Y_load F.lay3 ?_
  refine X_fs rfl rfl F.ok60 rfl (is_ok _ _) rfl ?_
  rintro _ rfl
  refine Y_not ?_
  refine XD_end ?_
  refine K_then ?_
  refine Y_pk [7, 3, 2, 1] ?_
  refine C_cond rfl (fun hc3 => ?_) (fun hc3 => ?_)
  ·replace hc3 := nT hc3
   contradiction
  ·replace hc3 := nF hc3
   refine C_skip ?_
   refine K_then ?_
   refine Y_pk [3, 2, 1] ?_
   refine C_seq ?_
   refine C_region_any (l := [0, 1, 2, 3, 4, 5, 6, 7]) #[0, 0, 2, 6, 14, 31, 63, 127] _ rfl (by kernel_rfl) (by kernel_rfl) St.drawn (fun _ h => h) ?_
   refine Y_load F.lay25 ?_
   refine X_fs rfl rfl F.ok61 rfl (None_ok _) rfl ?_
   rintro _ rfl
   refine XD_is 10 rfl (show _ = aggV [.one (.int .i64 (-1)), idSeg 0] from rfl) ?_
   refine X_fs rfl rfl F.ok61 rfl (None_ok _) rfl ?_
   rintro _ rfl
   refine XD_is 11 rfl (show _ = aggV [.one (.int .i64 (-1)), idSeg 0] from rfl) ?_
   refine X_buildSliceF rfl rfl F.elem26 F.zero25 rfl rfl (.cons rfl (by constructor) .nil) rfl rfl (by simp only [List.map_cons, List.map_nil] <;> rfl) rfl ?_; intro b4 hob5
   refine X_fhR rfl rfl F.ok62 rfl (Repeat_ok M _ _ hob5) (by repeat first | exact Rem.here _ | exact Rem.two | apply Rem.skip | apply Rem.over) (fun _ _ _ hm hw => (hw.lower (by exact hm)).c) (putE_some rfl) ?_
   rintro v9 M1 hs9 hm1 ⟨hM1, ho9⟩; subst M1
   obtain ⟨ad9, cp9, rfl⟩ := ho9.val
   refine X_build rfl rfl F.bld28 (.cons rfl (by constructor) (.cons rfl (by constructor) (.cons rfl (by constructor) .nil))) rfl rfl ?_
   refine Y_store F.lay28 ?_
   refine Y_assign ?_
   refine XD_end ?_
   refine K_then ?_
   refine Y_pk [3, 2] ?_
   refine C_ret ?_
   refine K_end (.inr rfl) (.cell rfl (by repeat first | exact List.Mem.head _ | refine List.Mem.tail _ ?_ | refine List.mem_append_right _ ?_) F.lay28 rfl rfl (.tmp rfl .nil)) (fun w hw => ?_)
   exact ⟨_, M, _, rfl, Mem.le.refl M, hw.c, rfl, _, rfl, ho9⟩

theorem GrowP_nil (M : Mem) (n : Nat) (hn : n ≤ 1000000) : Fh Try.prog 108 [.slice none 0 0, .int .i64 (n : Int)] M [] (fun M' v Hout => M' = M ∧ OSl 25 21 v Hout []) := by
  refine fh_enter Try.func108 rfl Try.ntmps108 rfl ?_; intro H
  refine C_seq ?_
  refine C_region (l := [0]) rfl ?_
  refine Y_assign ?_
  refine XD_end ?_
  refine K_then ?_
  iterate 2 refine C_seq ?_
  refine C_region (l := [0, 1]) rfl ?_
  refine Y_move ?_
  refine Y_cmp ?_
  refine XD_end ?_
  refine K_then ?_
  refine Y_pk [6, 4, 0, 1] ?_
  refine C_cond rfl (fun hc1 => ?_) (fun hc1 => ?_)
  ·replace hc1 := dT hc1
   (exfalso; omega)
  ·replace hc1 := dF hc1
   refine C_skip ?_
   refine K_then ?_
   refine Y_pk [4, 0, 1] ?_
   iterate 2 refine C_seq ?_
   refine C_region (l := [0, 1, 2, 3, 4, 5, 6, 7]) rfl ?_
   iterate 2 refine Y_move ?_
   refine X_cap_sl rfl rfl rfl rfl F.elem26 rfl ?_
   refine Y_move ?_
   refine Y_len_sl F.elem26 ?_
   iterate 2 refine X_ari rfl rfl rfl rfl rfl (by exact wrap_in (by decide) (by omega)) rfl ?_
   rw [show ((n : Int) - (((0 : Nat) : Int) - ((0 : Nat) : Int))) = (n : Int) by omega]
   refine Y_assign ?_
   refine XD_end ?_
   refine K_then ?_
   refine Y_pk [1, 4, 0] ?_
   refine C_seq ?_
   refine C_region (l := [0, 1]) rfl ?_
   refine Y_move ?_
   refine Y_cmp ?_
   refine XD_end ?_
   refine K_then ?_
   refine Y_pk [16, 1, 4, 0] ?_
   refine C_cond rfl (fun hc2 => ?_) (fun hc2 => ?_)
   ·replace hc2 := dT hc2
    refine C_region (l := [0, 1, 2, 3, 4, 5, 6, 7, 8, 9]) rfl ?_
    iterate 2 refine Y_move ?_
    refine X_cap_sl rfl rfl rfl rfl F.elem26 rfl ?_
    refine X_slice rfl rfl rfl .none (.some (k := 0) rfl rfl) .none F.elem26 (by simp) (by simp) (by simp) (by simp) (show pieceV none 21 0 0 0 = .slice none 0 0 from rfl) rfl ?_
    refine Y_move ?_
    refine X_appendZ (k := n) rfl rfl rfl rfl F.elem26 Try.underlying3 F.zero25 (agg_size rfl) rfl (by omega) (by omega) (by omega) rfl ?_; intro b1 c1 hs1 hc1 ho1
    refine Y_move ?_
    refine Y_len_sl F.elem26 ?_
    refine X_slice rfl rfl rfl .none (.some (k := 0) rfl rfl) .none F.elem26 (by simp) (by simp) (by simp) (by simp) (show pieceV (some ⟨b1, 0, none⟩) 21 0 0 c1 = .slice (some ⟨b1, 0, none⟩) 0 c1 from pieceV_zero) rfl ?_
    refine Y_assign ?_
    refine XD_end ?_
    refine K_then ?_
    refine Y_pk [0, 4] ?_
    refine C_seq ?_
    refine C_region (l := [0, 1]) rfl ?_
    refine Y_move ?_
    refine Y_assign ?_
    refine XD_end ?_
    refine K_then ?_
    refine Y_pk [4] ?_
    refine C_ret ?_
    refine K_end (.inr rfl) (.tmp rfl .nil) (fun w hw => ?_)
    exact ⟨_, M, hs1, rfl, Mem.le.refl M, hw.c, rfl, ho1⟩
   ·replace hc2 := dF hc2
    refine C_skip ?_
    refine K_then ?_
    refine Y_pk [4, 0] ?_
    refine C_seq ?_
    refine C_region (l := [0, 1]) rfl ?_
    refine Y_move ?_
    refine Y_assign ?_
    refine XD_end ?_
    refine K_then ?_
    refine Y_pk [4] ?_
    refine C_ret ?_
    refine K_end (.inr rfl) (.tmp rfl .nil) (fun w hw => ?_)
    exact ⟨_, M, [], rfl, Mem.le.refl M, hw.c, rfl, OSl.nil⟩

theorem Concat_ok (M : Mem) (Hin : Hp) (ad : Option Addr) (c : Nat) (rs : List (Sl PeerV)) (hl : RdS M Hin ad (rs.map (fun s => [.one s.val])) 1) (hks : ∀ s ∈ rs, SlK M PeerV.segs 21 s) (hn : rs.length ≤ 1000000) (hb : ((rs.map Sl.l).flatten).length ≤ 1000000) : Fh Try.prog 93 [.slice ad rs.length c] M Hin (fun M' v Hout => M' = M ∧ ∃ hs, Hout = hs ++ Hin ∧ OSl 25 21 v hs (((rs.map Sl.l).flatten).map PeerV.segs)) := by
  refine fh_enter Try.func93 rfl Try.ntmps93 rfl ?_; intro H
  have hrd := hl.app H
  have nrs : (rs.map (fun s : Sl PeerV => [Seg.one s.val])).length = rs.length := List.length_map ..
  refine C_seq ?_
  refine C_region (l := [0]) rfl ?_
  refine Y_assign ?_
  refine XD_end ?_
  refine K_then ?_
  refine C_seq ?_
  refine C_region (l := [0]) rfl ?_
  refine Y_assign ?_
  refine XD_end ?_
  refine K_then ?_
  iterate 2 refine C_seq ?_
  refine C_region (l := [0, 1, 2]) rfl ?_
  refine Y_move ?_
  refine Y_len_sl F.elem117 ?_
  refine Y_move ?_
  refine XD_end ?_
  refine K_then ?_
  refine C_block ?_
  refine Y_pk [11, 3, 10, 9, 2, 0] ?_
  refine C_loopS (.succ (.succ .zero)) (fun (k : Nat) z => z = [(11, .int .i64 (k : Int)), (3, .int .i64 ((((rs.take k).map Sl.l).flatten.length : Nat) : Int))] ∧ k ≤ rs.length) (fun k => rs.length - k) (0) (⟨rfl, by omega⟩) ?_
  rintro k _ ⟨rfl, hk⟩
  refine C_seq ?_
  refine C_region (l := [0]) rfl ?_
  refine Y_cmp ?_
  refine XD_end ?_
  refine K_then ?_
  refine C_seq ?_
  refine C_cond rfl (fun hc1 => ?_) (fun hc1 => ?_)
  ·replace hc1 := dT hc1
   refine C_skip ?_
   refine K_then ?_
   refine C_seq ?_
   refine C_block ?_
   refine C_seq ?_
   have hi2 : k < rs.length := by omega
   obtain ⟨⟨r_a, r_c, r_l⟩, hr⟩ : ∃ s, rs[k] = s := ⟨_, rfl⟩
   have k_r : SlK M PeerV.segs 21 ⟨r_a, r_c, r_l⟩ := hr ▸ hks rs[k] (List.getElem_mem hi2)
   have hfl := flat_len hi2 hr
   have n_r : (r_l.map PeerV.segs).length = r_l.length := List.length_map ..
   refine C_region (l := [0, 1, 2]) rfl ?_
   refine X_indexAddr rfl rfl rfl rfl F.elem117 (by rfl) (by omega) (by exact RdS.plain (by assumption) (by (simp; omega))) rfl ?_
   refine X_load_rd rfl rfl rfl (by assumption) (by exact row_map (by omega)) F.lay26 rfl rfl rfl ?_
   rw [hr]
   refine Y_assign ?_
   refine XD_end ?_
   refine K_then ?_
   refine C_seq ?_
   refine C_region (l := [0, 1, 2, 3, 4]) rfl ?_
   iterate 2 refine Y_move ?_
   refine Y_len_sl F.elem26 ?_
   refine X_ari rfl rfl rfl rfl rfl (by exact wrap_in (by decide) (by omega)) rfl ?_
   refine Y_assign ?_
   refine XD_end ?_
   refine K_then ?_
   refine C_seq ?_
   refine C_region (l := [0, 1]) rfl ?_
   refine Y_move ?_
   refine Y_cmp ?_
   refine XD_end ?_
   refine K_then ?_
   refine C_cond rfl (fun hc2 => ?_) (fun hc2 => ?_)
   ·replace hc2 := dT hc2
    (exfalso; omega)
   ·replace hc2 := dF hc2
    refine C_skip ?_
    refine K_out ?_
    refine K_then ?_
    refine C_region (l := [0, 1]) rfl ?_
    refine X_ari rfl rfl rfl rfl rfl (by exact wrap_in (by decide) (by omega)) rfl ?_
    refine Y_move ?_
    refine XD_end ?_
    refine K_roundS (a' := [(11, _), (3, _)]) (k + 1) (.cons (k := 11) rfl (.cons (k := 3) rfl (.cons (k := 10) rfl (.cons (k := 9) rfl (.cons (k := 2) rfl (.cons (k := 0) rfl (.nil))))))) (fun w hw => by first | exact hw | exact hw.c) ?_ ?_
    ·exact ⟨by rw [flat_next hi2 hr, List.length_append]; rfl, by omega⟩
    ·omega
  ·replace hc1 := dF hc1
   refine C_exit ?_
   iterate 2 refine K_exit ?_
   refine K_hit ?_
   refine K_then ?_
   refine Y_pk [3, 2, 0] ?_
   refine C_seq ?_
   refine C_region (l := [0, 1, 2]) rfl ?_
   refine Y_move ?_
   refine X_fhR rfl rfl F.ok108 rfl (GrowP_nil M _ (by have h9 : k = rs.length := (by omega); rw [h9, List.take_length]; exact hb)) (by repeat first | exact Rem.here _ | exact Rem.two | apply Rem.skip | apply Rem.over) (fun _ _ _ hm hw => (hw.lower (by exact hm)).c) (putE_some rfl) ?_
   rintro v6 M1 hs6 hm1 ⟨hM1, ho6⟩; subst M1
   refine Y_assign ?_
   refine XD_end ?_
   refine K_then ?_
   refine Y_pk [6, 2, 0] ?_
   iterate 2 refine C_seq ?_
   refine C_region (l := [0, 1, 2]) rfl ?_
   refine Y_move ?_
   refine Y_len_sl F.elem117 ?_
   refine Y_move ?_
   refine XD_end ?_
   refine K_then ?_
   refine Y_pk [27, 26, 25, 6, 2] ?_
   refine C_block ?_
   refine Y_pk [27, 6, 26, 25, 2] ?_
   refine C_loopO (Hin := hs6) (.succ (.succ .zero)) (by repeat first | exact Rem.here _ | exact Rem.two | apply Rem.skip | apply Rem.over) (fun (k : Nat) M1 h1 z => ∃ v, M1 = M ∧ z = [(27, .int .i64 (k : Int)), (6, v)] ∧ k ≤ rs.length ∧ OSl 25 21 v h1 (((rs.take k).map Sl.l).flatten.map PeerV.segs)) (fun k => rs.length - k) (0) (⟨_, rfl, rfl, by omega, ho6⟩) ?_
   rintro k M1 h1 z hm1 ⟨v0, hM1, rfl, hk, ho⟩
   subst hM1
   obtain ⟨ad0, cp0, rfl⟩ := ho.valL
   have hml : (((rs.take k).map Sl.l).flatten.map PeerV.segs).length = ((rs.take k).map Sl.l).flatten.length := List.length_map ..
   have hrd2 : RdS M1 (h1 ++ (Hin ++ H)) ad (rs.map (fun s => [.one s.val])) 1 := hrd.cnt (by intro zz; simp only [cnt_app]; omega)
   refine C_seq ?_
   refine C_region (l := [0]) rfl ?_
   refine Y_cmp ?_
   refine XD_end ?_
   refine K_then ?_
   refine C_seq ?_
   refine C_cond rfl (fun hc3 => ?_) (fun hc3 => ?_)
   ·replace hc3 := dT hc3
    refine C_skip ?_
    refine K_then ?_
    refine C_seq ?_
    refine C_block ?_
    refine C_seq ?_
    have hi2 : k < rs.length := by omega
    obtain ⟨⟨r_a, r_c, r_l⟩, hr⟩ : ∃ s, rs[k] = s := ⟨_, rfl⟩
    have k_r : SlK M1 PeerV.segs 21 ⟨r_a, r_c, r_l⟩ := hr ▸ hks rs[k] (List.getElem_mem hi2)
    have hfl := flat_len hi2 hr
    have n_r : (r_l.map PeerV.segs).length = r_l.length := List.length_map ..
    refine C_region (l := [0, 1, 2]) rfl ?_
    refine X_indexAddr rfl rfl rfl rfl F.elem117 (by rfl) (by omega) (by exact RdS.plain (by assumption) (by (simp; omega))) rfl ?_
    refine X_load_rd rfl rfl rfl (by assumption) (by exact row_map (by omega)) F.lay26 rfl rfl rfl ?_
    rw [hr]
    refine Y_assign ?_
    refine XD_end ?_
    refine K_then ?_
    refine C_region (l := [0, 1, 2, 3]) rfl ?_
    iterate 2 refine Y_move ?_
    refine X_appendK (m := 1000000) rfl rfl rfl rfl rfl F.elem26 F.zero25 (by exact agg_size rfl) rfl (by assumption) (by repeat first | exact Rem.here _ | exact Rem.two | apply Rem.skip | apply Rem.over) (k_r.h1) PeerV.flat (by omega) (by decide) rfl ?_; intro v6 hs5 ho4; obtain ⟨adv6, cpv6, rfl⟩ := ho4.val
    refine Y_assign ?_
    refine XD_end ?_
    refine K_out ?_
    refine K_then ?_
    refine C_region (l := [0, 1]) rfl ?_
    refine X_ari rfl rfl rfl rfl rfl (by exact wrap_in (by decide) (by omega)) rfl ?_
    refine Y_move ?_
    refine XD_end ?_
    refine K_roundO (a' := [(27, _), (6, _)]) (k + 1) (hs5) (.cons (k := 27) rfl (.cons (k := 6) rfl (.cons (k := 26) rfl (.cons (k := 25) rfl (.cons (k := 2) rfl (.nil)))))) (by exact Mem.le.refl _) (fun w hw => by first | exact hw | exact hw.c) ?_ ?_
    ·refine ⟨_, rfl, rfl, by omega, ?_⟩
     rw [flat_next hi2 hr, List.map_append]
     exact ho4
    ·omega
   ·replace hc3 := dF hc3
    refine C_exit ?_
    iterate 2 refine K_exit ?_
    refine K_hit ?_
    refine K_then ?_
    refine Y_pk [6, 2] ?_
    refine C_seq ?_
    refine C_region (l := [0, 1]) rfl ?_
    refine Y_move ?_
    refine Y_assign ?_
    refine XD_end ?_
    refine K_then ?_
    refine Y_pk [2] ?_
    refine C_ret ?_
    refine K_end (.inr rfl) (.tmp rfl .nil) (fun w hw => ?_)
    obtain rfl : k = rs.length := by omega
    rw [List.take_length] at ho ⊢
    exact ⟨_, M1, h1 ++ Hin, rfl, Mem.le.refl _, hw.c, rfl, h1, rfl, ho⟩

end Go.Proofs.Ytbjklbmmchiahaa
/-
  Settled tables.
-/
set_option linter.unusedSimpArgs false
set_option linter.unusedVariables false
set_option linter.unnecessarySimpa false
set_option maxRecDepth 8000
set_option maxHeartbeats 1000000
namespace Go.Proofs.Ytbjklbmmchiahaa
open Go.Esp
theorem F.ok17 : okFn Try.prog 17 = true := by kernel_rfl
theorem F.ok93 : okFn Try.prog 93 = true := by kernel_rfl
theorem F.ok94 : okFn Try.prog 94 = true := by kernel_rfl

theorem Settled_ok (M : Mem) (l : (Sl PeerV)) (r : Int) (hl0 : SlK M PeerV.segs 21 l) : Esp.Fn Try.prog 52 [Sl.val l, .int .i64 r] M (fun M' v => TbsE M' v (settledT l.l r)) := by
  obtain ⟨l_a, l_c, l_l⟩ := l
  have k_l : SlK M PeerV.segs 21 ⟨l_a, l_c, l_l⟩ := hl0
  have s_l : SlM M l_a (l_l.map PeerV.segs) 21 := k_l.h1
  have n_l : (l_l.map PeerV.segs).length = l_l.length := List.length_map ..
  have m_l : l_l.length ≤ 9223372036854775807 := k_l.h2
  have c_l : l_l.length ≤ l_c := k_l.h3
  refine fn_enter Try.func52 rfl Try.ntmps52 rfl ?_; intro H
  refine C_seq ?_
  refine C_region (l := [0, 1]) rfl ?_
  iterate 2 refine Y_assign ?_
  refine XD_end ?_
  refine K_then ?_
  iterate 2 refine C_seq ?_
  refine C_region (l := [0, 1, 2, 3, 4, 5, 6, 7, 8, 9, 10]) rfl ?_
  refine Y_move ?_
  refine X_fs rfl rfl F.ok92 rfl (Circ_ok _ ⟨_, _, _⟩ (by assumption)) rfl ?_
  rintro _ rfl
  refine Y_not ?_
  refine Y_move ?_
  refine XD_part 19 rfl (fun hc1 => ?_) (fun hc1 => ?_)
  ·replace hc1 := nT hc1
   simp only [PeerV.eta, TableV.eta, RouteV.eta] at hc1
   iterate 2 refine Y_skip ?_
   refine Y_pick ?_
   refine Y_move ?_
   iterate 2 refine Y_skip ?_
   refine Y_pick ?_
   refine XD_end ?_
   refine K_then ?_
   refine Y_pk [26, 5, 4, 0, 1] ?_
   refine C_true rfl ?_
   refine C_seq ?_
   refine C_region (l := [0, 1]) rfl ?_
   iterate 2 refine Y_assign ?_
   refine XD_end ?_
   refine K_then ?_
   refine Y_pk [5, 4, 0, 1] ?_
   refine C_ret ?_
   refine K_ret ?_
   refine K_end (.inr rfl) (.tmp rfl (.tmp rfl .nil)) (fun w hw => ?_)
   refine ⟨_, M, rfl, Mem.le.refl M, hw.c, ?_⟩
   rw [show settledT l_l r = ([], 1) from settledT_no (by rintro ⟨g1, g2, g3⟩; first | exact absurd g1 (by assumption) | omega)]
   exact ⟨_, rfl, ⟨none, 0, []⟩, rfl, rfl, SlK.nil, fun t ht => by cases ht⟩
  ·replace hc1 := nF hc1
   simp only [PeerV.eta, TableV.eta, RouteV.eta] at hc1
   refine Y_move ?_
   refine Y_cmp ?_
   refine Y_pick ?_
   refine Y_move ?_
   refine XD_part 23 rfl (fun hc2 => ?_) (fun hc2 => ?_)
   ·replace hc2 := dT hc2
    iterate 2 refine Y_skip ?_
    refine Y_pick ?_
    refine XD_end ?_
    refine K_then ?_
    refine Y_pk [26, 5, 4, 0, 1] ?_
    refine C_true rfl ?_
    refine C_seq ?_
    refine C_region (l := [0, 1]) rfl ?_
    iterate 2 refine Y_assign ?_
    refine XD_end ?_
    refine K_then ?_
    refine Y_pk [5, 4, 0, 1] ?_
    refine C_ret ?_
    refine K_ret ?_
    refine K_end (.inr rfl) (.tmp rfl (.tmp rfl .nil)) (fun w hw => ?_)
    refine ⟨_, M, rfl, Mem.le.refl M, hw.c, ?_⟩
    rw [show settledT l_l r = ([], 1) from settledT_no (by rintro ⟨g1, g2, g3⟩; first | exact absurd g1 (by assumption) | omega)]
    exact ⟨_, rfl, ⟨none, 0, []⟩, rfl, rfl, SlK.nil, fun t ht => by cases ht⟩
   ·replace hc2 := dF hc2
    refine Y_move ?_
    refine Y_cmp ?_
    refine Y_pick ?_
    refine XD_end ?_
    refine K_then ?_
    refine Y_pk [26, 5, 4, 0, 1] ?_
    refine C_cond rfl (fun hc3 => ?_) (fun hc3 => ?_)
    ·replace hc3 := dT hc3
     refine C_seq ?_
     refine C_region (l := [0, 1]) rfl ?_
     iterate 2 refine Y_assign ?_
     refine XD_end ?_
     refine K_then ?_
     refine Y_pk [5, 4, 0, 1] ?_
     refine C_ret ?_
     refine K_ret ?_
     refine K_end (.inr rfl) (.tmp rfl (.tmp rfl .nil)) (fun w hw => ?_)
     refine ⟨_, M, rfl, Mem.le.refl M, hw.c, ?_⟩
     rw [show settledT l_l r = ([], 1) from settledT_no (by rintro ⟨g1, g2, g3⟩; first | exact absurd g1 (by assumption) | omega)]
     exact ⟨_, rfl, ⟨none, 0, []⟩, rfl, rfl, SlK.nil, fun t ht => by cases ht⟩
    ·replace hc3 := dF hc3
     refine C_skip ?_
     refine K_then ?_
     refine Y_pk [5, 4, 0, 1] ?_
     refine C_seq ?_
     obtain ⟨rn, rfl⟩ : ∃ n : Nat, r = n := ⟨r.toNat, by omega⟩
     have hc : IsCircle l_l := by assumption
     have hc1 := hc.1
     refine C_region (l := [0]) rfl ?_
     refine Y_assign ?_
     refine XD_end ?_
     refine K_then ?_
     iterate 2 refine C_seq ?_
     refine C_region (l := [0, 1, 2]) rfl ?_
     refine Y_move ?_
     refine Y_len_sl F.elem26 ?_
     refine Y_move ?_
     refine XD_end ?_
     refine K_then ?_
     refine C_block ?_
     refine Y_pk [29, 6, 28, 27, 5, 4, 0, 1] ?_
     refine C_loopO (Hin := []) (.succ (.succ .zero)) (by repeat first | exact Rem.here _ | exact Rem.two | apply Rem.skip | apply Rem.over) (fun (i : Nat) M1 h1 z => ∃ (acc : List TableV) (v : Value), z = [(29, .int .i64 (i : Int)), (6, v)] ∧ i ≤ l_l.length ∧ OSl 28 44 v h1 (acc.map TableV.segs) ∧ (∀ t ∈ acc, TableV.ok M1 t) ∧ acc.map TableV.tb = (setL l_l rn).take i) (fun i => l_l.length - i) (0) (⟨[], _, rfl, by omega, OSl.nil, by simp, rfl⟩) ?_
     rintro i M1 h1 z hm1 ⟨acc, v0, rfl, hi, ho, hok, hI⟩
     obtain ⟨ad0, cp0, rfl⟩ := ho.valL
     have hml : (acc.map TableV.segs).length = acc.length := List.length_map ..
     have hal : acc.length = i := by have h9 := congrArg List.length hI; simp only [List.length_map, List.length_take, setL_len] at h9; omega
     have s_l1 := s_l.mono hm1
     have k_l1 := k_l.mono hm1
     refine C_seq ?_
     refine C_region (l := [0]) rfl ?_
     refine Y_cmp ?_
     refine XD_end ?_
     refine K_then ?_
     refine C_seq ?_
     refine C_cond rfl (fun hc4 => ?_) (fun hc4 => ?_)
     ·replace hc4 := dT hc4
      refine C_skip ?_
      refine K_then ?_
      refine C_seq ?_
      refine C_block ?_
      refine C_seq ?_
      have hi2 : i < l_l.length := by omega
      refine C_region (l := [0, 1, 2, 3, 4, 5]) rfl ?_
      refine Y_move ?_
      refine X_indexAddr rfl rfl rfl rfl F.elem26 (by rfl) (by omega) (by exact SlM.plain (by assumption) (by (simp; omega))) rfl ?_
      refine X_load_el rfl rfl rfl (by assumption) (by exact row_map (by omega)) F.lay25 rfl rfl rfl ?_
      refine Y_alloc F.zero25 ?_; intro b5
      refine Y_assign ?_
      refine Y_store F.lay25 ?_
      refine XD_end ?_
      refine K_then ?_
      refine C_seq ?_
      refine C_region (l := [0, 1, 2, 3, 4, 5, 6, 7]) rfl ?_
      refine Y_load F.lay25 ?_
      refine X_fhR rfl rfl F.ok17 rfl (NewF_ok _ l_l[i] (hc.2.1 _ (List.getElem_mem hi2))) (by repeat first | exact Rem.here _ | exact Rem.two | apply Rem.skip | apply Rem.over) (fun _ _ _ hm hw => (hw.lower (by exact hm)).c) (putE_some rfl) ?_
      rintro _ M9 hsF hm9 ⟨hM9, v2, rfl, hoF⟩; subst M9
      obtain ⟨adF, cpF, rfl⟩ := hoF.val
      refine Y_move ?_
      iterate 2 refine Y_extract ?_
      refine Y_alloc F.zero28 ?_; intro b6
      refine Y_store F.lay28 ?_
      refine Y_assign ?_
      refine XD_end ?_
      refine K_then ?_
      refine Y_pk [9, 38, 37, 34, 36, 35, 7, 8, 33, 32, 31, 30, 29, 6, 28, 27, 5, 4, 0, 1] ?_
      refine C_seq ?_
      refine C_region_any (l := [0, 1, 2, 3, 4, 5, 6, 7, 8, 9]) #[0, 0, 2, 7, 0, 0, 48, 127, 255, 511] _ rfl (by kernel_rfl) (by kernel_rfl) St.drawn (fun _ h => h) ?_
      iterate 2 refine Y_move ?_
      refine X_ari rfl rfl rfl rfl rfl (by exact wrap_in (by decide) (by omega)) rfl ?_
      refine X_slice rfl rfl rfl (.some (k := (i + 1)) rfl rfl) .none .none F.elem26 (by simp only [Option.getD_none]; omega) (by simp only [Option.getD_some, Option.getD_none]; omega) (by simp only [Option.getD_some, Option.getD_none]; omega) (by simp) (pieceV_drop (l := l_l) (k := (i + 1))) rfl ?_
      iterate 2 refine Y_move ?_
      refine X_slice rfl rfl rfl .none (.some (k := i) rfl rfl) .none F.elem26 (by simp only [Option.getD_none]; omega) (by simp only [Option.getD_some, Option.getD_none]; omega) (by simp only [Option.getD_some, Option.getD_none]; omega) (by simp) (pieceV_take (l := l_l) (k := i) (by omega)) rfl ?_
      refine X_buildSliceF rfl rfl F.elem117 F.zero26 rfl rfl (.cons rfl (by constructor) (.cons rfl (by constructor) .nil)) rfl rfl (by simp only [List.map_cons, List.map_nil] <;> rfl) rfl ?_; intro b7 hob8
      refine X_fhR rfl rfl F.ok93 rfl (Concat_ok M1 _ _ _ ([⟨shiftA l_a l_c (i + 1) 21, l_c - (i + 1), l_l.drop (i + 1)⟩, ⟨l_a, l_c, l_l.take i⟩] : List (Sl PeerV)) (hob8.rd M1) (by intro s9 hs9; simp only [List.mem_cons, List.not_mem_nil, or_false] at hs9; rcases hs9 with rfl | rfl; exact k_l1.drop (i + 1) (by omega); exact k_l1.take i (by omega)) (by simp) (by simp; omega)) (by repeat first | exact Rem.here _ | exact Rem.two | apply Rem.skip | apply Rem.over) (fun _ _ _ hm hw => (hw.lower (by exact hm)).c) (putE_some rfl) ?_
      rintro vR M9 _ hm9 ⟨hM9, hsR, rfl, hoR⟩; subst M9
      obtain ⟨R_l, hR⟩ : ∃ x, roundL l_l i = x := ⟨_, rfl⟩
      replace hoR : OSl 25 21 vR hsR (R_l.map PeerV.segs) := by rw [← hR]; unfold roundL; simpa using hoR
      obtain ⟨R_a, R_c, rfl⟩ := hoR.valL
      simp only [List.append_assoc]
      refine Y_assign ?_
      refine XD_end ?_
      refine K_then ?_
      iterate 2 refine C_seq ?_
      have hRl : R_l.length = l_l.length - 1 := by rw [← hR]; exact roundL_len hi2
      refine C_frz hoR (by repeat first | exact Rem.here _ | exact Rem.two | apply Rem.skip | apply Rem.over) (fun M2 hm2 k_R => ?_)
      have s_R := k_R.h1
      have c_R : R_l.length ≤ R_c := k_R.h3
      have n_R : (R_l.map PeerV.segs).length = R_l.length := List.length_map ..
      refine C_region (l := [0, 1, 2]) rfl ?_
      refine Y_move ?_
      refine Y_len_sl F.elem26 ?_
      refine Y_cmp ?_
      refine XD_end ?_
      refine K_then ?_
      refine C_cond rfl (fun hc9 => ?_) (fun hc9 => ?_)
      ·replace hc9 := dT hc9
       refine C_seq ?_
       refine C_region (l := [0, 1, 2, 3, 4, 5, 6, 7]) rfl ?_
       iterate 2 refine Y_move ?_
       refine Y_len_sl F.elem26 ?_
       refine X_ari rfl rfl rfl rfl rfl (by exact wrap_in (by decide) (by omega)) rfl ?_
       rw [show (((R_l.length : Nat) : Int) - 1) = ((R_l.length - 1 : Nat) : Int) by omega]
       refine X_indexAddr rfl rfl rfl rfl F.elem26 (by rfl) (by omega) (by exact SlM.plain (by assumption) (by (simp; omega))) rfl ?_
       refine X_load_el rfl rfl rfl (by assumption) (by exact row_map (by (simp; omega))) F.lay25 rfl rfl rfl ?_
       refine Y_fieldAddr F.foff28_1 ?_
       refine Y_store F.lay25 ?_
       refine XD_end ?_
       refine K_then ?_
       refine C_region (l := [0, 1, 2, 3, 4, 5, 6, 7, 8]) rfl ?_
       iterate 3 refine Y_move ?_
       refine Y_len_sl F.elem26 ?_
       refine X_min rfl rfl rfl rfl rfl rfl ?_
       obtain ⟨m9, hmn⟩ : ∃ m, m = min rn R_l.length := ⟨_, rfl⟩
       rw [show (if ((R_l.length : Nat) : Int) < (rn : Int) then ((R_l.length : Nat) : Int) else (rn : Int)) = (m9 : Int) by split <;> omega]
       refine X_slice rfl rfl rfl .none (.some (k := m9) rfl rfl) .none F.elem26 (by simp only [Option.getD_none]; omega) (by simp only [Option.getD_some, Option.getD_none]; omega) (by simp only [Option.getD_some, Option.getD_none]; omega) (by simp) (pieceV_take (l := R_l) (k := m9) (by omega)) rfl ?_
       refine X_fhR rfl rfl F.ok67 rfl (CloneP_ok M2 _ _ (R_l.take m9) (k_R.take m9 (by omega)) (by rw [List.length_take]; omega)) (by repeat first | exact Rem.here _ | exact Rem.two | apply Rem.skip | apply Rem.over) (fun _ _ _ hm hw => (hw.lower (by exact hm)).c) (putE_some rfl) ?_
       rintro vS M9 hsS hm9 ⟨hM9, hoS⟩; subst M9
       obtain ⟨adS, cpS, rfl⟩ := hoS.valL
       refine Y_fieldAddr F.foff28_2 ?_
       refine Y_store F.lay26 ?_
       refine XD_end ?_
       refine K_then ?_
       refine C_seq ?_
       refine C_frz hoS (by repeat first | exact Rem.here _ | exact Rem.two | apply Rem.skip | apply Rem.over) (fun M3 hm3 k_S => ?_)
       refine C_region (l := [0, 1, 2, 3, 4, 5, 6, 7]) rfl ?_
       iterate 2 refine Y_move ?_
       refine X_fn rfl rfl F.ok94 rfl (Fingers_ok M3 ⟨l_a, l_c, l_l⟩ (i : Int) (k_l.mono (hm1.trans (hm2.trans hm3)))) rfl ?_
       rintro _ M4 hm4 hF9
       replace hF9 : IntsE M4 _ (fingersR l_l ((i : Nat) : Int)) := hF9
       rw [fingersR_yes hc hi2] at hF9
       obtain ⟨⟨G_a, G_c, G_l⟩, rfl, hG, k_G⟩ := hF9
       simp only at hG
       have s_G := k_G.h1
       simp only at s_G
       have hGl : G_l.length = 160 := by rw [hG]; simp
       have n_G : (G_l.map (oneI .i64)).length = G_l.length := List.length_map ..
       have s_l4 := s_l.mono ((hm1.trans (hm2.trans hm3)).trans hm4)
       refine Y_move ?_
       iterate 2 refine Y_extract ?_
       iterate 2 refine Y_assign ?_
       refine XD_end ?_
       refine K_then ?_
       refine Y_pk [12, 71, 70, 66, 69, 68, 67, 65, 64, 63, 62, 61, 60, 59, 58, 57, 56, 55, 54, 53, 52, 51, 50, 49, 48, 11, 47, 46, 45, 44, 43, 42, 41, 40, 39, 9, 38, 37, 34, 36, 35, 7, 8, 33, 32, 31, 30, 29, 6, 28, 27, 5, 4, 0, 1] ?_
       iterate 2 refine C_seq ?_
       refine C_region (l := [0, 1, 2]) rfl ?_
       refine Y_move ?_
       refine Y_len_sl F.elem41 ?_
       refine Y_move ?_
       refine XD_end ?_
       refine K_then ?_
       refine C_block ?_
       refine Y_pk [74, 73, 72, 12, 71, 70, 66, 69, 68, 67, 65, 64, 63, 62, 61, 60, 59, 58, 57, 56, 55, 54, 53, 52, 51, 50, 49, 48, 11, 47, 46, 45, 44, 43, 42, 41, 40, 39, 9, 38, 37, 34, 36, 35, 7, 8, 33, 32, 31, 30, 29, 6, 28, 27, 5, 4, 0, 1] ?_
       refine C_loopO2 (Hin := [(b6, rowO [.one (.int .i64 l_l[i].addr), idSeg l_l[i].id, .one (.int .i64 R_l[R_l.length - 1].addr), idSeg R_l[R_l.length - 1].id, .one (.slice adS (R_l.take m9).length cpS), .one (.slice adF 160 cpF)] 28)]) (Hin2 := hsF) (.succ .zero) (by repeat first | exact Rem.here _ | exact Rem.two | apply Rem.skip | apply Rem.over) (by repeat first | exact Rem.here _ | exact Rem.two | apply Rem.skip | apply Rem.over) (fun (k : Nat) M5 h5 z => ∃ hs, M5 = M4 ∧ z = [(74, .int .i64 (k : Int))] ∧ k ≤ 160 ∧ h5 = (b6, rowO [.one (.int .i64 l_l[i].addr), idSeg l_l[i].id, .one (.int .i64 R_l[R_l.length - 1].addr), idSeg R_l[R_l.length - 1].id, .one (.slice adS (R_l.take m9).length cpS), .one (.slice adF 160 cpF)] 28) :: hs ∧ OSl 25 21 (.slice adF 160 cpF) hs ((fillP (setF l_l i l_l[i]) noneP k).map PeerV.segs)) (fun k => 160 - k) (0) (⟨hsF, rfl, rfl, by omega, rfl, by rw [fillP_zero, List.map_replicate]; exact hoF⟩) ?_
       rintro k M5 h5 z hm5 ⟨hs5, hM5, rfl, hk, rfl, ho5⟩
       subst hM5
       have hnw : ((fillP (setF l_l i l_l[i]) noneP k).map PeerV.segs).length = 160 := by rw [List.length_map, fillP_len]
       simp only [List.cons_append, List.nil_append]
       refine C_seq ?_
       refine C_region (l := [0]) rfl ?_
       refine Y_cmp ?_
       refine XD_end ?_
       refine K_then ?_
       refine C_seq ?_
       refine C_cond rfl (fun hc10 => ?_) (fun hc10 => ?_)
       ·replace hc10 := dT hc10
        refine C_skip ?_
        refine K_then ?_
        refine C_seq ?_
        refine C_block ?_
        refine C_seq ?_
        refine C_region (l := [0, 1, 2, 3, 4]) rfl ?_
        refine Y_move ?_
        refine X_indexAddr rfl rfl rfl rfl F.elem41 (by rfl) (by omega) (by exact SlM.plain (by assumption) (by (simp; omega))) rfl ?_
        refine X_load_el rfl rfl rfl (by assumption) (by exact row_map (by omega)) F.lay3 rfl rfl rfl ?_
        have hGk : G_l[k] = ((ownerI l_l (l_l[i].id + powP k) : Nat) : Int) := by simp only [hG, List.getElem_map, List.getElem_range]; rfl
        have ho9 := ownerI_lt (l := l_l) (x := l_l[i].id + powP k) (by omega)
        generalize hog : ownerI l_l (l_l[i].id + powP k) = o9 at hGk ho9
        simp only [List.get_eq_getElem, hGk]
        iterate 2 refine Y_assign ?_
        refine XD_end ?_
        refine K_then ?_
        refine C_seq ?_
        refine C_region (l := [0, 1, 2]) rfl ?_
        iterate 2 refine Y_move ?_
        refine Y_cmp ?_
        refine XD_end ?_
        refine K_then ?_
        refine C_cond rfl (fun hc11 => ?_) (fun hc11 => ?_)
        ·replace hc11 := nT hc11
         refine C_region_any (l := [0, 1, 2, 3, 4, 5, 6, 7, 8]) #[0, 1, 0, 0, 0, 24, 56, 127, 255] _ rfl (by kernel_rfl) (by kernel_rfl) St.drawn (fun _ h => h) ?_
         refine Y_fieldAddr F.foff28_3 ?_
         refine Y_load F.lay26 ?_
         iterate 3 refine Y_move ?_
         refine X_indexAddr rfl rfl rfl rfl F.elem26 (by rfl) (by omega) (by exact SlM.plain (by assumption) (by (simp; omega))) rfl ?_
         refine X_load_el rfl rfl rfl (by assumption) (by exact row_map (by omega)) F.lay25 rfl rfl rfl ?_
         obtain ⟨bF, rfl⟩ := ho5.someB (by omega)
         refine X_indexAddr rfl rfl rfl rfl F.elem26 (by rfl) (by omega) (by exact ⟨_, _, rfl⟩) rfl ?_
         refine X_storeO (b := bF) (j := k) rfl rfl rfl rfl (by constructor) (flat_one rfl (flat_id flat_nil)) F.lay25 rfl rfl ho5 (by repeat first | exact Rem.here _ | exact Rem.two | apply Rem.skip | apply Rem.over) (by omega) ?_; intro hs7 ho7
         replace ho7 : OSl 25 21 (.slice (some ⟨bF, 0, none⟩) 160 cpF) hs7 ((fillP (setF l_l i l_l[i]) noneP (k + 1)).map PeerV.segs) := by rw [← fillP_set (setF l_l i l_l[i]) noneP (show k < 160 by omega) (v := l_l[o9]) (by unfold setF; rw [hog, if_neg (by omega), List.getElem?_eq_getElem ho9]; rfl), List.map_set]; exact ho7.as (by simp [hnw])
         refine XD_end ?_
         refine K_out ?_
         refine K_then ?_
         refine C_region (l := [0, 1]) rfl ?_
         refine X_ari rfl rfl rfl rfl rfl (by exact wrap_in (by decide) (by omega)) rfl ?_
         refine Y_move ?_
         refine XD_end ?_
         refine K_roundO (a' := [(74, _)]) (k + 1) ((b6, rowO [.one (.int .i64 l_l[i].addr), idSeg l_l[i].id, .one (.int .i64 R_l[R_l.length - 1].addr), idSeg R_l[R_l.length - 1].id, .one (.slice adS (R_l.take m9).length cpS), .one (.slice (some ⟨bF, 0, none⟩) 160 cpF)] 28) :: hs7) (.cons (k := 74) rfl (.cons (k := 73) rfl (.cons (k := 72) rfl (.cons (k := 12) rfl (.cons (k := 71) rfl (.cons (k := 70) rfl (.cons (k := 66) rfl (.cons (k := 69) rfl (.cons (k := 68) rfl (.cons (k := 67) rfl (.cons (k := 65) rfl (.cons (k := 64) rfl (.cons (k := 63) rfl (.cons (k := 62) rfl (.cons (k := 61) rfl (.cons (k := 60) rfl (.cons (k := 59) rfl (.cons (k := 58) rfl (.cons (k := 57) rfl (.cons (k := 56) rfl (.cons (k := 55) rfl (.cons (k := 54) rfl (.cons (k := 53) rfl (.cons (k := 52) rfl (.cons (k := 51) rfl (.cons (k := 50) rfl (.cons (k := 49) rfl (.cons (k := 48) rfl (.cons (k := 11) rfl (.cons (k := 47) rfl (.cons (k := 46) rfl (.cons (k := 45) rfl (.cons (k := 44) rfl (.cons (k := 43) rfl (.cons (k := 42) rfl (.cons (k := 41) rfl (.cons (k := 40) rfl (.cons (k := 39) rfl (.cons (k := 9) rfl (.cons (k := 38) rfl (.cons (k := 37) rfl (.cons (k := 34) rfl (.cons (k := 36) rfl (.cons (k := 35) rfl (.cons (k := 7) rfl (.cons (k := 8) rfl (.cons (k := 33) rfl (.cons (k := 32) rfl (.cons (k := 31) rfl (.cons (k := 30) rfl (.cons (k := 29) rfl (.cons (k := 6) rfl (.cons (k := 28) rfl (.cons (k := 27) rfl (.cons (k := 5) rfl (.cons (k := 4) rfl (.cons (k := 0) rfl (.cons (k := 1) rfl (.nil))))))))))))))))))))))))))))))))))))))))))))))))))))))))))) (by exact Mem.le.refl _) (fun w hw => by first | exact hw | exact hw.c) ?_ ?_
         ·exact ⟨hs7, rfl, rfl, by omega, rfl, ho7⟩
         ·omega
        ·replace hc11 := nF hc11
         refine C_skip ?_
         refine K_out ?_
         refine K_then ?_
         refine C_region (l := [0, 1]) rfl ?_
         refine X_ari rfl rfl rfl rfl rfl (by exact wrap_in (by decide) (by omega)) rfl ?_
         refine Y_move ?_
         refine XD_end ?_
         refine K_roundO (a' := [(74, _)]) (k + 1) ((b6, rowO [.one (.int .i64 l_l[i].addr), idSeg l_l[i].id, .one (.int .i64 R_l[R_l.length - 1].addr), idSeg R_l[R_l.length - 1].id, .one (.slice adS (R_l.take m9).length cpS), .one (.slice adF 160 cpF)] 28) :: hs5) (.cons (k := 74) rfl (.cons (k := 73) rfl (.cons (k := 72) rfl (.cons (k := 12) rfl (.cons (k := 71) rfl (.cons (k := 70) rfl (.cons (k := 66) rfl (.cons (k := 69) rfl (.cons (k := 68) rfl (.cons (k := 67) rfl (.cons (k := 65) rfl (.cons (k := 64) rfl (.cons (k := 63) rfl (.cons (k := 62) rfl (.cons (k := 61) rfl (.cons (k := 60) rfl (.cons (k := 59) rfl (.cons (k := 58) rfl (.cons (k := 57) rfl (.cons (k := 56) rfl (.cons (k := 55) rfl (.cons (k := 54) rfl (.cons (k := 53) rfl (.cons (k := 52) rfl (.cons (k := 51) rfl (.cons (k := 50) rfl (.cons (k := 49) rfl (.cons (k := 48) rfl (.cons (k := 11) rfl (.cons (k := 47) rfl (.cons (k := 46) rfl (.cons (k := 45) rfl (.cons (k := 44) rfl (.cons (k := 43) rfl (.cons (k := 42) rfl (.cons (k := 41) rfl (.cons (k := 40) rfl (.cons (k := 39) rfl (.cons (k := 9) rfl (.cons (k := 38) rfl (.cons (k := 37) rfl (.cons (k := 34) rfl (.cons (k := 36) rfl (.cons (k := 35) rfl (.cons (k := 7) rfl (.cons (k := 8) rfl (.cons (k := 33) rfl (.cons (k := 32) rfl (.cons (k := 31) rfl (.cons (k := 30) rfl (.cons (k := 29) rfl (.cons (k := 6) rfl (.cons (k := 28) rfl (.cons (k := 27) rfl (.cons (k := 5) rfl (.cons (k := 4) rfl (.cons (k := 0) rfl (.cons (k := 1) rfl (.nil))))))))))))))))))))))))))))))))))))))))))))))))))))))))))) (by exact Mem.le.refl _) (fun w hw => by first | exact hw | exact hw.c) ?_ ?_
         ·refine ⟨hs5, rfl, rfl, by omega, rfl, ?_⟩
          rw [← fillP_stay _ _ (show noneP = setF l_l i l_l[i] k from (if_pos (by omega)).symm)]; exact ho5
         ·omega
       ·replace hc10 := dF hc10
        refine C_exit ?_
        iterate 2 refine K_exit ?_
        refine K_hit ?_
        refine K_then ?_
        obtain rfl : k = 160 := by omega
        rw [fillP_all] at ho5
        refine C_frz (l := (List.range 160).map (setF l_l i l_l[i])) ho5 (by repeat first | exact Rem.here _ | exact Rem.two | apply Rem.skip | apply Rem.over) (fun M6 hm6 k_F => ?_)
        refine C_region (l := [0, 1, 2, 3, 4]) rfl ?_
        refine Y_move ?_
        refine Y_load F.lay28 ?_
        refine X_buildSliceF rfl rfl F.elem60 F.zero28 rfl rfl (.cons rfl (by constructor) .nil) rfl rfl (by simp only [List.map_cons, List.map_nil] <;> rfl) rfl ?_; intro b12 hob13
        refine X_append (m := 1000000) rfl rfl rfl rfl rfl F.elem60 F.zero28 (by exact agg_size rfl) rfl (by assumption) (by repeat first | exact Rem.here _ | exact Rem.two | apply Rem.skip | apply Rem.over) (Src.own hob13.lens (by (refine rows_one1 ?_; (repeat (first | exact flat_nil | refine flat_id ?_ | (refine flat_one ?_ ?_; rfl))); done)) rfl (by repeat first | exact List.Mem.head _ | refine List.Mem.tail _ ?_ | refine List.mem_append_right _ ?_)) (by (simp; omega)) (by decide) rfl ?_; intro v16 hs15 ho14; obtain ⟨adv16, cpv16, rfl⟩ := ho14.valAt (n := acc.length + 1) (by (simp; done))
        refine Y_assign ?_
        refine XD_end ?_
        refine K_out ?_
        refine K_then ?_
        refine C_region (l := [0, 1]) rfl ?_
        refine X_ari rfl rfl rfl rfl rfl (by exact wrap_in (by decide) (by omega)) rfl ?_
        refine Y_move ?_
        refine XD_end ?_
        refine K_roundO (a' := [(29, _), (6, _)]) (i + 1) (hs15) (.cons (k := 29) rfl (.cons (k := 6) rfl (.cons (k := 28) rfl (.cons (k := 27) rfl (.cons (k := 5) rfl (.cons (k := 4) rfl (.cons (k := 0) rfl (.cons (k := 1) rfl (.nil))))))))) (hm1.trans (hm2.trans (hm3.trans (hm4.trans hm6)))) (fun w hw => by first | exact hw | exact hw.c) ?_ ?_
        ·refine ⟨acc ++ [⟨⟨l_l[i].addr, l_l[i].id⟩, ⟨R_l[R_l.length - 1].addr, R_l[R_l.length - 1].id⟩, ⟨adS, cpS, R_l.take m9⟩, ⟨adF, cpF, (List.range 160).map (setF l_l i l_l[i])⟩⟩], _, rfl, by omega, by rw [List.map_append]; exact ho14, fun t ht => ?_, ?_⟩
         ·rcases List.mem_append.1 ht with ht | ht
          ·exact (hok t ht).mono (hm2.trans (hm3.trans (hm4.trans hm6)))
          ·rw [List.mem_singleton.1 ht]; exact ⟨k_S.mono (hm4.trans hm6), k_F⟩
         ·rw [List.map_append, hI, setL_take hi2]
          refine congrArg (fun t => (setL l_l rn).take i ++ [t]) ?_
          unfold setT
          rw [hR]
          rw [lastD_at (by omega), show R_l.take rn = R_l.take m9 by rw [hmn, List.take_eq_take_iff]; omega]; rfl
        ·omega
      ·replace hc9 := dF hc9
       refine C_skip ?_
       refine K_then ?_
       refine C_seq ?_
       refine C_region (l := [0, 1, 2, 3, 4, 5, 6, 7]) rfl ?_
       iterate 2 refine Y_move ?_
       refine X_fn rfl rfl F.ok94 rfl (Fingers_ok M2 ⟨l_a, l_c, l_l⟩ (i : Int) (k_l.mono (hm1.trans hm2))) rfl ?_
       rintro _ M4 hm4 hF9
       replace hF9 : IntsE M4 _ (fingersR l_l ((i : Nat) : Int)) := hF9
       rw [fingersR_yes hc hi2] at hF9
       obtain ⟨⟨G_a, G_c, G_l⟩, rfl, hG, k_G⟩ := hF9
       simp only at hG
       have s_G := k_G.h1
       simp only at s_G
       have hGl : G_l.length = 160 := by rw [hG]; simp
       have n_G : (G_l.map (oneI .i64)).length = G_l.length := List.length_map ..
       have s_l4 := s_l.mono ((hm1.trans hm2).trans hm4)
       refine Y_move ?_
       iterate 2 refine Y_extract ?_
       iterate 2 refine Y_assign ?_
       refine XD_end ?_
       refine K_then ?_
       refine Y_pk [12, 71, 70, 66, 69, 68, 67, 50, 49, 48, 11, 47, 46, 45, 44, 43, 42, 41, 40, 39, 9, 38, 37, 34, 36, 35, 7, 8, 33, 32, 31, 30, 29, 6, 28, 27, 5, 4, 0, 1] ?_
       iterate 2 refine C_seq ?_
       refine C_region (l := [0, 1, 2]) rfl ?_
       refine Y_move ?_
       refine Y_len_sl F.elem41 ?_
       refine Y_move ?_
       refine XD_end ?_
       refine K_then ?_
       refine C_block ?_
       refine Y_pk [74, 73, 72, 12, 71, 70, 66, 69, 68, 67, 50, 49, 48, 11, 47, 46, 45, 44, 43, 42, 41, 40, 39, 9, 38, 37, 34, 36, 35, 7, 8, 33, 32, 31, 30, 29, 6, 28, 27, 5, 4, 0, 1] ?_
       refine C_loopO2 (Hin := [(b6, rowO [.one (.int .i64 l_l[i].addr), idSeg l_l[i].id, .one (.int .i64 (-1)), idSeg 0, .one (.slice none 0 0), .one (.slice adF 160 cpF)] 28)]) (Hin2 := hsF) (.succ .zero) (by repeat first | exact Rem.here _ | exact Rem.two | apply Rem.skip | apply Rem.over) (by repeat first | exact Rem.here _ | exact Rem.two | apply Rem.skip | apply Rem.over) (fun (k : Nat) M5 h5 z => ∃ hs, M5 = M4 ∧ z = [(74, .int .i64 (k : Int))] ∧ k ≤ 160 ∧ h5 = (b6, rowO [.one (.int .i64 l_l[i].addr), idSeg l_l[i].id, .one (.int .i64 (-1)), idSeg 0, .one (.slice none 0 0), .one (.slice adF 160 cpF)] 28) :: hs ∧ OSl 25 21 (.slice adF 160 cpF) hs ((fillP (setF l_l i l_l[i]) noneP k).map PeerV.segs)) (fun k => 160 - k) (0) (⟨hsF, rfl, rfl, by omega, rfl, by rw [fillP_zero, List.map_replicate]; exact hoF⟩) ?_
       rintro k M5 h5 z hm5 ⟨hs5, hM5, rfl, hk, rfl, ho5⟩
       subst hM5
       have hnw : ((fillP (setF l_l i l_l[i]) noneP k).map PeerV.segs).length = 160 := by rw [List.length_map, fillP_len]
       simp only [List.cons_append, List.nil_append]
       refine C_seq ?_
       refine C_region (l := [0]) rfl ?_
       refine Y_cmp ?_
       refine XD_end ?_
       refine K_then ?_
       refine C_seq ?_
       refine C_cond rfl (fun hc17 => ?_) (fun hc17 => ?_)
       ·replace hc17 := dT hc17
        refine C_skip ?_
        refine K_then ?_
        refine C_seq ?_
        refine C_block ?_
        refine C_seq ?_
        refine C_region (l := [0, 1, 2, 3, 4]) rfl ?_
        refine Y_move ?_
        refine X_indexAddr rfl rfl rfl rfl F.elem41 (by rfl) (by omega) (by exact SlM.plain (by assumption) (by (simp; omega))) rfl ?_
        refine X_load_el rfl rfl rfl (by assumption) (by exact row_map (by omega)) F.lay3 rfl rfl rfl ?_
        have hGk : G_l[k] = ((ownerI l_l (l_l[i].id + powP k) : Nat) : Int) := by simp only [hG, List.getElem_map, List.getElem_range]; rfl
        have ho9 := ownerI_lt (l := l_l) (x := l_l[i].id + powP k) (by omega)
        generalize hog : ownerI l_l (l_l[i].id + powP k) = o9 at hGk ho9
        simp only [List.get_eq_getElem, hGk]
        iterate 2 refine Y_assign ?_
        refine XD_end ?_
        refine K_then ?_
        refine C_seq ?_
        refine C_region (l := [0, 1, 2]) rfl ?_
        iterate 2 refine Y_move ?_
        refine Y_cmp ?_
        refine XD_end ?_
        refine K_then ?_
        refine C_cond rfl (fun hc18 => ?_) (fun hc18 => ?_)
        ·replace hc18 := nT hc18
         (exfalso; omega)
        ·replace hc18 := nF hc18
         refine C_skip ?_
         refine K_out ?_
         refine K_then ?_
         refine C_region (l := [0, 1]) rfl ?_
         refine X_ari rfl rfl rfl rfl rfl (by exact wrap_in (by decide) (by omega)) rfl ?_
         refine Y_move ?_
         refine XD_end ?_
         refine K_roundO (a' := [(74, _)]) (k + 1) ((b6, rowO [.one (.int .i64 l_l[i].addr), idSeg l_l[i].id, .one (.int .i64 (-1)), idSeg 0, .one (.slice none 0 0), .one (.slice adF 160 cpF)] 28) :: hs5) (.cons (k := 74) rfl (.cons (k := 73) rfl (.cons (k := 72) rfl (.cons (k := 12) rfl (.cons (k := 71) rfl (.cons (k := 70) rfl (.cons (k := 66) rfl (.cons (k := 69) rfl (.cons (k := 68) rfl (.cons (k := 67) rfl (.cons (k := 50) rfl (.cons (k := 49) rfl (.cons (k := 48) rfl (.cons (k := 11) rfl (.cons (k := 47) rfl (.cons (k := 46) rfl (.cons (k := 45) rfl (.cons (k := 44) rfl (.cons (k := 43) rfl (.cons (k := 42) rfl (.cons (k := 41) rfl (.cons (k := 40) rfl (.cons (k := 39) rfl (.cons (k := 9) rfl (.cons (k := 38) rfl (.cons (k := 37) rfl (.cons (k := 34) rfl (.cons (k := 36) rfl (.cons (k := 35) rfl (.cons (k := 7) rfl (.cons (k := 8) rfl (.cons (k := 33) rfl (.cons (k := 32) rfl (.cons (k := 31) rfl (.cons (k := 30) rfl (.cons (k := 29) rfl (.cons (k := 6) rfl (.cons (k := 28) rfl (.cons (k := 27) rfl (.cons (k := 5) rfl (.cons (k := 4) rfl (.cons (k := 0) rfl (.cons (k := 1) rfl (.nil)))))))))))))))))))))))))))))))))))))))))))) (by exact Mem.le.refl _) (fun w hw => by first | exact hw | exact hw.c) ?_ ?_
         ·refine ⟨hs5, rfl, rfl, by omega, rfl, ?_⟩
          rw [← fillP_stay _ _ (show noneP = setF l_l i l_l[i] k from (if_pos (by omega)).symm)]; exact ho5
         ·omega
       ·replace hc17 := dF hc17
        refine C_exit ?_
        iterate 2 refine K_exit ?_
        refine K_hit ?_
        refine K_then ?_
        obtain rfl : k = 160 := by omega
        rw [fillP_all] at ho5
        refine C_frz (l := (List.range 160).map (setF l_l i l_l[i])) ho5 (by repeat first | exact Rem.here _ | exact Rem.two | apply Rem.skip | apply Rem.over) (fun M6 hm6 k_F => ?_)
        refine C_region (l := [0, 1, 2, 3, 4]) rfl ?_
        refine Y_move ?_
        refine Y_load F.lay28 ?_
        refine X_buildSliceF rfl rfl F.elem60 F.zero28 rfl rfl (.cons rfl (by constructor) .nil) rfl rfl (by simp only [List.map_cons, List.map_nil] <;> rfl) rfl ?_; intro b19 hob20
        refine X_append (m := 1000000) rfl rfl rfl rfl rfl F.elem60 F.zero28 (by exact agg_size rfl) rfl (by assumption) (by repeat first | exact Rem.here _ | exact Rem.two | apply Rem.skip | apply Rem.over) (Src.own hob20.lens (by (refine rows_one1 ?_; (repeat (first | exact flat_nil | refine flat_id ?_ | (refine flat_one ?_ ?_; rfl))); done)) rfl (by repeat first | exact List.Mem.head _ | refine List.Mem.tail _ ?_ | refine List.mem_append_right _ ?_)) (by (simp; omega)) (by decide) rfl ?_; intro v23 hs22 ho21; obtain ⟨adv23, cpv23, rfl⟩ := ho21.valAt (n := acc.length + 1) (by (simp; done))
        refine Y_assign ?_
        refine XD_end ?_
        refine K_out ?_
        refine K_then ?_
        refine C_region (l := [0, 1]) rfl ?_
        refine X_ari rfl rfl rfl rfl rfl (by exact wrap_in (by decide) (by omega)) rfl ?_
        refine Y_move ?_
        refine XD_end ?_
        refine K_roundO (a' := [(29, _), (6, _)]) (i + 1) (hs22) (.cons (k := 29) rfl (.cons (k := 6) rfl (.cons (k := 28) rfl (.cons (k := 27) rfl (.cons (k := 5) rfl (.cons (k := 4) rfl (.cons (k := 0) rfl (.cons (k := 1) rfl (.nil))))))))) (hm1.trans (hm2.trans (hm4.trans hm6))) (fun w hw => by first | exact hw | exact hw.c) ?_ ?_
        ·refine ⟨acc ++ [⟨⟨l_l[i].addr, l_l[i].id⟩, noneP, ⟨none, 0, []⟩, ⟨adF, cpF, (List.range 160).map (setF l_l i l_l[i])⟩⟩], _, rfl, by omega, by rw [List.map_append]; exact ho21, fun t ht => ?_, ?_⟩
         ·rcases List.mem_append.1 ht with ht | ht
          ·exact (hok t ht).mono (hm2.trans (hm4.trans hm6))
          ·rw [List.mem_singleton.1 ht]; exact ⟨SlK.nil, k_F⟩
         ·rw [List.map_append, hI, setL_take hi2]
          refine congrArg (fun t => (setL l_l rn).take i ++ [t]) ?_
          unfold setT
          rw [hR]
          rw [show R_l = [] from List.eq_nil_of_length_eq_zero (by omega), List.take_nil]; rfl
        ·omega
     ·replace hc4 := dF hc4
      refine C_exit ?_
      iterate 2 refine K_exit ?_
      refine K_hit ?_
      refine K_then ?_
      refine Y_pk [6, 5, 4] ?_
      refine C_seq ?_
      refine C_region (l := [0, 1, 2]) rfl ?_
      refine Y_move ?_
      iterate 2 refine Y_assign ?_
      refine XD_end ?_
      refine K_then ?_
      refine Y_pk [5, 4] ?_
      refine C_ret ?_
      refine K_end (.inr rfl) (.tmp rfl (.tmp rfl .nil)) (fun w hw => ?_)
      obtain rfl : i = l_l.length := by omega
      rw [List.take_of_length_le (by rw [setL_len]; omega)] at hI
      obtain ⟨M9, s1, g1, g2, g3, g4, g5⟩ := OSl.freezeK (f := TableV.segs) (H := H) (l := acc) ho (hw.c)
      refine ⟨_, M9, rfl, hm1.trans g1, g2, ?_⟩
      rw [show settledT l_l ((rn : Nat) : Int) = _ from settledT_yes hc (by omega) (by omega)]
      exact ⟨_, rfl, s1, g3, by rw [g4]; exact hI, g5, by rw [g4]; exact fun t ht => (hok t ht).mono g1⟩

end Go.Proofs.Ytbjklbmmchiahaa
/-
  Settled tables, by the document.
-/
set_option linter.unusedSimpArgs false
set_option linter.unusedVariables false
set_option linter.unnecessarySimpa false
set_option maxRecDepth 8000
set_option maxHeartbeats 1000000
namespace Go.Proofs.Ytbjklbmmchiahaa
open Go.Esp
theorem F.ok96 : okFn Try.prog 96 = true := by kernel_rfl

theorem rSettled_ok (M : Mem) (l : (Sl PeerV)) (r : Int) (hl0 : SlK M PeerV.segs 21 l) : Esp.Fn Try.prog 53 [Sl.val l, .int .i64 r] M (fun M' v => TbsE M' v (settledT l.l r)) := by
  obtain ⟨l_a, l_c, l_l⟩ := l
  have k_l : SlK M PeerV.segs 21 ⟨l_a, l_c, l_l⟩ := hl0
  have s_l : SlM M l_a (l_l.map PeerV.segs) 21 := k_l.h1
  have n_l : (l_l.map PeerV.segs).length = l_l.length := List.length_map ..
  have m_l : l_l.length ≤ 9223372036854775807 := k_l.h2
  have c_l : l_l.length ≤ l_c := k_l.h3
  refine fn_enter Try.func53 rfl Try.ntmps53 rfl ?_; intro H
  refine C_seq ?_
  refine C_region (l := [0, 1]) rfl ?_
  iterate 2 refine Y_assign ?_
  refine XD_end ?_
  refine K_then ?_
  iterate 2 refine C_seq ?_
  refine C_region (l := [0, 1, 2, 3, 4, 5, 6, 7, 8, 9, 10]) rfl ?_
  refine Y_move ?_
  refine X_fs rfl rfl F.ok95 rfl (rCirc_ok _ ⟨_, _, _⟩ (by assumption)) rfl ?_
  rintro _ rfl
  refine Y_not ?_
  refine Y_move ?_
  refine XD_part 17 rfl (fun hc1 => ?_) (fun hc1 => ?_)
  ·replace hc1 := nT hc1
   simp only [PeerV.eta, TableV.eta, RouteV.eta] at hc1
   iterate 2 refine Y_skip ?_
   refine Y_pick ?_
   refine Y_move ?_
   iterate 2 refine Y_skip ?_
   refine Y_pick ?_
   refine XD_end ?_
   refine K_then ?_
   refine Y_pk [24, 5, 4, 0, 1] ?_
   refine C_true rfl ?_
   refine C_seq ?_
   refine C_region (l := [0, 1]) rfl ?_
   iterate 2 refine Y_assign ?_
   refine XD_end ?_
   refine K_then ?_
   refine Y_pk [5, 4, 0, 1] ?_
   refine C_ret ?_
   refine K_ret ?_
   refine K_end (.inr rfl) (.tmp rfl (.tmp rfl .nil)) (fun w hw => ?_)
   refine ⟨_, M, rfl, Mem.le.refl M, hw.c, ?_⟩
   rw [show settledT l_l r = ([], 1) from settledT_no (by rintro ⟨g1, g2, g3⟩; first | exact absurd g1 (by assumption) | omega)]
   exact ⟨_, rfl, ⟨none, 0, []⟩, rfl, rfl, SlK.nil, fun t ht => by cases ht⟩
  ·replace hc1 := nF hc1
   simp only [PeerV.eta, TableV.eta, RouteV.eta] at hc1
   refine Y_move ?_
   refine Y_cmp ?_
   refine Y_pick ?_
   refine Y_move ?_
   refine XD_part 21 rfl (fun hc2 => ?_) (fun hc2 => ?_)
   ·replace hc2 := dT hc2
    iterate 2 refine Y_skip ?_
    refine Y_pick ?_
    refine XD_end ?_
    refine K_then ?_
    refine Y_pk [24, 5, 4, 0, 1] ?_
    refine C_true rfl ?_
    refine C_seq ?_
    refine C_region (l := [0, 1]) rfl ?_
    iterate 2 refine Y_assign ?_
    refine XD_end ?_
    refine K_then ?_
    refine Y_pk [5, 4, 0, 1] ?_
    refine C_ret ?_
    refine K_ret ?_
    refine K_end (.inr rfl) (.tmp rfl (.tmp rfl .nil)) (fun w hw => ?_)
    refine ⟨_, M, rfl, Mem.le.refl M, hw.c, ?_⟩
    rw [show settledT l_l r = ([], 1) from settledT_no (by rintro ⟨g1, g2, g3⟩; first | exact absurd g1 (by assumption) | omega)]
    exact ⟨_, rfl, ⟨none, 0, []⟩, rfl, rfl, SlK.nil, fun t ht => by cases ht⟩
   ·replace hc2 := dF hc2
    refine Y_move ?_
    refine Y_cmp ?_
    refine Y_pick ?_
    refine XD_end ?_
    refine K_then ?_
    refine Y_pk [24, 5, 4, 0, 1] ?_
    refine C_cond rfl (fun hc3 => ?_) (fun hc3 => ?_)
    ·replace hc3 := dT hc3
     refine C_seq ?_
     refine C_region (l := [0, 1]) rfl ?_
     iterate 2 refine Y_assign ?_
     refine XD_end ?_
     refine K_then ?_
     refine Y_pk [5, 4, 0, 1] ?_
     refine C_ret ?_
     refine K_ret ?_
     refine K_end (.inr rfl) (.tmp rfl (.tmp rfl .nil)) (fun w hw => ?_)
     refine ⟨_, M, rfl, Mem.le.refl M, hw.c, ?_⟩
     rw [show settledT l_l r = ([], 1) from settledT_no (by rintro ⟨g1, g2, g3⟩; first | exact absurd g1 (by assumption) | omega)]
     exact ⟨_, rfl, ⟨none, 0, []⟩, rfl, rfl, SlK.nil, fun t ht => by cases ht⟩
    ·replace hc3 := dF hc3
     refine C_skip ?_
     refine K_then ?_
     refine Y_pk [5, 4, 0, 1] ?_
     refine C_seq ?_
     obtain ⟨rn, rfl⟩ : ∃ n : Nat, r = n := ⟨r.toNat, by omega⟩
     have hc : IsCircle l_l := by assumption
     have hc1 := hc.1
     refine C_region (l := [0]) rfl ?_
     refine Y_assign ?_
     refine XD_end ?_
     refine K_then ?_
     refine C_seq ?_
     refine C_region (l := [0, 1, 2]) rfl ?_
     refine Y_move ?_
     refine Y_len_sl F.elem26 ?_
     refine Y_assign ?_
     refine XD_end ?_
     refine K_then ?_
     refine Y_pk [7, 6, 5, 4, 0, 1] ?_
     iterate 2 refine C_seq ?_
     refine C_region (l := [0]) rfl ?_
     refine Y_assign ?_
     refine XD_end ?_
     refine K_then ?_
     refine C_block ?_
     refine Y_pk [8, 6, 7, 5, 4, 0, 1] ?_
     refine C_loopO (Hin := []) (.succ (.succ .zero)) (by repeat first | exact Rem.here _ | exact Rem.two | apply Rem.skip | apply Rem.over) (fun (i : Nat) M1 h1 z => ∃ (acc : List TableV) (v : Value), z = [(8, .int .i64 (i : Int)), (6, v)] ∧ i ≤ l_l.length ∧ OSl 28 44 v h1 (acc.map TableV.segs) ∧ (∀ t ∈ acc, TableV.ok M1 t) ∧ acc.map TableV.tb = (setL l_l rn).take i) (fun i => l_l.length - i) (0) (⟨[], _, rfl, by omega, OSl.nil, by simp, rfl⟩) ?_
     rintro i M1 h1 z hm1 ⟨acc, v0, rfl, hi, ho, hok, hI⟩
     obtain ⟨ad0, cp0, rfl⟩ := ho.valL
     have hml : (acc.map TableV.segs).length = acc.length := List.length_map ..
     have hal : acc.length = i := by have h9 := congrArg List.length hI; simp only [List.length_map, List.length_take, setL_len] at h9; omega
     have s_l1 := s_l.mono hm1
     have k_l1 := k_l.mono hm1
     iterate 2 refine C_seq ?_
     refine C_region (l := [0, 1, 2]) rfl ?_
     iterate 2 refine Y_move ?_
     refine Y_cmp ?_
     refine XD_end ?_
     refine K_then ?_
     refine C_cond rfl (fun hc4 => ?_) (fun hc4 => ?_)
     ·replace hc4 := dT hc4
      refine C_skip ?_
      refine K_then ?_
      refine C_seq ?_
      refine C_block ?_
      refine C_seq ?_
      have hi2 : i < l_l.length := by omega
      obtain ⟨R_l, hR⟩ : ∃ x, roundL l_l i = x := ⟨_, rfl⟩
      have hRl : R_l.length = l_l.length - 1 := by rw [← hR]; exact roundL_len hi2
      refine C_region_any (l := [0, 1, 2, 3, 4, 5, 6, 7]) #[0, 0, 3, 7, 0, 31, 0, 127] _ rfl (by kernel_rfl) (by kernel_rfl) St.drawn (fun _ h => h) ?_
      iterate 2 refine Y_move ?_
      refine X_indexAddr rfl rfl rfl rfl F.elem26 (by rfl) (by omega) (by exact SlM.plain (by assumption) (by (simp; omega))) rfl ?_
      refine X_load_el rfl rfl rfl (by assumption) (by exact row_map (by omega)) F.lay25 rfl rfl rfl ?_
      refine X_fs rfl rfl F.ok43 rfl (rNone_ok _) rfl ?_
      rintro _ rfl
      refine XD_is 36 rfl (show _ = aggV [.one (.int .i64 (-1)), idSeg 0] from rfl) ?_
      refine X_build rfl rfl F.bld28 (.cons rfl (by constructor) (.cons rfl (by constructor) .nil)) rfl rfl ?_
      refine Y_alloc F.zero28 ?_; intro b5
      refine Y_store F.lay28 ?_
      refine XD_end ?_
      refine K_then ?_
      iterate 2 refine C_seq ?_
      refine C_region (l := [0, 1]) rfl ?_
      refine Y_move ?_
      refine Y_cmp ?_
      refine XD_end ?_
      refine K_then ?_
      refine C_cond rfl (fun hc6 => ?_) (fun hc6 => ?_)
      ·replace hc6 := dT hc6
       refine C_region (l := [0, 1, 2, 3, 4, 5, 6, 7, 8, 9, 10]) rfl ?_
       iterate 3 refine Y_move ?_
       iterate 2 refine X_ari rfl rfl rfl rfl rfl (by exact wrap_in (by decide) (by omega)) rfl ?_
       refine Y_move ?_
       refine X_rem rfl rfl rfl rfl (by omega) (by exact rem_nn (by omega)) rfl ?_
       have hqa0 : ((i : Int) + (l_l.length : Int) - 1) % (l_l.length : Int) = (((i + l_l.length - 1) % l_l.length : Nat) : Int) := by rw [Int.natCast_emod]; first | rfl | (congr 1; omega)
       have hqa1 : (i + l_l.length - 1) % l_l.length < l_l.length := Nat.mod_lt _ (by omega)
       generalize hq : (i + l_l.length - 1) % l_l.length = q at hqa0 hqa1
       rw [hqa0]
       refine X_indexAddr rfl rfl rfl rfl F.elem26 (by rfl) (by omega) (by exact SlM.plain (by assumption) (by (simp; omega))) rfl ?_
       refine X_load_el rfl rfl rfl (by assumption) (by exact row_map (by omega)) F.lay25 rfl rfl rfl ?_
       refine Y_fieldAddr F.foff28_1 ?_
       refine Y_store F.lay25 ?_
       refine XD_end ?_
       refine K_then ?_
       iterate 2 refine C_seq ?_
       refine C_region (l := [0]) rfl ?_
       refine Y_assign ?_
       refine XD_end ?_
       refine K_then ?_
       refine C_block ?_
       refine Y_pk [10, 49, 48, 47, 46, 45, 44, 43, 42, 41, 40, 39, 38, 9, 37, 36, 35, 34, 33, 32, 29, 28, 27, 8, 6, 7, 5, 4, 0, 1] ?_
       refine C_loopO (Hin := [(b5, rowO [.one (.int .i64 l_l[i].addr), idSeg l_l[i].id, .one (.int .i64 l_l[q].addr), idSeg l_l[q].id, .one (.slice none 0 0), .one (.slice none 0 0)] 28)]) (.succ .zero) (by repeat first | exact Rem.here _ | exact Rem.two | apply Rem.skip | apply Rem.over) (fun (k : Nat) M2 h2 z => ∃ (v : Value) (hs : Hp), M2 = M1 ∧ z = [(10, .int .i64 ((k + 1 : Nat) : Int))] ∧ k ≤ R_l.length ∧ k ≤ rn ∧ h2 = (b5, rowO [.one (.int .i64 l_l[i].addr), idSeg l_l[i].id, .one (.int .i64 l_l[q].addr), idSeg l_l[q].id, .one v, .one (.slice none 0 0)] 28) :: hs ∧ OSl 25 21 v hs ((R_l.take k).map PeerV.segs)) (fun k => R_l.length - k) (0) (⟨_, [], rfl, rfl, by omega, by omega, rfl, OSl.nil⟩) ?_
       rintro k M2 h2 z hm2 ⟨vS, hsS, hM2, rfl, hk1, hk2, rfl, hoS⟩
       subst hM2
       obtain ⟨adS, cpS, rfl⟩ := hoS.valL
       have hmS : ((R_l.take k).map PeerV.segs).length = k := by simp; omega
       have hmS2 : (R_l.take k).length = k := by simp; omega
       simp only [List.cons_append, List.nil_append]
       iterate 2 refine C_seq ?_
       refine C_region (l := [0, 1, 2, 3, 4, 5, 6, 7]) rfl ?_
       iterate 2 refine Y_move ?_
       refine Y_cmp ?_
       refine Y_move ?_
       refine XD_part 53 rfl (fun hc7 => ?_) (fun hc7 => ?_)
       ·replace hc7 := dT hc7
        iterate 2 refine Y_move ?_
        refine Y_cmp ?_
        refine Y_pick ?_
        refine XD_end ?_
        refine K_then ?_
        refine C_cond rfl (fun hc8 => ?_) (fun hc8 => ?_)
        ·replace hc8 := dT hc8
         refine C_skip ?_
         refine K_then ?_
         refine C_seq ?_
         refine C_block ?_
         refine C_region_any (l := [0, 1, 2, 3, 4, 5, 6, 7, 8, 9, 10, 11, 12, 13]) #[0, 1, 0, 0, 0, 24, 0, 120, 252, 508, 1020, 2047, 4095, 8191] _ rfl (by kernel_rfl) (by kernel_rfl) St.drawn (fun _ h => h) ?_
         refine Y_fieldAddr F.foff28_2 ?_
         refine Y_load F.lay26 ?_
         iterate 3 refine Y_move ?_
         refine X_ari rfl rfl rfl rfl rfl (by exact wrap_in (by decide) (by omega)) rfl ?_
         refine Y_move ?_
         refine X_rem rfl rfl rfl rfl (by omega) (by exact rem_nn (by omega)) rfl ?_
         have hqb0 : ((i : Int) + ((k + 1 : Nat) : Int)) % (l_l.length : Int) = (((i + (k + 1)) % l_l.length : Nat) : Int) := by rw [Int.natCast_emod]; first | rfl | (congr 1; omega)
         have hqb1 : (i + (k + 1)) % l_l.length < l_l.length := Nat.mod_lt _ (by omega)
         generalize hq2 : (i + (k + 1)) % l_l.length = q2 at hqb0 hqb1
         have hq4 := hqb1
         rw [hqb0]
         refine X_indexAddr rfl rfl rfl rfl F.elem26 (by rfl) (by omega) (by exact SlM.plain (by assumption) (by (simp; omega))) rfl ?_
         refine X_load_el rfl rfl rfl (by assumption) (by exact row_map (by omega)) F.lay25 rfl rfl rfl ?_
         refine X_buildSliceF rfl rfl F.elem26 F.zero25 rfl rfl (.cons rfl (by constructor) .nil) rfl rfl (by simp only [List.map_cons, List.map_nil] <;> rfl) rfl ?_; intro b9 hob10
         refine X_append (m := 1000000) rfl rfl rfl rfl rfl F.elem26 F.zero25 (by exact agg_size rfl) rfl (by assumption) (by repeat first | exact Rem.here _ | exact Rem.two | apply Rem.skip | apply Rem.over) (Src.own hob10.lens (by (refine rows_one1 ?_; (repeat (first | exact flat_nil | refine flat_id ?_ | (refine flat_one ?_ ?_; rfl))); done)) rfl (by repeat first | exact List.Mem.head _ | refine List.Mem.tail _ ?_ | refine List.mem_append_right _ ?_)) (by (simp; omega)) (by decide) rfl ?_; intro v13 hs12 ho11; obtain ⟨adv13, cpv13, rfl⟩ := ho11.valAt (n := k + 1) (by (simp; omega))
         refine Y_fieldAddr F.foff28_2 ?_
         refine Y_store F.lay26 ?_
         refine XD_end ?_
         refine K_out ?_
         refine K_then ?_
         refine C_region (l := [0, 1, 2]) rfl ?_
         refine Y_move ?_
         refine X_ari rfl rfl rfl rfl rfl (by exact wrap_in (by decide) (by omega)) rfl ?_
         refine Y_assign ?_
         refine XD_end ?_
         refine K_roundO (a' := [(10, _)]) (k + 1) ((b5, rowO [.one (.int .i64 l_l[i].addr), idSeg l_l[i].id, .one (.int .i64 l_l[q].addr), idSeg l_l[q].id, .one (.slice adv13 (k + 1) cpv13), .one (.slice none 0 0)] 28) :: hs12) (.cons (k := 10) rfl (.cons (k := 49) rfl (.cons (k := 48) rfl (.cons (k := 47) rfl (.cons (k := 46) rfl (.cons (k := 45) rfl (.cons (k := 44) rfl (.cons (k := 43) rfl (.cons (k := 42) rfl (.cons (k := 41) rfl (.cons (k := 40) rfl (.cons (k := 39) rfl (.cons (k := 38) rfl (.cons (k := 9) rfl (.cons (k := 37) rfl (.cons (k := 36) rfl (.cons (k := 35) rfl (.cons (k := 34) rfl (.cons (k := 33) rfl (.cons (k := 32) rfl (.cons (k := 29) rfl (.cons (k := 28) rfl (.cons (k := 27) rfl (.cons (k := 8) rfl (.cons (k := 6) rfl (.cons (k := 7) rfl (.cons (k := 5) rfl (.cons (k := 4) rfl (.cons (k := 0) rfl (.cons (k := 1) rfl (.nil))))))))))))))))))))))))))))))) (by exact Mem.le.refl _) (fun w hw => by first | exact hw | exact hw.c) ?_ ?_
         ·refine ⟨_, _, rfl, rfl, by omega, by omega, rfl, ?_⟩
          have h9 := roundL_next hi2 (show k + 1 < l_l.length by omega) hq2 hq4
          rw [hR] at h9
          rw [h9, List.map_append]
          exact ho11
         ·omega
        ·replace hc8 := dF hc8
         refine C_exit ?_
         iterate 2 refine K_exit ?_
         refine K_hit ?_
         refine K_then ?_
         refine C_seq ?_
         refine C_frz hoS (by repeat first | exact Rem.here _ | exact Rem.two | apply Rem.skip | apply Rem.over) (fun M3 hm3 k_S => ?_)
         refine C_region (l := [0, 1, 2, 3, 4, 5, 6, 7]) rfl ?_
         iterate 2 refine Y_move ?_
         refine X_fn rfl rfl F.ok96 rfl (rFingers_ok M3 ⟨l_a, l_c, l_l⟩ (i : Int) (k_l.mono (hm1.trans hm3))) rfl ?_
         rintro _ M4 hm4 hF9
         replace hF9 : IntsE M4 _ (fingersR l_l ((i : Nat) : Int)) := hF9
         rw [fingersR_yes hc hi2] at hF9
         obtain ⟨⟨G_a, G_c, G_l⟩, rfl, hG, k_G⟩ := hF9
         simp only at hG
         have s_G := k_G.h1
         simp only at s_G
         have hGl : G_l.length = 160 := by rw [hG]; simp
         have n_G : (G_l.map (oneI .i64)).length = G_l.length := List.length_map ..
         have s_l4 := s_l.mono ((hm1.trans hm3).trans hm4)
         refine Y_move ?_
         iterate 2 refine Y_extract ?_
         iterate 2 refine Y_assign ?_
         refine XD_end ?_
         refine K_then ?_
         refine Y_pk [11, 78, 77, 73, 76, 75, 74, 57, 56, 55, 54, 53, 52, 51, 50, 10, 49, 48, 47, 46, 45, 44, 43, 42, 41, 40, 39, 38, 9, 37, 36, 35, 34, 33, 32, 29, 28, 27, 8, 6, 7, 5, 4, 0, 1] ?_
         iterate 2 refine C_seq ?_
         refine C_region (l := [0]) rfl ?_
         refine Y_assign ?_
         refine XD_end ?_
         refine K_then ?_
         refine C_block ?_
         refine Y_pk [13, 11, 78, 77, 73, 76, 75, 74, 57, 56, 55, 54, 53, 52, 51, 50, 10, 49, 48, 47, 46, 45, 44, 43, 42, 41, 40, 39, 38, 9, 37, 36, 35, 34, 33, 32, 29, 28, 27, 8, 6, 7, 5, 4, 0, 1] ?_
         refine C_loopO (Hin := [(b5, rowO [.one (.int .i64 l_l[i].addr), idSeg l_l[i].id, .one (.int .i64 l_l[q].addr), idSeg l_l[q].id, .one (.slice adS (R_l.take k).length cpS), .one (.slice none 0 0)] 28)]) (.succ .zero) (by repeat first | exact Rem.here _ | exact Rem.two | apply Rem.skip | apply Rem.over) (fun (k9 : Nat) M5 h5 z => ∃ (v : Value) (hs : Hp), M5 = M4 ∧ z = [(13, .int .i64 (k9 : Int))] ∧ k9 ≤ 160 ∧ h5 = (b5, rowO [.one (.int .i64 l_l[i].addr), idSeg l_l[i].id, .one (.int .i64 l_l[q].addr), idSeg l_l[q].id, .one (.slice adS (R_l.take k).length cpS), .one v] 28) :: hs ∧ OSl 25 21 v hs (((List.range k9).map (setF l_l i l_l[i])).map PeerV.segs)) (fun k9 => 160 - k9) (0) (⟨_, [], rfl, rfl, by omega, rfl, OSl.nil⟩) ?_
         rintro k9 M5 h5 z hm5 ⟨vF, hs5, hM5, rfl, hk9, rfl, ho5⟩
         subst hM5
         obtain ⟨adF, cpF, rfl⟩ := ho5.val
         have hnw : (((List.range k9).map (setF l_l i l_l[i])).map PeerV.segs).length = k9 := by simp
         rw [hnw] at ho5 ⊢
         simp only [List.cons_append, List.nil_append]
         iterate 2 refine C_seq ?_
         refine C_region (l := [0, 1, 2, 3]) rfl ?_
         iterate 2 refine Y_move ?_
         refine Y_len_sl F.elem41 ?_
         refine Y_cmp ?_
         refine XD_end ?_
         refine K_then ?_
         refine C_cond rfl (fun hc14 => ?_) (fun hc14 => ?_)
         ·replace hc14 := dT hc14
          refine C_skip ?_
          refine K_then ?_
          refine C_seq ?_
          refine C_block ?_
          refine C_seq ?_
          refine C_region (l := [0, 1, 2, 3, 4, 5]) rfl ?_
          iterate 2 refine Y_move ?_
          refine X_indexAddr rfl rfl rfl rfl F.elem41 (by rfl) (by omega) (by exact SlM.plain (by assumption) (by (simp; omega))) rfl ?_
          refine X_load_el rfl rfl rfl (by assumption) (by exact row_map (by omega)) F.lay3 rfl rfl rfl ?_
          have hGk : G_l[k9] = ((ownerI l_l (l_l[i].id + powP k9) : Nat) : Int) := by simp only [hG, List.getElem_map, List.getElem_range]; rfl
          have ho9 := ownerI_lt (l := l_l) (x := l_l[i].id + powP k9) (by omega)
          generalize hog : ownerI l_l (l_l[i].id + powP k9) = o9 at hGk ho9
          simp only [List.get_eq_getElem, hGk]
          refine Y_move ?_
          refine Y_cmp ?_
          refine XD_end ?_
          refine K_then ?_
          refine C_cond rfl (fun hc15 => ?_) (fun hc15 => ?_)
          ·replace hc15 := dT hc15
           refine C_region_any (l := [0, 1, 2, 3, 4, 5, 6]) #[0, 1, 0, 4, 15, 31, 63] _ rfl (by kernel_rfl) (by kernel_rfl) St.drawn (fun _ h => h) ?_
           refine Y_fieldAddr F.foff28_3 ?_
           refine Y_load F.lay26 ?_
           refine X_fs rfl rfl F.ok43 rfl (rNone_ok _) rfl ?_
           rintro _ rfl
           refine XD_is 93 rfl (show _ = aggV [.one (.int .i64 (-1)), idSeg 0] from rfl) ?_
           refine X_buildSliceF rfl rfl F.elem26 F.zero25 rfl rfl (.cons rfl (by constructor) .nil) rfl rfl (by simp only [List.map_cons, List.map_nil] <;> rfl) rfl ?_; intro b16 hob17
           refine X_append (m := 1000000) rfl rfl rfl rfl rfl F.elem26 F.zero25 (by exact agg_size rfl) rfl (by assumption) (by repeat first | exact Rem.here _ | exact Rem.two | apply Rem.skip | apply Rem.over) (Src.own hob17.lens (by (refine rows_one1 ?_; (repeat (first | exact flat_nil | refine flat_id ?_ | (refine flat_one ?_ ?_; rfl))); done)) rfl (by repeat first | exact List.Mem.head _ | refine List.Mem.tail _ ?_ | refine List.mem_append_right _ ?_)) (by (simp; omega)) (by decide) rfl ?_; intro v20 hs19 ho18; obtain ⟨adv20, cpv20, rfl⟩ := ho18.valAt (n := k9 + 1) (by (simp; done))
           refine Y_fieldAddr F.foff28_3 ?_
           refine Y_store F.lay26 ?_
           refine XD_end ?_
           refine K_out ?_
           refine K_then ?_
           refine C_region (l := [0, 1, 2]) rfl ?_
           refine Y_move ?_
           refine X_ari rfl rfl rfl rfl rfl (by exact wrap_in (by decide) (by omega)) rfl ?_
           refine Y_assign ?_
           refine XD_end ?_
           refine K_roundO (a' := [(13, _)]) (k9 + 1) ((b5, rowO [.one (.int .i64 l_l[i].addr), idSeg l_l[i].id, .one (.int .i64 l_l[q].addr), idSeg l_l[q].id, .one (.slice adS (R_l.take k).length cpS), .one (.slice adv20 (k9 + 1) cpv20)] 28) :: hs19) (.cons (k := 13) rfl (.cons (k := 11) rfl (.cons (k := 78) rfl (.cons (k := 77) rfl (.cons (k := 73) rfl (.cons (k := 76) rfl (.cons (k := 75) rfl (.cons (k := 74) rfl (.cons (k := 57) rfl (.cons (k := 56) rfl (.cons (k := 55) rfl (.cons (k := 54) rfl (.cons (k := 53) rfl (.cons (k := 52) rfl (.cons (k := 51) rfl (.cons (k := 50) rfl (.cons (k := 10) rfl (.cons (k := 49) rfl (.cons (k := 48) rfl (.cons (k := 47) rfl (.cons (k := 46) rfl (.cons (k := 45) rfl (.cons (k := 44) rfl (.cons (k := 43) rfl (.cons (k := 42) rfl (.cons (k := 41) rfl (.cons (k := 40) rfl (.cons (k := 39) rfl (.cons (k := 38) rfl (.cons (k := 9) rfl (.cons (k := 37) rfl (.cons (k := 36) rfl (.cons (k := 35) rfl (.cons (k := 34) rfl (.cons (k := 33) rfl (.cons (k := 32) rfl (.cons (k := 29) rfl (.cons (k := 28) rfl (.cons (k := 27) rfl (.cons (k := 8) rfl (.cons (k := 6) rfl (.cons (k := 7) rfl (.cons (k := 5) rfl (.cons (k := 4) rfl (.cons (k := 0) rfl (.cons (k := 1) rfl (.nil))))))))))))))))))))))))))))))))))))))))))))))) (by exact Mem.le.refl _) (fun w hw => by first | exact hw | exact hw.c) ?_ ?_
           ·refine ⟨_, _, rfl, rfl, by omega, rfl, ?_⟩
            rw [List.range_succ, List.map_append, List.map_append]
            rw [show ([k9].map (setF l_l i l_l[i])).map PeerV.segs = [PeerV.segs noneP] from congrArg (fun p => [PeerV.segs p]) (if_pos (by omega))]
            exact ho18
           ·omega
          ·replace hc15 := dF hc15
           refine C_region_any (l := [0, 1, 2, 3, 4, 5, 6, 7, 8, 9, 10, 11, 12]) #[0, 1, 0, 0, 0, 24, 56, 124, 252, 508, 1023, 2047, 4095] _ rfl (by kernel_rfl) (by kernel_rfl) St.drawn (fun _ h => h) ?_
           refine Y_fieldAddr F.foff28_3 ?_
           refine Y_load F.lay26 ?_
           iterate 3 refine Y_move ?_
           refine X_indexAddr rfl rfl rfl rfl F.elem41 (by rfl) (by omega) (by exact SlM.plain (by assumption) (by (simp; omega))) rfl ?_
           refine X_load_el rfl rfl rfl (by assumption) (by exact row_map (by omega)) F.lay3 rfl rfl rfl ?_
           simp only [List.get_eq_getElem, hGk]
           refine X_indexAddr rfl rfl rfl rfl F.elem26 (by rfl) (by omega) (by exact SlM.plain (by assumption) (by (simp; omega))) rfl ?_
           refine X_load_el rfl rfl rfl (by assumption) (by exact row_map (by omega)) F.lay25 rfl rfl rfl ?_
           refine X_buildSliceF rfl rfl F.elem26 F.zero25 rfl rfl (.cons rfl (by constructor) .nil) rfl rfl (by simp only [List.map_cons, List.map_nil] <;> rfl) rfl ?_; intro b21 hob22
           refine X_append (m := 1000000) rfl rfl rfl rfl rfl F.elem26 F.zero25 (by exact agg_size rfl) rfl (by assumption) (by repeat first | exact Rem.here _ | exact Rem.two | apply Rem.skip | apply Rem.over) (Src.own hob22.lens (by (refine rows_one1 ?_; (repeat (first | exact flat_nil | refine flat_id ?_ | (refine flat_one ?_ ?_; rfl))); done)) rfl (by repeat first | exact List.Mem.head _ | refine List.Mem.tail _ ?_ | refine List.mem_append_right _ ?_)) (by (simp; omega)) (by decide) rfl ?_; intro v25 hs24 ho23; obtain ⟨adv25, cpv25, rfl⟩ := ho23.valAt (n := k9 + 1) (by (simp; done))
           refine Y_fieldAddr F.foff28_3 ?_
           refine Y_store F.lay26 ?_
           refine XD_end ?_
           refine K_out ?_
           refine K_then ?_
           refine C_region (l := [0, 1, 2]) rfl ?_
           refine Y_move ?_
           refine X_ari rfl rfl rfl rfl rfl (by exact wrap_in (by decide) (by omega)) rfl ?_
           refine Y_assign ?_
           refine XD_end ?_
           refine K_roundO (a' := [(13, _)]) (k9 + 1) ((b5, rowO [.one (.int .i64 l_l[i].addr), idSeg l_l[i].id, .one (.int .i64 l_l[q].addr), idSeg l_l[q].id, .one (.slice adS (R_l.take k).length cpS), .one (.slice adv25 (k9 + 1) cpv25)] 28) :: hs24) (.cons (k := 13) rfl (.cons (k := 11) rfl (.cons (k := 78) rfl (.cons (k := 77) rfl (.cons (k := 73) rfl (.cons (k := 76) rfl (.cons (k := 75) rfl (.cons (k := 74) rfl (.cons (k := 57) rfl (.cons (k := 56) rfl (.cons (k := 55) rfl (.cons (k := 54) rfl (.cons (k := 53) rfl (.cons (k := 52) rfl (.cons (k := 51) rfl (.cons (k := 50) rfl (.cons (k := 10) rfl (.cons (k := 49) rfl (.cons (k := 48) rfl (.cons (k := 47) rfl (.cons (k := 46) rfl (.cons (k := 45) rfl (.cons (k := 44) rfl (.cons (k := 43) rfl (.cons (k := 42) rfl (.cons (k := 41) rfl (.cons (k := 40) rfl (.cons (k := 39) rfl (.cons (k := 38) rfl (.cons (k := 9) rfl (.cons (k := 37) rfl (.cons (k := 36) rfl (.cons (k := 35) rfl (.cons (k := 34) rfl (.cons (k := 33) rfl (.cons (k := 32) rfl (.cons (k := 29) rfl (.cons (k := 28) rfl (.cons (k := 27) rfl (.cons (k := 8) rfl (.cons (k := 6) rfl (.cons (k := 7) rfl (.cons (k := 5) rfl (.cons (k := 4) rfl (.cons (k := 0) rfl (.cons (k := 1) rfl (.nil))))))))))))))))))))))))))))))))))))))))))))))) (by exact Mem.le.refl _) (fun w hw => by first | exact hw | exact hw.c) ?_ ?_
           ·refine ⟨_, _, rfl, rfl, by omega, rfl, ?_⟩
            rw [List.range_succ, List.map_append, List.map_append]
            rw [show ([k9].map (setF l_l i l_l[i])).map PeerV.segs = [PeerV.segs l_l[o9]] from congrArg (fun p => [PeerV.segs p]) (show setF l_l i l_l[i] k9 = l_l[o9] by unfold setF; rw [hog, if_neg (by omega), List.getElem?_eq_getElem ho9]; rfl)]
            exact ho23
           ·omega
         ·replace hc14 := dF hc14
          refine C_exit ?_
          iterate 2 refine K_exit ?_
          refine K_hit ?_
          refine K_then ?_
          obtain rfl : k9 = 160 := by omega
          refine C_frz (l := (List.range 160).map (setF l_l i l_l[i])) ho5 (by repeat first | exact Rem.here _ | exact Rem.two | apply Rem.skip | apply Rem.over) (fun M6 hm6 k_F => ?_)
          refine C_region (l := [0, 1, 2, 3, 4]) rfl ?_
          refine Y_move ?_
          refine Y_load F.lay28 ?_
          refine X_buildSliceF rfl rfl F.elem60 F.zero28 rfl rfl (.cons rfl (by constructor) .nil) rfl rfl (by simp only [List.map_cons, List.map_nil] <;> rfl) rfl ?_; intro b26 hob27
          refine X_append (m := 1000000) rfl rfl rfl rfl rfl F.elem60 F.zero28 (by exact agg_size rfl) rfl (by assumption) (by repeat first | exact Rem.here _ | exact Rem.two | apply Rem.skip | apply Rem.over) (Src.own hob27.lens (by (refine rows_one1 ?_; (repeat (first | exact flat_nil | refine flat_id ?_ | (refine flat_one ?_ ?_; rfl))); done)) rfl (by repeat first | exact List.Mem.head _ | refine List.Mem.tail _ ?_ | refine List.mem_append_right _ ?_)) (by (simp; omega)) (by decide) rfl ?_; intro v30 hs29 ho28; obtain ⟨adv30, cpv30, rfl⟩ := ho28.valAt (n := acc.length + 1) (by (simp; done))
          refine Y_assign ?_
          refine XD_end ?_
          refine K_out ?_
          refine K_then ?_
          refine C_region (l := [0, 1, 2]) rfl ?_
          refine Y_move ?_
          refine X_ari rfl rfl rfl rfl rfl (by exact wrap_in (by decide) (by omega)) rfl ?_
          refine Y_assign ?_
          refine XD_end ?_
          refine K_roundO (a' := [(8, _), (6, _)]) (i + 1) (hs29) (.cons (k := 8) rfl (.cons (k := 6) rfl (.cons (k := 7) rfl (.cons (k := 5) rfl (.cons (k := 4) rfl (.cons (k := 0) rfl (.cons (k := 1) rfl (.nil)))))))) (hm1.trans (hm3.trans (hm4.trans hm6))) (fun w hw => by first | exact hw | exact hw.c) ?_ ?_
          ·refine ⟨acc ++ [⟨⟨l_l[i].addr, l_l[i].id⟩, ⟨l_l[q].addr, l_l[q].id⟩, ⟨adS, cpS, R_l.take k⟩, ⟨adF, cpF, (List.range 160).map (setF l_l i l_l[i])⟩⟩], _, rfl, by omega, by rw [List.map_append]; exact ho28, fun t ht => ?_, ?_⟩
           ·rcases List.mem_append.1 ht with ht | ht
            ·exact (hok t ht).mono (hm3.trans (hm4.trans hm6))
            ·rw [List.mem_singleton.1 ht]; exact ⟨k_S.mono (hm4.trans hm6), k_F⟩
           ·rw [List.map_append, hI, setL_take hi2]
            refine congrArg (fun t => (setL l_l rn).take i ++ [t]) ?_
            unfold setT
            rw [hR]
            rw [show R_l.take rn = R_l.take k by rw [List.take_eq_take_iff]; omega, ← hR, roundL_last hi2 (by omega), hR]; simp only [hq]; rfl
          ·omega
       ·replace hc7 := dF hc7
        iterate 3 refine Y_skip ?_
        refine Y_pick ?_
        refine XD_end ?_
        refine K_then ?_
        refine C_false rfl ?_
        refine C_exit ?_
        iterate 2 refine K_exit ?_
        refine K_hit ?_
        refine K_then ?_
        refine C_seq ?_
        refine C_frz hoS (by repeat first | exact Rem.here _ | exact Rem.two | apply Rem.skip | apply Rem.over) (fun M3 hm3 k_S => ?_)
        refine C_region (l := [0, 1, 2, 3, 4, 5, 6, 7]) rfl ?_
        iterate 2 refine Y_move ?_
        refine X_fn rfl rfl F.ok96 rfl (rFingers_ok M3 ⟨l_a, l_c, l_l⟩ (i : Int) (k_l.mono (hm1.trans hm3))) rfl ?_
        rintro _ M4 hm4 hF9
        replace hF9 : IntsE M4 _ (fingersR l_l ((i : Nat) : Int)) := hF9
        rw [fingersR_yes hc hi2] at hF9
        obtain ⟨⟨G_a, G_c, G_l⟩, rfl, hG, k_G⟩ := hF9
        simp only at hG
        have s_G := k_G.h1
        simp only at s_G
        have hGl : G_l.length = 160 := by rw [hG]; simp
        have n_G : (G_l.map (oneI .i64)).length = G_l.length := List.length_map ..
        have s_l4 := s_l.mono ((hm1.trans hm3).trans hm4)
        refine Y_move ?_
        iterate 2 refine Y_extract ?_
        iterate 2 refine Y_assign ?_
        refine XD_end ?_
        refine K_then ?_
        refine Y_pk [11, 78, 77, 73, 76, 75, 74, 57, 56, 55, 54, 53, 52, 51, 50, 10, 49, 48, 47, 46, 45, 44, 43, 42, 41, 40, 39, 38, 9, 37, 36, 35, 34, 33, 32, 29, 28, 27, 8, 6, 7, 5, 4, 0, 1] ?_
        iterate 2 refine C_seq ?_
        refine C_region (l := [0]) rfl ?_
        refine Y_assign ?_
        refine XD_end ?_
        refine K_then ?_
        refine C_block ?_
        refine Y_pk [13, 11, 78, 77, 73, 76, 75, 74, 57, 56, 55, 54, 53, 52, 51, 50, 10, 49, 48, 47, 46, 45, 44, 43, 42, 41, 40, 39, 38, 9, 37, 36, 35, 34, 33, 32, 29, 28, 27, 8, 6, 7, 5, 4, 0, 1] ?_
        refine C_loopO (Hin := [(b5, rowO [.one (.int .i64 l_l[i].addr), idSeg l_l[i].id, .one (.int .i64 l_l[q].addr), idSeg l_l[q].id, .one (.slice adS (R_l.take k).length cpS), .one (.slice none 0 0)] 28)]) (.succ .zero) (by repeat first | exact Rem.here _ | exact Rem.two | apply Rem.skip | apply Rem.over) (fun (k9 : Nat) M5 h5 z => ∃ (v : Value) (hs : Hp), M5 = M4 ∧ z = [(13, .int .i64 (k9 : Int))] ∧ k9 ≤ 160 ∧ h5 = (b5, rowO [.one (.int .i64 l_l[i].addr), idSeg l_l[i].id, .one (.int .i64 l_l[q].addr), idSeg l_l[q].id, .one (.slice adS (R_l.take k).length cpS), .one v] 28) :: hs ∧ OSl 25 21 v hs (((List.range k9).map (setF l_l i l_l[i])).map PeerV.segs)) (fun k9 => 160 - k9) (0) (⟨_, [], rfl, rfl, by omega, rfl, OSl.nil⟩) ?_
        rintro k9 M5 h5 z hm5 ⟨vF, hs5, hM5, rfl, hk9, rfl, ho5⟩
        subst hM5
        obtain ⟨adF, cpF, rfl⟩ := ho5.val
        have hnw : (((List.range k9).map (setF l_l i l_l[i])).map PeerV.segs).length = k9 := by simp
        rw [hnw] at ho5 ⊢
        simp only [List.cons_append, List.nil_append]
        iterate 2 refine C_seq ?_
        refine C_region (l := [0, 1, 2, 3]) rfl ?_
        iterate 2 refine Y_move ?_
        refine Y_len_sl F.elem41 ?_
        refine Y_cmp ?_
        refine XD_end ?_
        refine K_then ?_
        refine C_cond rfl (fun hc31 => ?_) (fun hc31 => ?_)
        ·replace hc31 := dT hc31
         refine C_skip ?_
         refine K_then ?_
         refine C_seq ?_
         refine C_block ?_
         refine C_seq ?_
         refine C_region (l := [0, 1, 2, 3, 4, 5]) rfl ?_
         iterate 2 refine Y_move ?_
         refine X_indexAddr rfl rfl rfl rfl F.elem41 (by rfl) (by omega) (by exact SlM.plain (by assumption) (by (simp; omega))) rfl ?_
         refine X_load_el rfl rfl rfl (by assumption) (by exact row_map (by omega)) F.lay3 rfl rfl rfl ?_
         have hGk : G_l[k9] = ((ownerI l_l (l_l[i].id + powP k9) : Nat) : Int) := by simp only [hG, List.getElem_map, List.getElem_range]; rfl
         have ho9 := ownerI_lt (l := l_l) (x := l_l[i].id + powP k9) (by omega)
         generalize hog : ownerI l_l (l_l[i].id + powP k9) = o9 at hGk ho9
         simp only [List.get_eq_getElem, hGk]
         refine Y_move ?_
         refine Y_cmp ?_
         refine XD_end ?_
         refine K_then ?_
         refine C_cond rfl (fun hc32 => ?_) (fun hc32 => ?_)
         ·replace hc32 := dT hc32
          refine C_region_any (l := [0, 1, 2, 3, 4, 5, 6]) #[0, 1, 0, 4, 15, 31, 63] _ rfl (by kernel_rfl) (by kernel_rfl) St.drawn (fun _ h => h) ?_
          refine Y_fieldAddr F.foff28_3 ?_
          refine Y_load F.lay26 ?_
          refine X_fs rfl rfl F.ok43 rfl (rNone_ok _) rfl ?_
          rintro _ rfl
          refine XD_is 93 rfl (show _ = aggV [.one (.int .i64 (-1)), idSeg 0] from rfl) ?_
          refine X_buildSliceF rfl rfl F.elem26 F.zero25 rfl rfl (.cons rfl (by constructor) .nil) rfl rfl (by simp only [List.map_cons, List.map_nil] <;> rfl) rfl ?_; intro b33 hob34
          refine X_append (m := 1000000) rfl rfl rfl rfl rfl F.elem26 F.zero25 (by exact agg_size rfl) rfl (by assumption) (by repeat first | exact Rem.here _ | exact Rem.two | apply Rem.skip | apply Rem.over) (Src.own hob34.lens (by (refine rows_one1 ?_; (repeat (first | exact flat_nil | refine flat_id ?_ | (refine flat_one ?_ ?_; rfl))); done)) rfl (by repeat first | exact List.Mem.head _ | refine List.Mem.tail _ ?_ | refine List.mem_append_right _ ?_)) (by (simp; omega)) (by decide) rfl ?_; intro v37 hs36 ho35; obtain ⟨adv37, cpv37, rfl⟩ := ho35.valAt (n := k9 + 1) (by (simp; done))
          refine Y_fieldAddr F.foff28_3 ?_
          refine Y_store F.lay26 ?_
          refine XD_end ?_
          refine K_out ?_
          refine K_then ?_
          refine C_region (l := [0, 1, 2]) rfl ?_
          refine Y_move ?_
          refine X_ari rfl rfl rfl rfl rfl (by exact wrap_in (by decide) (by omega)) rfl ?_
          refine Y_assign ?_
          refine XD_end ?_
          refine K_roundO (a' := [(13, _)]) (k9 + 1) ((b5, rowO [.one (.int .i64 l_l[i].addr), idSeg l_l[i].id, .one (.int .i64 l_l[q].addr), idSeg l_l[q].id, .one (.slice adS (R_l.take k).length cpS), .one (.slice adv37 (k9 + 1) cpv37)] 28) :: hs36) (.cons (k := 13) rfl (.cons (k := 11) rfl (.cons (k := 78) rfl (.cons (k := 77) rfl (.cons (k := 73) rfl (.cons (k := 76) rfl (.cons (k := 75) rfl (.cons (k := 74) rfl (.cons (k := 57) rfl (.cons (k := 56) rfl (.cons (k := 55) rfl (.cons (k := 54) rfl (.cons (k := 53) rfl (.cons (k := 52) rfl (.cons (k := 51) rfl (.cons (k := 50) rfl (.cons (k := 10) rfl (.cons (k := 49) rfl (.cons (k := 48) rfl (.cons (k := 47) rfl (.cons (k := 46) rfl (.cons (k := 45) rfl (.cons (k := 44) rfl (.cons (k := 43) rfl (.cons (k := 42) rfl (.cons (k := 41) rfl (.cons (k := 40) rfl (.cons (k := 39) rfl (.cons (k := 38) rfl (.cons (k := 9) rfl (.cons (k := 37) rfl (.cons (k := 36) rfl (.cons (k := 35) rfl (.cons (k := 34) rfl (.cons (k := 33) rfl (.cons (k := 32) rfl (.cons (k := 29) rfl (.cons (k := 28) rfl (.cons (k := 27) rfl (.cons (k := 8) rfl (.cons (k := 6) rfl (.cons (k := 7) rfl (.cons (k := 5) rfl (.cons (k := 4) rfl (.cons (k := 0) rfl (.cons (k := 1) rfl (.nil))))))))))))))))))))))))))))))))))))))))))))))) (by exact Mem.le.refl _) (fun w hw => by first | exact hw | exact hw.c) ?_ ?_
          ·refine ⟨_, _, rfl, rfl, by omega, rfl, ?_⟩
           rw [List.range_succ, List.map_append, List.map_append]
           rw [show ([k9].map (setF l_l i l_l[i])).map PeerV.segs = [PeerV.segs noneP] from congrArg (fun p => [PeerV.segs p]) (if_pos (by omega))]
           exact ho35
          ·omega
         ·replace hc32 := dF hc32
          refine C_region_any (l := [0, 1, 2, 3, 4, 5, 6, 7, 8, 9, 10, 11, 12]) #[0, 1, 0, 0, 0, 24, 56, 124, 252, 508, 1023, 2047, 4095] _ rfl (by kernel_rfl) (by kernel_rfl) St.drawn (fun _ h => h) ?_
          refine Y_fieldAddr F.foff28_3 ?_
          refine Y_load F.lay26 ?_
          iterate 3 refine Y_move ?_
          refine X_indexAddr rfl rfl rfl rfl F.elem41 (by rfl) (by omega) (by exact SlM.plain (by assumption) (by (simp; omega))) rfl ?_
          refine X_load_el rfl rfl rfl (by assumption) (by exact row_map (by omega)) F.lay3 rfl rfl rfl ?_
          simp only [List.get_eq_getElem, hGk]
          refine X_indexAddr rfl rfl rfl rfl F.elem26 (by rfl) (by omega) (by exact SlM.plain (by assumption) (by (simp; omega))) rfl ?_
          refine X_load_el rfl rfl rfl (by assumption) (by exact row_map (by omega)) F.lay25 rfl rfl rfl ?_
          refine X_buildSliceF rfl rfl F.elem26 F.zero25 rfl rfl (.cons rfl (by constructor) .nil) rfl rfl (by simp only [List.map_cons, List.map_nil] <;> rfl) rfl ?_; intro b38 hob39
          refine X_append (m := 1000000) rfl rfl rfl rfl rfl F.elem26 F.zero25 (by exact agg_size rfl) rfl (by assumption) (by repeat first | exact Rem.here _ | exact Rem.two | apply Rem.skip | apply Rem.over) (Src.own hob39.lens (by (refine rows_one1 ?_; (repeat (first | exact flat_nil | refine flat_id ?_ | (refine flat_one ?_ ?_; rfl))); done)) rfl (by repeat first | exact List.Mem.head _ | refine List.Mem.tail _ ?_ | refine List.mem_append_right _ ?_)) (by (simp; omega)) (by decide) rfl ?_; intro v42 hs41 ho40; obtain ⟨adv42, cpv42, rfl⟩ := ho40.valAt (n := k9 + 1) (by (simp; done))
          refine Y_fieldAddr F.foff28_3 ?_
          refine Y_store F.lay26 ?_
          refine XD_end ?_
          refine K_out ?_
          refine K_then ?_
          refine C_region (l := [0, 1, 2]) rfl ?_
          refine Y_move ?_
          refine X_ari rfl rfl rfl rfl rfl (by exact wrap_in (by decide) (by omega)) rfl ?_
          refine Y_assign ?_
          refine XD_end ?_
          refine K_roundO (a' := [(13, _)]) (k9 + 1) ((b5, rowO [.one (.int .i64 l_l[i].addr), idSeg l_l[i].id, .one (.int .i64 l_l[q].addr), idSeg l_l[q].id, .one (.slice adS (R_l.take k).length cpS), .one (.slice adv42 (k9 + 1) cpv42)] 28) :: hs41) (.cons (k := 13) rfl (.cons (k := 11) rfl (.cons (k := 78) rfl (.cons (k := 77) rfl (.cons (k := 73) rfl (.cons (k := 76) rfl (.cons (k := 75) rfl (.cons (k := 74) rfl (.cons (k := 57) rfl (.cons (k := 56) rfl (.cons (k := 55) rfl (.cons (k := 54) rfl (.cons (k := 53) rfl (.cons (k := 52) rfl (.cons (k := 51) rfl (.cons (k := 50) rfl (.cons (k := 10) rfl (.cons (k := 49) rfl (.cons (k := 48) rfl (.cons (k := 47) rfl (.cons (k := 46) rfl (.cons (k := 45) rfl (.cons (k := 44) rfl (.cons (k := 43) rfl (.cons (k := 42) rfl (.cons (k := 41) rfl (.cons (k := 40) rfl (.cons (k := 39) rfl (.cons (k := 38) rfl (.cons (k := 9) rfl (.cons (k := 37) rfl (.cons (k := 36) rfl (.cons (k := 35) rfl (.cons (k := 34) rfl (.cons (k := 33) rfl (.cons (k := 32) rfl (.cons (k := 29) rfl (.cons (k := 28) rfl (.cons (k := 27) rfl (.cons (k := 8) rfl (.cons (k := 6) rfl (.cons (k := 7) rfl (.cons (k := 5) rfl (.cons (k := 4) rfl (.cons (k := 0) rfl (.cons (k := 1) rfl (.nil))))))))))))))))))))))))))))))))))))))))))))))) (by exact Mem.le.refl _) (fun w hw => by first | exact hw | exact hw.c) ?_ ?_
          ·refine ⟨_, _, rfl, rfl, by omega, rfl, ?_⟩
           rw [List.range_succ, List.map_append, List.map_append]
           rw [show ([k9].map (setF l_l i l_l[i])).map PeerV.segs = [PeerV.segs l_l[o9]] from congrArg (fun p => [PeerV.segs p]) (show setF l_l i l_l[i] k9 = l_l[o9] by unfold setF; rw [hog, if_neg (by omega), List.getElem?_eq_getElem ho9]; rfl)]
           exact ho40
          ·omega
        ·replace hc31 := dF hc31
         refine C_exit ?_
         iterate 2 refine K_exit ?_
         refine K_hit ?_
         refine K_then ?_
         obtain rfl : k9 = 160 := by omega
         refine C_frz (l := (List.range 160).map (setF l_l i l_l[i])) ho5 (by repeat first | exact Rem.here _ | exact Rem.two | apply Rem.skip | apply Rem.over) (fun M6 hm6 k_F => ?_)
         refine C_region (l := [0, 1, 2, 3, 4]) rfl ?_
         refine Y_move ?_
         refine Y_load F.lay28 ?_
         refine X_buildSliceF rfl rfl F.elem60 F.zero28 rfl rfl (.cons rfl (by constructor) .nil) rfl rfl (by simp only [List.map_cons, List.map_nil] <;> rfl) rfl ?_; intro b43 hob44
         refine X_append (m := 1000000) rfl rfl rfl rfl rfl F.elem60 F.zero28 (by exact agg_size rfl) rfl (by assumption) (by repeat first | exact Rem.here _ | exact Rem.two | apply Rem.skip | apply Rem.over) (Src.own hob44.lens (by (refine rows_one1 ?_; (repeat (first | exact flat_nil | refine flat_id ?_ | (refine flat_one ?_ ?_; rfl))); done)) rfl (by repeat first | exact List.Mem.head _ | refine List.Mem.tail _ ?_ | refine List.mem_append_right _ ?_)) (by (simp; omega)) (by decide) rfl ?_; intro v47 hs46 ho45; obtain ⟨adv47, cpv47, rfl⟩ := ho45.valAt (n := acc.length + 1) (by (simp; done))
         refine Y_assign ?_
         refine XD_end ?_
         refine K_out ?_
         refine K_then ?_
         refine C_region (l := [0, 1, 2]) rfl ?_
         refine Y_move ?_
         refine X_ari rfl rfl rfl rfl rfl (by exact wrap_in (by decide) (by omega)) rfl ?_
         refine Y_assign ?_
         refine XD_end ?_
         refine K_roundO (a' := [(8, _), (6, _)]) (i + 1) (hs46) (.cons (k := 8) rfl (.cons (k := 6) rfl (.cons (k := 7) rfl (.cons (k := 5) rfl (.cons (k := 4) rfl (.cons (k := 0) rfl (.cons (k := 1) rfl (.nil)))))))) (hm1.trans (hm3.trans (hm4.trans hm6))) (fun w hw => by first | exact hw | exact hw.c) ?_ ?_
         ·refine ⟨acc ++ [⟨⟨l_l[i].addr, l_l[i].id⟩, ⟨l_l[q].addr, l_l[q].id⟩, ⟨adS, cpS, R_l.take k⟩, ⟨adF, cpF, (List.range 160).map (setF l_l i l_l[i])⟩⟩], _, rfl, by omega, by rw [List.map_append]; exact ho45, fun t ht => ?_, ?_⟩
          ·rcases List.mem_append.1 ht with ht | ht
           ·exact (hok t ht).mono (hm3.trans (hm4.trans hm6))
           ·rw [List.mem_singleton.1 ht]; exact ⟨k_S.mono (hm4.trans hm6), k_F⟩
          ·rw [List.map_append, hI, setL_take hi2]
           refine congrArg (fun t => (setL l_l rn).take i ++ [t]) ?_
           unfold setT
           rw [hR]
           rw [show R_l.take rn = R_l.take k by rw [List.take_eq_take_iff]; omega, ← hR, roundL_last hi2 (by omega), hR]; simp only [hq]; rfl
         ·omega
      ·replace hc6 := dF hc6
       refine C_skip ?_
       refine K_then ?_
       iterate 2 refine C_seq ?_
       refine C_region (l := [0]) rfl ?_
       refine Y_assign ?_
       refine XD_end ?_
       refine K_then ?_
       refine C_block ?_
       refine Y_pk [10, 39, 38, 9, 37, 36, 35, 34, 33, 32, 29, 28, 27, 8, 6, 7, 5, 4, 0, 1] ?_
       refine C_loopO (Hin := [(b5, rowO [.one (.int .i64 l_l[i].addr), idSeg l_l[i].id, .one (.int .i64 (-1)), idSeg 0, .one (.slice none 0 0), .one (.slice none 0 0)] 28)]) (.succ .zero) (by repeat first | exact Rem.here _ | exact Rem.two | apply Rem.skip | apply Rem.over) (fun (k : Nat) M2 h2 z => ∃ (v : Value) (hs : Hp), M2 = M1 ∧ z = [(10, .int .i64 ((k + 1 : Nat) : Int))] ∧ k ≤ R_l.length ∧ k ≤ rn ∧ h2 = (b5, rowO [.one (.int .i64 l_l[i].addr), idSeg l_l[i].id, .one (.int .i64 (-1)), idSeg 0, .one v, .one (.slice none 0 0)] 28) :: hs ∧ OSl 25 21 v hs ((R_l.take k).map PeerV.segs)) (fun k => R_l.length - k) (0) (⟨_, [], rfl, rfl, by omega, by omega, rfl, OSl.nil⟩) ?_
       rintro k M2 h2 z hm2 ⟨vS, hsS, hM2, rfl, hk1, hk2, rfl, hoS⟩
       subst hM2
       obtain ⟨adS, cpS, rfl⟩ := hoS.valL
       have hmS : ((R_l.take k).map PeerV.segs).length = k := by simp; omega
       have hmS2 : (R_l.take k).length = k := by simp; omega
       simp only [List.cons_append, List.nil_append]
       iterate 2 refine C_seq ?_
       refine C_region (l := [0, 1, 2, 3, 4, 5, 6, 7]) rfl ?_
       iterate 2 refine Y_move ?_
       refine Y_cmp ?_
       refine Y_move ?_
       refine XD_part 53 rfl (fun hc48 => ?_) (fun hc48 => ?_)
       ·replace hc48 := dT hc48
        (exfalso; omega)
       ·replace hc48 := dF hc48
        iterate 3 refine Y_skip ?_
        refine Y_pick ?_
        refine XD_end ?_
        refine K_then ?_
        refine C_false rfl ?_
        refine C_exit ?_
        iterate 2 refine K_exit ?_
        refine K_hit ?_
        refine K_then ?_
        refine C_seq ?_
        refine C_frz hoS (by repeat first | exact Rem.here _ | exact Rem.two | apply Rem.skip | apply Rem.over) (fun M3 hm3 k_S => ?_)
        refine C_region (l := [0, 1, 2, 3, 4, 5, 6, 7]) rfl ?_
        iterate 2 refine Y_move ?_
        refine X_fn rfl rfl F.ok96 rfl (rFingers_ok M3 ⟨l_a, l_c, l_l⟩ (i : Int) (k_l.mono (hm1.trans hm3))) rfl ?_
        rintro _ M4 hm4 hF9
        replace hF9 : IntsE M4 _ (fingersR l_l ((i : Nat) : Int)) := hF9
        rw [fingersR_yes hc hi2] at hF9
        obtain ⟨⟨G_a, G_c, G_l⟩, rfl, hG, k_G⟩ := hF9
        simp only at hG
        have s_G := k_G.h1
        simp only at s_G
        have hGl : G_l.length = 160 := by rw [hG]; simp
        have n_G : (G_l.map (oneI .i64)).length = G_l.length := List.length_map ..
        have s_l4 := s_l.mono ((hm1.trans hm3).trans hm4)
        refine Y_move ?_
        iterate 2 refine Y_extract ?_
        iterate 2 refine Y_assign ?_
        refine XD_end ?_
        refine K_then ?_
        refine Y_pk [11, 78, 77, 73, 76, 75, 74, 57, 56, 55, 54, 53, 52, 51, 50, 10, 39, 38, 9, 37, 36, 35, 34, 33, 32, 29, 28, 27, 8, 6, 7, 5, 4, 0, 1] ?_
        iterate 2 refine C_seq ?_
        refine C_region (l := [0]) rfl ?_
        refine Y_assign ?_
        refine XD_end ?_
        refine K_then ?_
        refine C_block ?_
        refine Y_pk [13, 11, 78, 77, 73, 76, 75, 74, 57, 56, 55, 54, 53, 52, 51, 50, 10, 39, 38, 9, 37, 36, 35, 34, 33, 32, 29, 28, 27, 8, 6, 7, 5, 4, 0, 1] ?_
        refine C_loopO (Hin := [(b5, rowO [.one (.int .i64 l_l[i].addr), idSeg l_l[i].id, .one (.int .i64 (-1)), idSeg 0, .one (.slice adS (R_l.take k).length cpS), .one (.slice none 0 0)] 28)]) (.succ .zero) (by repeat first | exact Rem.here _ | exact Rem.two | apply Rem.skip | apply Rem.over) (fun (k9 : Nat) M5 h5 z => ∃ (v : Value) (hs : Hp), M5 = M4 ∧ z = [(13, .int .i64 (k9 : Int))] ∧ k9 ≤ 160 ∧ h5 = (b5, rowO [.one (.int .i64 l_l[i].addr), idSeg l_l[i].id, .one (.int .i64 (-1)), idSeg 0, .one (.slice adS (R_l.take k).length cpS), .one v] 28) :: hs ∧ OSl 25 21 v hs (((List.range k9).map (setF l_l i l_l[i])).map PeerV.segs)) (fun k9 => 160 - k9) (0) (⟨_, [], rfl, rfl, by omega, rfl, OSl.nil⟩) ?_
        rintro k9 M5 h5 z hm5 ⟨vF, hs5, hM5, rfl, hk9, rfl, ho5⟩
        subst hM5
        obtain ⟨adF, cpF, rfl⟩ := ho5.val
        have hnw : (((List.range k9).map (setF l_l i l_l[i])).map PeerV.segs).length = k9 := by simp
        rw [hnw] at ho5 ⊢
        simp only [List.cons_append, List.nil_append]
        iterate 2 refine C_seq ?_
        refine C_region (l := [0, 1, 2, 3]) rfl ?_
        iterate 2 refine Y_move ?_
        refine Y_len_sl F.elem41 ?_
        refine Y_cmp ?_
        refine XD_end ?_
        refine K_then ?_
        refine C_cond rfl (fun hc72 => ?_) (fun hc72 => ?_)
        ·replace hc72 := dT hc72
         refine C_skip ?_
         refine K_then ?_
         refine C_seq ?_
         refine C_block ?_
         refine C_seq ?_
         refine C_region (l := [0, 1, 2, 3, 4, 5]) rfl ?_
         iterate 2 refine Y_move ?_
         refine X_indexAddr rfl rfl rfl rfl F.elem41 (by rfl) (by omega) (by exact SlM.plain (by assumption) (by (simp; omega))) rfl ?_
         refine X_load_el rfl rfl rfl (by assumption) (by exact row_map (by omega)) F.lay3 rfl rfl rfl ?_
         have hGk : G_l[k9] = ((ownerI l_l (l_l[i].id + powP k9) : Nat) : Int) := by simp only [hG, List.getElem_map, List.getElem_range]; rfl
         have ho9 := ownerI_lt (l := l_l) (x := l_l[i].id + powP k9) (by omega)
         generalize hog : ownerI l_l (l_l[i].id + powP k9) = o9 at hGk ho9
         simp only [List.get_eq_getElem, hGk]
         refine Y_move ?_
         refine Y_cmp ?_
         refine XD_end ?_
         refine K_then ?_
         refine C_cond rfl (fun hc73 => ?_) (fun hc73 => ?_)
         ·replace hc73 := dT hc73
          refine C_region_any (l := [0, 1, 2, 3, 4, 5, 6]) #[0, 1, 0, 4, 15, 31, 63] _ rfl (by kernel_rfl) (by kernel_rfl) St.drawn (fun _ h => h) ?_
          refine Y_fieldAddr F.foff28_3 ?_
          refine Y_load F.lay26 ?_
          refine X_fs rfl rfl F.ok43 rfl (rNone_ok _) rfl ?_
          rintro _ rfl
          refine XD_is 93 rfl (show _ = aggV [.one (.int .i64 (-1)), idSeg 0] from rfl) ?_
          refine X_buildSliceF rfl rfl F.elem26 F.zero25 rfl rfl (.cons rfl (by constructor) .nil) rfl rfl (by simp only [List.map_cons, List.map_nil] <;> rfl) rfl ?_; intro b74 hob75
          refine X_append (m := 1000000) rfl rfl rfl rfl rfl F.elem26 F.zero25 (by exact agg_size rfl) rfl (by assumption) (by repeat first | exact Rem.here _ | exact Rem.two | apply Rem.skip | apply Rem.over) (Src.own hob75.lens (by (refine rows_one1 ?_; (repeat (first | exact flat_nil | refine flat_id ?_ | (refine flat_one ?_ ?_; rfl))); done)) rfl (by repeat first | exact List.Mem.head _ | refine List.Mem.tail _ ?_ | refine List.mem_append_right _ ?_)) (by (simp; omega)) (by decide) rfl ?_; intro v78 hs77 ho76; obtain ⟨adv78, cpv78, rfl⟩ := ho76.valAt (n := k9 + 1) (by (simp; done))
          refine Y_fieldAddr F.foff28_3 ?_
          refine Y_store F.lay26 ?_
          refine XD_end ?_
          refine K_out ?_
          refine K_then ?_
          refine C_region (l := [0, 1, 2]) rfl ?_
          refine Y_move ?_
          refine X_ari rfl rfl rfl rfl rfl (by exact wrap_in (by decide) (by omega)) rfl ?_
          refine Y_assign ?_
          refine XD_end ?_
          refine K_roundO (a' := [(13, _)]) (k9 + 1) ((b5, rowO [.one (.int .i64 l_l[i].addr), idSeg l_l[i].id, .one (.int .i64 (-1)), idSeg 0, .one (.slice adS (R_l.take k).length cpS), .one (.slice adv78 (k9 + 1) cpv78)] 28) :: hs77) (.cons (k := 13) rfl (.cons (k := 11) rfl (.cons (k := 78) rfl (.cons (k := 77) rfl (.cons (k := 73) rfl (.cons (k := 76) rfl (.cons (k := 75) rfl (.cons (k := 74) rfl (.cons (k := 57) rfl (.cons (k := 56) rfl (.cons (k := 55) rfl (.cons (k := 54) rfl (.cons (k := 53) rfl (.cons (k := 52) rfl (.cons (k := 51) rfl (.cons (k := 50) rfl (.cons (k := 10) rfl (.cons (k := 39) rfl (.cons (k := 38) rfl (.cons (k := 9) rfl (.cons (k := 37) rfl (.cons (k := 36) rfl (.cons (k := 35) rfl (.cons (k := 34) rfl (.cons (k := 33) rfl (.cons (k := 32) rfl (.cons (k := 29) rfl (.cons (k := 28) rfl (.cons (k := 27) rfl (.cons (k := 8) rfl (.cons (k := 6) rfl (.cons (k := 7) rfl (.cons (k := 5) rfl (.cons (k := 4) rfl (.cons (k := 0) rfl (.cons (k := 1) rfl (.nil))))))))))))))))))))))))))))))))))))) (by exact Mem.le.refl _) (fun w hw => by first | exact hw | exact hw.c) ?_ ?_
          ·refine ⟨_, _, rfl, rfl, by omega, rfl, ?_⟩
           rw [List.range_succ, List.map_append, List.map_append]
           rw [show ([k9].map (setF l_l i l_l[i])).map PeerV.segs = [PeerV.segs noneP] from congrArg (fun p => [PeerV.segs p]) (if_pos (by omega))]
           exact ho76
          ·omega
         ·replace hc73 := dF hc73
          (exfalso; omega)
        ·replace hc72 := dF hc72
         refine C_exit ?_
         iterate 2 refine K_exit ?_
         refine K_hit ?_
         refine K_then ?_
         obtain rfl : k9 = 160 := by omega
         refine C_frz (l := (List.range 160).map (setF l_l i l_l[i])) ho5 (by repeat first | exact Rem.here _ | exact Rem.two | apply Rem.skip | apply Rem.over) (fun M6 hm6 k_F => ?_)
         refine C_region (l := [0, 1, 2, 3, 4]) rfl ?_
         refine Y_move ?_
         refine Y_load F.lay28 ?_
         refine X_buildSliceF rfl rfl F.elem60 F.zero28 rfl rfl (.cons rfl (by constructor) .nil) rfl rfl (by simp only [List.map_cons, List.map_nil] <;> rfl) rfl ?_; intro b84 hob85
         refine X_append (m := 1000000) rfl rfl rfl rfl rfl F.elem60 F.zero28 (by exact agg_size rfl) rfl (by assumption) (by repeat first | exact Rem.here _ | exact Rem.two | apply Rem.skip | apply Rem.over) (Src.own hob85.lens (by (refine rows_one1 ?_; (repeat (first | exact flat_nil | refine flat_id ?_ | (refine flat_one ?_ ?_; rfl))); done)) rfl (by repeat first | exact List.Mem.head _ | refine List.Mem.tail _ ?_ | refine List.mem_append_right _ ?_)) (by (simp; omega)) (by decide) rfl ?_; intro v88 hs87 ho86; obtain ⟨adv88, cpv88, rfl⟩ := ho86.valAt (n := acc.length + 1) (by (simp; done))
         refine Y_assign ?_
         refine XD_end ?_
         refine K_out ?_
         refine K_then ?_
         refine C_region (l := [0, 1, 2]) rfl ?_
         refine Y_move ?_
         refine X_ari rfl rfl rfl rfl rfl (by exact wrap_in (by decide) (by omega)) rfl ?_
         refine Y_assign ?_
         refine XD_end ?_
         refine K_roundO (a' := [(8, _), (6, _)]) (i + 1) (hs87) (.cons (k := 8) rfl (.cons (k := 6) rfl (.cons (k := 7) rfl (.cons (k := 5) rfl (.cons (k := 4) rfl (.cons (k := 0) rfl (.cons (k := 1) rfl (.nil)))))))) (hm1.trans (hm3.trans (hm4.trans hm6))) (fun w hw => by first | exact hw | exact hw.c) ?_ ?_
         ·refine ⟨acc ++ [⟨⟨l_l[i].addr, l_l[i].id⟩, noneP, ⟨adS, cpS, R_l.take k⟩, ⟨adF, cpF, (List.range 160).map (setF l_l i l_l[i])⟩⟩], _, rfl, by omega, by rw [List.map_append]; exact ho86, fun t ht => ?_, ?_⟩
          ·rcases List.mem_append.1 ht with ht | ht
           ·exact (hok t ht).mono (hm3.trans (hm4.trans hm6))
           ·rw [List.mem_singleton.1 ht]; exact ⟨k_S.mono (hm4.trans hm6), k_F⟩
          ·rw [List.map_append, hI, setL_take hi2]
           refine congrArg (fun t => (setL l_l rn).take i ++ [t]) ?_
           unfold setT
           rw [hR]
           rw [show R_l.take rn = R_l.take k by rw [List.take_eq_take_iff]; omega, show R_l.getLastD noneP = noneP by rw [show R_l = [] from List.eq_nil_of_length_eq_zero (by omega)]; rfl]; rfl
         ·omega
     ·replace hc4 := dF hc4
      refine C_exit ?_
      iterate 2 refine K_exit ?_
      refine K_hit ?_
      refine K_then ?_
      refine Y_pk [6, 5, 4] ?_
      refine C_seq ?_
      refine C_region (l := [0, 1, 2]) rfl ?_
      refine Y_move ?_
      iterate 2 refine Y_assign ?_
      refine XD_end ?_
      refine K_then ?_
      refine Y_pk [5, 4] ?_
      refine C_ret ?_
      refine K_end (.inr rfl) (.tmp rfl (.tmp rfl .nil)) (fun w hw => ?_)
      obtain rfl : i = l_l.length := by omega
      rw [List.take_of_length_le (by rw [setL_len]; omega)] at hI
      obtain ⟨M9, s1, g1, g2, g3, g4, g5⟩ := OSl.freezeK (f := TableV.segs) (H := H) (l := acc) ho (hw.c)
      refine ⟨_, M9, rfl, hm1.trans g1, g2, ?_⟩
      rw [show settledT l_l ((rn : Nat) : Int) = _ from settledT_yes hc (by omega) (by omega)]
      exact ⟨_, rfl, s1, g3, by rw [g4]; exact hI, g5, by rw [g4]; exact fun t ht => (hok t ht).mono g1⟩

end Go.Proofs.Ytbjklbmmchiahaa
/-
  The document's row of three, walked: by the models.
-/
set_option linter.unusedSimpArgs false
set_option linter.unusedVariables false
set_option linter.unnecessarySimpa false
namespace Go.Esp
def exP : List PeerV := [⟨1, 10#160⟩, ⟨2, 20#160⟩, ⟨3, 30#160⟩]
theorem xsm10 : smallP 10 = 10#160 := by kernel_rfl
theorem xsm20 : smallP 20 = 20#160 := by kernel_rfl
theorem xsm30 : smallP 30 = 30#160 := by kernel_rfl
theorem xsm25 : smallP 25 = 25#160 := by kernel_rfl
theorem xw0 : settledT exP 2 = (setL exP 2, 0) := by kernel_rfl
theorem xw1 : walkT (setL exP 2) 1 25#160 5 = (⟨[1, 2], ⟨3, 30#160⟩⟩, 0) := by kernel_rfl
theorem xw2 : walkT (setL exP 2) 1 25#160 0 = (Rt.zero, 2) := by kernel_rfl
theorem xw3 : walkT (setL exP 2) 4 25#160 5 = (Rt.zero, 1) := by kernel_rfl
theorem xw4 : (setL exP 2).length = 3 := by kernel_rfl
end Go.Esp
/-
  The document's row.
-/
set_option linter.unusedSimpArgs false
set_option linter.unusedVariables false
set_option linter.unnecessarySimpa false
set_option maxRecDepth 8000
set_option maxHeartbeats 1000000
namespace Go.Proofs.Ytbjklbmmchiahaa
open Go.Esp
theorem F.ok48 : okFn Try.prog 48 = true := by kernel_rfl
theorem F.ok52 : okFn Try.prog 52 = true := by kernel_rfl

theorem smw10_ok (M : Mem) : Fs Try.prog 73 [.int .i64 10] M (fun v => v = aggV [idSeg 10#160]) := by
  have h := Small_ok M 10 (by decide)
  rw [xsm10] at h
  exact h

theorem smw20_ok (M : Mem) : Fs Try.prog 73 [.int .i64 20] M (fun v => v = aggV [idSeg 20#160]) := by
  have h := Small_ok M 20 (by decide)
  rw [xsm20] at h
  exact h

theorem smw30_ok (M : Mem) : Fs Try.prog 73 [.int .i64 30] M (fun v => v = aggV [idSeg 30#160]) := by
  have h := Small_ok M 30 (by decide)
  rw [xsm30] at h
  exact h

theorem smw25_ok (M : Mem) : Fs Try.prog 73 [.int .i64 25] M (fun v => v = aggV [idSeg 25#160]) := by
  have h := Small_ok M 25 (by decide)
  rw [xsm25] at h
  exact h

theorem IntsF_ok (M : Mem) (x : Sl Int) (a : Option Addr) (c : Nat) (l : List Int) (hs : Hp) (hx : SlK M (oneI .i64) 1 x) (ho : OSl 3 1 (.slice a l.length c) hs (l.map (oneI .i64))) : Fh Try.prog 91 [Sl.val x, .slice a l.length c] M hs (fun M' v Hout => Hout = [] ∧ v = .bool (decide (x.l = l))) := fun H w hw => by
  obtain ⟨M1, h1, h2, h3⟩ := ho.frz hw
  exact (Ints_ok M1 x ⟨a, c, l⟩ (hx.mono h1) h3 H w h2).mono fun e w2 ⟨v, g1, g2, g3⟩ => ⟨v, M1, [], g1, h1, g2, rfl, g3⟩

theorem walked_ok (M : Mem) : Esp.Fn Try.prog 50 [] M (fun _ v => v = .bool true) := by
  refine fn_enter Try.func50 rfl Try.ntmps50 rfl ?_; intro H
  refine C_seq ?_
  refine C_region (l := [0]) rfl ?_
  refine Y_assign ?_
  refine XD_end ?_
  refine K_then ?_
  refine C_seq ?_
  refine C_region (l := [0, 1, 2, 3, 4, 5, 6, 7]) rfl ?_
  refine X_fs rfl rfl F.ok73 rfl (smw10_ok _) rfl ?_
  rintro _ rfl
  refine X_build rfl rfl F.bld25 (.cons rfl (by constructor) (.cons rfl (by constructor) .nil)) rfl rfl ?_
  refine X_fs rfl rfl F.ok73 rfl (smw20_ok _) rfl ?_
  rintro _ rfl
  refine X_build rfl rfl F.bld25 (.cons rfl (by constructor) (.cons rfl (by constructor) .nil)) rfl rfl ?_
  refine X_fs rfl rfl F.ok73 rfl (smw30_ok _) rfl ?_
  rintro _ rfl
  refine X_build rfl rfl F.bld25 (.cons rfl (by constructor) (.cons rfl (by constructor) .nil)) rfl rfl ?_
  refine X_buildSliceF rfl rfl F.elem26 F.zero25 rfl rfl (.cons rfl (by constructor) (.cons rfl (by constructor) (.cons rfl (by constructor) .nil))) rfl rfl (by simp only [List.map_cons, List.map_nil] <;> rfl) rfl ?_; intro b1 hob2
  refine Y_assign ?_
  refine XD_end ?_
  refine K_then ?_
  refine Y_pk [1, 0] ?_
  refine C_seq ?_
  refine C_frz (f := PeerV.segs) (l := exP) hob2 (by repeat first | exact Rem.here _ | exact Rem.two | apply Rem.skip | apply Rem.over) (fun M1 hm1 k_P => ?_)
  have s_P := k_P.h1
  simp only at s_P
  refine C_region (l := [0, 1, 2, 3, 4, 5, 6]) rfl ?_
  refine Y_move ?_
  refine X_fn rfl rfl F.ok52 rfl (Settled_ok M1 ⟨_, _, exP⟩ 2 k_P) rfl ?_
  rintro _ M3 hm3 h3
  rw [xw0] at h3
  obtain ⟨_, rfl, ⟨t3a, t3c, t3l⟩, rfl, e3, kt3, okt3⟩ := h3
  simp only at e3 okt3
  refine Y_move ?_
  iterate 2 refine Y_extract ?_
  iterate 2 refine Y_assign ?_
  refine XD_end ?_
  refine K_then ?_
  refine Y_pk [3, 2, 1, 0] ?_
  refine C_seq ?_
  refine C_region (l := [0, 1, 2, 3, 4, 5, 6, 7, 8]) rfl ?_
  refine Y_move ?_
  refine X_fs rfl rfl F.ok73 rfl (smw25_ok _) rfl ?_
  rintro _ rfl
  refine X_fn rfl rfl F.ok48 rfl (Walk_ok _ ⟨t3a, t3c, t3l⟩ 1 25#160 5 (kt3.mono (by exact Mem.le.refl _)) (fun y hy => (okt3 y hy).mono (by exact Mem.le.refl _))) rfl ?_
  rintro _ M4 hm4 h4
  rw [e3, xw1] at h4
  obtain ⟨_, rfl, ⟨⟨r4a, r4c, r4l⟩, ⟨x4a, x4i⟩⟩, rfl, e4, ok4⟩ := h4
  refine Y_move ?_
  iterate 2 refine Y_extract ?_
  refine Y_alloc F.zero63 ?_; intro b3
  refine Y_store F.lay63 ?_
  refine Y_assign ?_
  refine XD_end ?_
  refine K_then ?_
  refine Y_pk [5, 4, 3, 2, 1, 0] ?_
  refine C_seq ?_
  refine C_region (l := [0, 1, 2, 3, 4, 5, 6, 7, 8]) rfl ?_
  refine Y_move ?_
  refine X_fs rfl rfl F.ok73 rfl (smw25_ok _) rfl ?_
  rintro _ rfl
  refine X_fn rfl rfl F.ok48 rfl (Walk_ok _ ⟨t3a, t3c, t3l⟩ 1 25#160 0 (kt3.mono (by assumption)) (fun y hy => (okt3 y hy).mono (by assumption))) rfl ?_
  rintro _ M5 hm5 h5
  rw [e3, xw2] at h5
  obtain ⟨_, rfl, ⟨⟨r5a, r5c, r5l⟩, ⟨x5a, x5i⟩⟩, rfl, e5, ok5⟩ := h5
  refine Y_move ?_
  iterate 2 refine Y_extract ?_
  refine Y_alloc F.zero63 ?_; intro b4
  refine Y_store F.lay63 ?_
  refine Y_assign ?_
  refine XD_end ?_
  refine K_then ?_
  refine Y_pk [7, 5, 4, 3, 2, 1, 0] ?_
  refine C_seq ?_
  refine C_region (l := [0, 1, 2, 3, 4, 5, 6, 7, 8]) rfl ?_
  refine Y_move ?_
  refine X_fs rfl rfl F.ok73 rfl (smw25_ok _) rfl ?_
  rintro _ rfl
  refine X_fn rfl rfl F.ok48 rfl (Walk_ok _ ⟨t3a, t3c, t3l⟩ 4 25#160 5 (kt3.mono (by (repeat first | assumption | refine Mem.le.trans (by assumption) ?_))) (fun y hy => (okt3 y hy).mono (by (repeat first | assumption | refine Mem.le.trans (by assumption) ?_)))) rfl ?_
  rintro _ M6 hm6 h6
  rw [e3, xw3] at h6
  obtain ⟨_, rfl, ⟨⟨r6a, r6c, r6l⟩, ⟨x6a, x6i⟩⟩, rfl, e6, ok6⟩ := h6
  refine Y_move ?_
  iterate 2 refine Y_extract ?_
  refine Y_alloc F.zero63 ?_; intro b5
  refine Y_store F.lay63 ?_
  refine Y_assign ?_
  refine XD_end ?_
  refine K_then ?_
  refine Y_pk [9, 7, 5, 4, 3, 2, 1, 0] ?_
  refine C_seq ?_
  simp only [Rt.mk.injEq, PeerV.mk.injEq] at e4
  obtain ⟨rfl, rfl, rfl⟩ := e4
  have nt3 : t3l.length = 3 := by have h9 := congrArg List.length e3; rw [List.length_map, xw4] at h9; exact h9
  refine C_region_any (l := [0, 1, 2, 3, 4, 5, 6, 7, 8, 9, 10, 11, 12, 13, 14, 15, 16, 17, 18, 19, 20, 21, 22, 23, 24, 25, 26, 27, 28, 29, 30, 31, 32, 33, 34]) #[0, 1, 3, 7, 15, 31, 63, 127, 255, 255, 1023, 2047, 4095, 8191, 16383, 8191, 65535, 131071, 262143, 524287, 1048575, 524287, 2621439, 6815743, 16777215, 33554431, 67108863, 134217727, 268435455, 536870911, 1073741823, 2147483647, 4294967295, 8589934591, 17179869183] _ rfl (by kernel_rfl) (by kernel_rfl) St.drawn (fun _ h => h) ?_
  refine Y_move ?_
  refine Y_cmp ?_
  refine Y_move ?_
  refine XD_part 42 rfl (fun hc6 => ?_) (fun hc6 => ?_)
  ·replace hc6 := dT hc6
   simp only [PeerV.eta, TableV.eta, RouteV.eta] at hc6
   refine Y_move ?_
   refine Y_len_sl F.elem60 ?_
   refine Y_cmp ?_
   refine Y_pick ?_
   refine Y_move ?_
   refine XD_part 47 rfl (fun hc7 => ?_) (fun hc7 => ?_)
   ·replace hc7 := dT hc7
    iterate 2 refine Y_move ?_
    refine Y_cmp ?_
    refine Y_pick ?_
    refine Y_move ?_
    refine XD_part 52 rfl (fun hc8 => ?_) (fun hc8 => ?_)
    ·replace hc8 := dT hc8
     simp only [PeerV.eta, TableV.eta, RouteV.eta] at hc8
     refine Y_fieldAddr F.foff63_0 ?_
     refine Y_load F.lay41 ?_
     refine X_buildSliceF rfl rfl F.elem41 F.zero3 rfl rfl (.cons rfl (by constructor) (.cons rfl (by constructor) .nil)) rfl rfl (by simp only [List.map_cons, List.map_nil] <;> rfl) rfl ?_; intro b9 hob10
     refine X_fhR rfl rfl F.ok91 rfl (IntsF_ok _ ⟨r4a, r4c, [1, 2]⟩ _ _ [1, 2] _ (ok4.h0.mono (by (repeat first | assumption | refine Mem.le.trans (by assumption) ?_))) hob10) (by repeat first | exact Rem.here _ | exact Rem.two | apply Rem.skip | apply Rem.over) (fun _ _ _ hm hw => (hw.lower (by exact hm)).c) (putE_some rfl) ?_
     rintro _ M7 _ hm7 ⟨rfl, rfl⟩
     refine Y_pick ?_
     refine Y_move ?_
     refine XD_part 58 rfl (fun hc11 => ?_) (fun hc11 => ?_)
     ·replace hc11 := dT hc11
      simp only [PeerV.eta, TableV.eta, RouteV.eta] at hc11
      refine Y_fieldAddr F.foff63_1 ?_
      refine Y_load F.lay25 ?_
      refine Y_move ?_
      refine X_indexAddr (k := 2) rfl rfl rfl rfl F.elem26 rfl (by decide) (SlM.plain s_P (by decide)) rfl ?_
      refine X_load_el rfl rfl rfl (s_P.mono (by (repeat first | assumption | refine Mem.le.trans (by assumption) ?_))) (show (exP.map PeerV.segs)[2]? = some (PeerV.segs ⟨3, 30#160⟩) from rfl) F.lay25 rfl rfl rfl ?_
      refine X_same (m := 20) rfl rfl rfl rfl rfl (by constructor) (by constructor) F.lay25 F.kinds25 rfl F.guard25 (by exact FitPeerV (⟨_, _⟩)) (by exact FitPeerV (⟨_, _⟩)) rfl rfl rfl ?_; intro c12 he13
      replace he13 : c12 = true ↔ Segs.cells _ = Segs.cells _ := he13
      obtain rfl := eqD he13 (PeerV.inj (x := ⟨_, _⟩) (y := ⟨_, _⟩)); clear he13
      refine Y_pick ?_
      refine Y_move ?_
      refine XD_part 66 rfl (fun hc14 => ?_) (fun hc14 => ?_)
      ·replace hc14 := dT hc14
       simp only [PeerV.eta, TableV.eta, RouteV.eta] at hc14
       refine Y_move ?_
       refine Y_cmp ?_
       refine Y_pick ?_
       refine Y_move ?_
       refine XD_part 70 rfl (fun hc15 => ?_) (fun hc15 => ?_)
       ·replace hc15 := dT hc15
        simp only [PeerV.eta, TableV.eta, RouteV.eta] at hc15
        refine Y_move ?_
        refine Y_cmp ?_
        refine Y_pick ?_
        refine Y_assign ?_
        refine XD_end ?_
        refine K_then ?_
        refine Y_pk [0] ?_
        refine C_ret ?_
        refine K_end (.inr rfl) (.tmp rfl .nil) (fun w hw => ?_)
        exact ⟨_, _, rfl, (by (repeat first | assumption | refine Mem.le.trans (by assumption) ?_)), hw.c, rfl⟩
       ·replace hc15 := dF hc15
        simp only [PeerV.eta, TableV.eta, RouteV.eta] at hc15
        (exfalso; simp [eqX] at hc15; done)
      ·replace hc14 := dF hc14
       simp only [PeerV.eta, TableV.eta, RouteV.eta] at hc14
       (exfalso; simp [eqX] at hc14; done)
     ·replace hc11 := dF hc11
      simp only [PeerV.eta, TableV.eta, RouteV.eta] at hc11
      (exfalso; simp [eqX] at hc11; done)
    ·replace hc8 := dF hc8
     simp only [PeerV.eta, TableV.eta, RouteV.eta] at hc8
     (exfalso; simp [eqX] at hc8; done)
   ·replace hc7 := dF hc7
    (exfalso; omega)
  ·replace hc6 := dF hc6
   simp only [PeerV.eta, TableV.eta, RouteV.eta] at hc6
   (exfalso; simp [eqX] at hc6; done)

end Go.Proofs.Ytbjklbmmchiahaa
/-
  Laws of walks, in plain Lean.
-/
set_option linter.unusedSimpArgs false
set_option linter.unusedVariables false
set_option linter.unnecessarySimpa false
namespace Go.Esp
/-! Settled tables are right. -/
theorem less_ne {a b : Plc} (h : LessP a b) : a ≠ b := fun e => by subst e; exact Nat.lt_irrefl _ h
theorem circ_id {l : List PeerV} (h : CircOk l) {i j : Nat} (hi : i < l.length) (hj : j < l.length) (hn : i ≠ j) : l[i].id ≠ l[j].id := by
  rcases Nat.lt_or_gt_of_ne hn with h1 | h1
  · exact less_ne (List.pairwise_iff_getElem.1 h.2.2 i j hi hj h1)
  · exact (less_ne (List.pairwise_iff_getElem.1 h.2.2 j i hj hi h1)).symm
theorem circ_addr {l : List PeerV} (h : CircOk l) {i j : Nat} (hi : i < l.length) (hj : j < l.length) (hn : i ≠ j) : l[i].addr ≠ l[j].addr := by
  have key : ∀ i j (hi : i < l.length) (hj : j < l.length), i < j → l[i].addr ≠ l[j].addr := fun i j hi hj h1 => by
    have := List.pairwise_iff_getElem.1 h.2.1 i j (by simpa using hi) (by simpa using hj) h1
    simpa using this
  rcases Nat.lt_or_gt_of_ne hn with h1 | h1
  · exact key i j hi hj h1
  · exact (key j i hj hi h1).symm
theorem circ_other {l : List PeerV} (h : CircOk l) {i j : Nat} (hi : i < l.length) (hj : j < l.length) (hn : j ≠ i) : OtherP l[i] l[j] :=
  ⟨h.1 _ (List.getElem_mem hj), circ_addr h hj hi hn, circ_id h hj hi hn⟩
theorem roundL_mem {l : List PeerV} {i : Nat} (hi : i < l.length) {p : PeerV} (hp : p ∈ roundL l i) : ∃ j, ∃ hj : j < l.length, j ≠ i ∧ p = l[j] := by
  unfold roundL at hp
  rcases List.mem_append.1 hp with hp | hp
  · obtain ⟨k, hk, rfl⟩ := List.getElem_of_mem hp
    simp only [List.length_drop] at hk
    exact ⟨i + 1 + k, by omega, by omega, by rw [List.getElem_drop]⟩
  · obtain ⟨k, hk, rfl⟩ := List.getElem_of_mem hp
    simp only [List.length_take] at hk
    exact ⟨k, by omega, by omega, by rw [List.getElem_take]⟩
theorem roundL_nodup {l : List PeerV} {i : Nat} (h : (l.map PeerV.addr).Nodup) : ((roundL l i).map PeerV.addr).Nodup := by
  have h1 : (l.take i ++ l.drop (i + 1)).Sublist l := by
    conv => rhs; rw [← List.take_append_drop i l]
    exact List.Sublist.append_left (List.drop_sublist_drop_left l (Nat.le_succ i)) _
  have h2 : (roundL l i).Perm (l.take i ++ l.drop (i + 1)) := List.perm_append_comm
  exact (h2.map _).nodup_iff.2 (h.sublist (h1.map _))
theorem setF_maybe {l : List PeerV} {i : Nat} (h : IsCircle l) (hi : i < l.length) (k : Nat) : MaybeP l[i] (setF l i l[i] k) := by
  unfold setF
  split
  · exact .inl rfl
  · rename_i hn
    have ho := ownerI_lt (l := l) (x := l[i].id + powP k) (by omega)
    rw [List.getElem?_eq_getElem ho]
    exact .inr (circ_other h.2 hi ho hn)
theorem setT_right {l : List PeerV} {i r : Nat} (h : IsCircle l) (hi : i < l.length) (hr : r ≤ 8) : IsTb (setT l r i l[i]) := by
  refine ⟨h.2.1 _ (List.getElem_mem hi), ?_, ?_, ?_, ⟨fun p hp => ?_, ?_⟩, fun p hp => ?_⟩
  · show MaybeP l[i] ((roundL l i).getLastD noneP)
    rcases Nat.eq_zero_or_pos (roundL l i).length with h0 | h0
    · rw [List.eq_nil_of_length_eq_zero h0]; exact .inl rfl
    · rw [lastD_at h0]
      obtain ⟨j, hj, hn, e⟩ := roundL_mem hi (List.getElem_mem (l := roundL l i) (n := (roundL l i).length - 1) (by omega))
      rw [e]; exact .inr (circ_other h.2 hi hj hn)
  · show ((roundL l i).take r).length ≤ 8
    rw [List.length_take]; omega
  · show ((List.range 160).map (setF l i l[i])).length = 160
    simp
  · obtain ⟨j, hj, hn, e⟩ := roundL_mem hi (List.mem_of_mem_take hp)
    rw [e]; exact circ_other h.2 hi hj hn
  · exact (roundL_nodup h.2.2.1).sublist ((List.take_sublist _ _).map _)
  · obtain ⟨k, _, rfl⟩ := List.mem_map.1 hp
    exact setF_maybe h hi k
theorem setL_at {l : List PeerV} {r i : Nat} (hi : i < l.length) : (setL l r)[i]'(by rw [setL_len]; exact hi) = setT l r i l[i] := by
  unfold setL; simp
theorem setL_right {l : List PeerV} {r : Nat} (h : IsCircle l) (hr : r ≤ 8) : RightL (setL l r) := by
  refine ⟨by rw [setL_len]; exact h.1.2, fun t ht => ?_, ?_⟩
  · obtain ⟨i, hi, rfl⟩ := List.getElem_of_mem ht
    rw [setL_len] at hi
    rw [setL_at hi]
    exact setT_right h hi hr
  · have e : (setL l r).map (fun t => t.self.addr) = l.map PeerV.addr := by
      refine List.ext_getElem (by simp [setL_len]) fun i h1 h2 => ?_
      simp only [List.length_map, setL_len] at h1
      simp only [List.getElem_map]
      rw [setL_at h1]; rfl
    rw [e]; exact h.2.2.1
theorem findT_at {l : List Tb} (h : RightL l) {i : Nat} (hi : i < l.length) : findT l l[i].self.addr = some l[i] := by
  unfold findT
  rw [List.find?_eq_some_iff_getElem]
  refine ⟨by simp, i, hi, rfl, fun j hj => ?_⟩
  have h1 := (List.pairwise_iff_getElem.1 h.2.2) j i (by simp; omega) (by simpa using hi) hj
  simp only [List.getElem_map] at h1
  simpa using h1
theorem findT_mem {l : List Tb} {a : Int} {t : Tb} (h : findT l a = some t) : t ∈ l ∧ t.self.addr = a := ⟨List.mem_of_find?_eq_some h, by simpa using List.find?_some h⟩
theorem findT_set {l : List PeerV} {r i : Nat} (h : IsCircle l) (hr : r ≤ 8) (hi : i < l.length) : findT (setL l r) l[i].addr = some (setT l r i l[i]) := by
  have h1 := findT_at (setL_right h hr) (i := i) (by rw [setL_len]; exact hi)
  rw [setL_at hi] at h1
  exact h1
/-! How walks end. -/
section
variable {l : List Tb} {id : Plc} {most more : Nat}
theorem walkGo_cases {n : Nat} {t : Tb} {hops : List Int} : walkGo l id most (n + 1) t hops = (⟨hops, firstT t⟩, 0) ∧ (doneT t id).2 = true ∨
    (doneT t id).2 = false ∧ (walkGo l id most (n + 1) t hops = (Rt.zero, 7) ∧ (nearestT t id []).2 = false ∨
      (nearestT t id []).2 = true ∧ (walkGo l id most (n + 1) t hops = (Rt.zero, 2) ∧ most < hops.length ∨
        hops.length ≤ most ∧ (walkGo l id most (n + 1) t hops = (Rt.zero, 5) ∧ findT l (nearestT t id []).1.addr = none ∨
          ∃ u, findT l (nearestT t id []).1.addr = some u ∧ walkGo l id most (n + 1) t hops = walkGo l id most n u (hops ++ [(nearestT t id []).1.addr])))) := by
  obtain ⟨⟨p, d⟩, hd⟩ : ∃ r, doneT t id = r := ⟨_, rfl⟩
  obtain ⟨⟨q, o⟩, ho⟩ : ∃ r, nearestT t id [] = r := ⟨_, rfl⟩
  rw [hd, ho]
  cases d with
  | true =>
    refine .inl ⟨?_, rfl⟩
    rw [walkGo_done hd]
    have : p = firstT t := (congrArg Prod.fst hd).symm
    rw [this]
  | false =>
    refine .inr ⟨rfl, ?_⟩
    cases o with
    | false => exact .inl ⟨walkGo_none hd ho, rfl⟩
    | true =>
      refine .inr ⟨rfl, ?_⟩
      rcases Nat.lt_or_ge most hops.length with h | h
      · exact .inl ⟨walkGo_limit hd ho h, h⟩
      · refine .inr ⟨h, ?_⟩
        cases hf : findT l q.addr with
        | none => exact .inl ⟨walkGo_range hd ho (by omega) hf, rfl⟩
        | some u => exact .inr ⟨u, rfl, walkGo_step hd ho (by omega) hf⟩
theorem walkGo_code : ∀ {n : Nat} {t : Tb} {hops : List Int}, (walkGo l id most n t hops).2 ≠ 1 ∧ ((walkGo l id most n t hops).2 ≠ 0 → (walkGo l id most n t hops).1 = Rt.zero)
  | 0, t, hops => ⟨by unfold walkGo; decide, fun _ => by unfold walkGo; rfl⟩
  | n + 1, t, hops => by
    rcases walkGo_cases (l := l) (id := id) (most := most) (n := n) (t := t) (hops := hops) with ⟨h, _⟩ | ⟨_, ⟨h, _⟩ | ⟨_, ⟨h, _⟩ | ⟨_, ⟨h, _⟩ | ⟨u, _, h⟩⟩⟩⟩
    · rw [h]; exact ⟨(show (0 : Int) ≠ 1 by decide), fun h => absurd rfl h⟩
    · rw [h]; exact ⟨by decide, fun _ => rfl⟩
    · rw [h]; exact ⟨by decide, fun _ => rfl⟩
    · rw [h]; exact ⟨by decide, fun _ => rfl⟩
    · rw [h]; exact walkGo_code
/-- Another bound: the same route, or it is over. -/
theorem walkGo_more : ∀ {n n2 : Nat} {t : Tb} {hops : List Int} {R : Rt}, hops.length + n = most + 2 → hops.length + n2 = more + 2 → hops.length ≤ more + 1 → walkGo l id most n t hops = (R, 0) →
    hops.length ≤ R.hops.length ∧ R.hops.length ≤ most + 1 ∧ (R.hops.length ≤ more + 1 → walkGo l id more n2 t hops = (R, 0)) ∧ (more + 1 < R.hops.length → walkGo l id more n2 t hops = (Rt.zero, 2))
  | 0, n2, t, hops, R, h1, h2, h3, h => by unfold walkGo at h; cases h
  | n + 1, 0, t, hops, R, h1, h2, h3, h => by omega
  | n + 1, n2 + 1, t, hops, R, h1, h2, h3, h => by
    rcases walkGo_cases (l := l) (id := id) (most := most) (n := n) (t := t) (hops := hops) with ⟨g, gd⟩ | ⟨gd, ⟨g, _⟩ | ⟨gn, ⟨g, _⟩ | ⟨gm, ⟨g, _⟩ | ⟨u, gf, g⟩⟩⟩⟩
    · rw [g] at h
      obtain rfl : Rt.mk hops (firstT t) = R := congrArg Prod.fst h
      have e : walkGo l id more (n2 + 1) t hops = (⟨hops, firstT t⟩, 0) := walkGo_done (show doneT t id = (firstT t, true) from Prod.ext rfl gd)
      exact ⟨Nat.le_refl _, by show hops.length ≤ _; omega, fun _ => e, fun h9 => by have : more + 1 < hops.length := h9; omega⟩
    · rw [g] at h; cases h
    · rw [g] at h; cases h
    · rw [g] at h; cases h
    · rw [g] at h
      have ed : doneT t id = (firstT t, false) := Prod.ext rfl gd
      have en : nearestT t id [] = ((nearestT t id []).1, true) := Prod.ext rfl gn
      rcases Nat.lt_or_ge more hops.length with hm | hm
      · -- over for the other one
        have hlen : (hops ++ [(nearestT t id []).1.addr]).length = hops.length + 1 := by simp
        have e := walkGo_limit (l := l) (most := more) (n := n2) (hops := hops) ed en hm
        have key : ∀ {n : Nat} {t : Tb} {hops : List Int}, hops.length + n = most + 2 → walkGo l id most n t hops = (R, 0) → hops.length ≤ R.hops.length ∧ R.hops.length ≤ most + 1 := by
          intro n
          induction n with
          | zero => intro t hops _ h; unfold walkGo at h; cases h
          | succ n ih =>
            intro t hops h1 h
            rcases walkGo_cases (l := l) (id := id) (most := most) (n := n) (t := t) (hops := hops) with ⟨g, gd⟩ | ⟨gd, ⟨g, _⟩ | ⟨gn, ⟨g, _⟩ | ⟨gm, ⟨g, _⟩ | ⟨u, gf, g⟩⟩⟩⟩
            · rw [g] at h
              obtain rfl : Rt.mk hops (firstT t) = R := congrArg Prod.fst h
              exact ⟨Nat.le_refl _, by show hops.length ≤ _; omega⟩
            · rw [g] at h; cases h
            · rw [g] at h; cases h
            · rw [g] at h; cases h
            · rw [g] at h
              have := ih (by simp; omega) h
              simp only [List.length_append, List.length_singleton] at this
              omega
        have k := key (by rw [hlen]; omega) h
        rw [hlen] at k
        exact ⟨by omega, k.2, fun h9 => by omega, fun _ => e⟩
      · have e := walkGo_step (l := l) (most := more) (n := n2) (hops := hops) ed en (by omega) gf
        have ih := walkGo_more (n := n) (n2 := n2) (t := u) (hops := hops ++ [(nearestT t id []).1.addr]) (R := R) (by simp; omega) (by simp; omega) (by simp; omega) h
        rw [e]
        simp only [List.length_append, List.length_singleton] at ih
        exact ⟨by omega, ih.2.1, ih.2.2⟩
end
theorem walk_more {l : List Tb} {frm : Int} {id : Plc} {most more : Nat} (h1 : most ≤ 64) (h2 : more ≤ 64) :
    ((walkT l frm id most).2 ≠ 0 → (walkT l frm id most).1 = Rt.zero ∧ ((walkT l frm id most).2 = 1 → (walkT l frm id more).2 = 1)) ∧
    ((walkT l frm id most).2 = 0 → 0 < (walkT l frm id most).1.hops.length ∧ (walkT l frm id most).1.hops.length ≤ most + 1 ∧
      (more + 1 < (walkT l frm id most).1.hops.length → (walkT l frm id more).2 = 2) ∧ ((walkT l frm id most).1.hops.length ≤ more + 1 → walkT l frm id more = walkT l frm id most)) := by
  by_cases hR : RightL l
  · cases hf : findT l frm with
    | none =>
      rw [walkT_none hf, walkT_none hf]
      exact ⟨fun _ => ⟨rfl, fun _ => rfl⟩, fun h => absurd h (by decide)⟩
    | some t =>
      rw [walkT_go hR h1 hf, walkT_go hR h2 hf]
      obtain ⟨c1, c2⟩ := walkGo_code (l := l) (id := id) (most := most) (n := most + 1) (t := t) (hops := [frm])
      refine ⟨fun h => ⟨c2 h, fun h9 => absurd h9 c1⟩, fun h => ?_⟩
      obtain ⟨⟨R, c⟩, hr⟩ : ∃ r, walkGo l id most (most + 1) t [frm] = r := ⟨_, rfl⟩
      rw [hr] at h ⊢
      have hc : c = 0 := h
      subst hc
      have k := walkGo_more (more := more) (n2 := more + 1) (by simp; omega) (by simp; omega) (by simp) hr
      simp only [List.length_singleton] at k
      exact ⟨k.1, k.2.1, fun h9 => by rw [k.2.2.2 h9], fun h9 => k.2.2.1 h9⟩
  · rw [walkT_wrong hR, walkT_wrong hR]
    exact ⟨fun _ => ⟨rfl, fun _ => rfl⟩, fun h => absurd h (by decide)⟩
/-! Each hop is the nearest one. -/
structure HopOk (l : List Tb) (id : Plc) (R : Rt) (k : Nat) : Prop where
  there : ∃ u, findT l (R.hops.getD k 0) = some u ∧ ((doneT u id).2 = true ↔ k + 1 = R.hops.length) ∧ (k + 1 = R.hops.length → (doneT u id).1 = R.end_) ∧ (k + 1 < R.hops.length → (nearestT u id []).2 = true ∧ (nearestT u id []).1.addr = R.hops.getD (k + 1) 0)
theorem walkGo_hops {l : List Tb} {id : Plc} {most : Nat} : ∀ {n : Nat} {t : Tb} {hops : List Int} {R : Rt}, 0 < hops.length → findT l (hops.getD (hops.length - 1) 0) = some t → walkGo l id most n t hops = (R, 0) →
    hops.length ≤ R.hops.length ∧ R.hops.take hops.length = hops ∧ ∀ k, hops.length - 1 ≤ k → k < R.hops.length → HopOk l id R k
  | 0, t, hops, R, h0, h1, h => by unfold walkGo at h; cases h
  | n + 1, t, hops, R, h0, h1, h => by
    rcases walkGo_cases (l := l) (id := id) (most := most) (n := n) (t := t) (hops := hops) with ⟨g, gd⟩ | ⟨gd, ⟨g, _⟩ | ⟨gn, ⟨g, _⟩ | ⟨gm, ⟨g, _⟩ | ⟨u, gf, g⟩⟩⟩⟩
    · rw [g] at h
      obtain rfl : Rt.mk hops (firstT t) = R := congrArg Prod.fst h
      refine ⟨Nat.le_refl _, List.take_length, fun k hk hk2 => ?_⟩
      have hk2 : k < hops.length := hk2
      obtain rfl : k = hops.length - 1 := by omega
      exact ⟨t, h1, ⟨fun _ => by show hops.length - 1 + 1 = hops.length; omega, fun _ => gd⟩, fun _ => rfl, fun h9 => by have : hops.length - 1 + 1 < hops.length := h9; omega⟩
    · rw [g] at h; cases h
    · rw [g] at h; cases h
    · rw [g] at h; cases h
    · rw [g] at h
      have ih := walkGo_hops (n := n) (t := u) (hops := hops ++ [(nearestT t id []).1.addr]) (R := R) (by simp) (by simpa [List.getD_eq_getElem?_getD] using gf) h
      simp only [List.length_append, List.length_singleton, Nat.add_sub_cancel] at ih
      obtain ⟨i1, i2, i3⟩ := ih
      have hpre : R.hops.take hops.length = hops := by
        have := congrArg (List.take hops.length) i2
        rw [List.take_take, Nat.min_eq_left (by omega), List.take_left] at this
        exact this
      refine ⟨by omega, hpre, fun k hk hk2 => ?_⟩
      rcases Nat.lt_or_ge k hops.length with h9 | h9
      · obtain rfl : k = hops.length - 1 := by omega
        have e1 : R.hops.getD (hops.length - 1) 0 = hops.getD (hops.length - 1) 0 := by
          conv => rhs; rw [← hpre]
          rw [List.getD_eq_getElem?_getD, List.getD_eq_getElem?_getD, List.getElem?_take_of_lt (by rw [hpre]; omega), hpre]
        have e2 : R.hops.getD (hops.length - 1 + 1) 0 = (nearestT t id []).1.addr := by
          rw [show hops.length - 1 + 1 = hops.length by omega]
          have this : (R.hops.take (hops.length + 1))[hops.length]? = (hops ++ [(nearestT t id []).1.addr])[hops.length]? := by rw [i2]
          rw [List.getElem?_take_of_lt (by omega), List.getElem?_append_right (Nat.le_refl _), Nat.sub_self] at this
          rw [List.getD_eq_getElem?_getD, this]; rfl
        exact ⟨t, by rw [e1]; exact h1, ⟨fun h8 => (by rw [gd] at h8; cases h8), fun h8 => by omega⟩, fun h8 => by omega, fun _ => ⟨gn, e2.symm⟩⟩
      · exact i3 k h9 hk2
theorem walk_hops {l : List Tb} {frm : Int} {id : Plc} {most : Int} (h : (walkT l frm id most).2 = 0) : RightL l ∧ 0 < (walkT l frm id most).1.hops.length ∧ (walkT l frm id most).1.hops.getD 0 0 = frm ∧ ∀ k, k < (walkT l frm id most).1.hops.length → HopOk l id (walkT l frm id most).1 k := by
  by_cases hR : RightL l
  · by_cases hm : most < 0 ∨ 64 < most
    · rw [walkT_far hm] at h; cases h
    · obtain ⟨mn, rfl⟩ : ∃ n : Nat, most = n := ⟨most.toNat, by omega⟩
      cases hf : findT l frm with
      | none => rw [walkT_none hf] at h; cases h
      | some t =>
        rw [walkT_go hR (by omega) hf] at h ⊢
        obtain ⟨⟨R, c⟩, hr⟩ : ∃ r, walkGo l id mn (mn + 1) t [frm] = r := ⟨_, rfl⟩
        rw [hr] at h ⊢
        have hc : c = 0 := h
        subst hc
        have k := walkGo_hops (by simp) (by simpa using hf) hr
        simp only [List.length_singleton] at k
        refine ⟨hR, k.1, ?_, fun j hj => k.2.2 j (by omega) hj⟩
        have := congrArg (fun l => l.getD 0 0) k.2.1
        simp only [List.getD_eq_getElem?_getD] at this ⊢
        rw [List.getElem?_take_of_lt (by omega)] at this
        simpa using this
  · rw [walkT_wrong hR] at h; cases h
theorem walk_zero {l : List Tb} {frm : Int} {id : Plc} {most : Int} (h : (walkT l frm id most).2 ≠ 0) : (walkT l frm id most).1 = Rt.zero := by
  unfold walkT at h ⊢
  split
  · split
    · rfl
    · rename_i h1 _ t h2
      rw [if_pos h1, h2] at h
      exact walkGo_code.2 h
  · rfl
theorem settled_at {l : List PeerV} {r : Int} {ts : List TableV} (h : ts.map TableV.tb = (settledT l r).1) {k : Nat} (hk : k < ts.length) : ∃ hk2 : k < l.length, IsTb ts[k].tb ∧ ts[k].tb.self = l[k] := by
  by_cases hc : IsCircle l ∧ 1 ≤ r ∧ r ≤ 8
  · obtain ⟨h1, h2, h3⟩ := hc
    obtain ⟨rn, rfl⟩ : ∃ n : Nat, r = n := ⟨r.toNat, by omega⟩
    rw [settledT_yes h1 (by omega) (by omega)] at h
    have h : ts.map TableV.tb = setL l rn := h
    have hl := congrArg List.length h
    rw [List.length_map, setL_len] at hl
    have hk2 : k < l.length := by omega
    have e : ts[k].tb = setT l rn k l[k] := by
      have h9 := congrArg (fun x => x[k]?) h
      simp only [List.getElem?_map, List.getElem?_eq_getElem hk, Option.map_some] at h9
      rw [List.getElem?_eq_getElem (by rw [setL_len]; exact hk2), setL_at hk2] at h9
      exact Option.some.inj h9
    exact ⟨hk2, by rw [e]; exact setT_right h1 hk2 (by omega), by rw [e]; rfl⟩
  · rw [settledT_no hc] at h
    have := congrArg List.length h
    simp only [List.length_map, List.length_nil] at this
    omega
end Go.Esp
/-
  Walks: the first law.
-/
set_option linter.unusedSimpArgs false
set_option linter.unusedVariables false
set_option linter.unnecessarySimpa false
set_option maxRecDepth 8000
set_option maxHeartbeats 1000000
namespace Go.Proofs.Ytbjklbmmchiahaa
open Go.Esp
theorem F.ok47 : okFn Try.prog 47 = true := by kernel_rfl
theorem F.ok49 : okFn Try.prog 49 = true := by kernel_rfl
theorem F.ok50 : okFn Try.prog 50 = true := by kernel_rfl
theorem F.ok51 : okFn Try.prog 51 = true := by kernel_rfl

theorem lawDoes_ok (M : Mem) (l : (Sl TableV)) (frm : Int) (id : Plc) (most : Int) (hl0 : SlK M TableV.segs 44 l) (hl1 : ∀ y ∈ (l).l, TableV.ok M y) : Esp.Fn Try.prog 9 [Sl.val l, .int .i64 frm, aggV [idSeg id], .int .i64 most] M (fun _ v => v = .bool true) := by
  obtain ⟨l_a, l_c, l_l⟩ := l
  have k_l : SlK M TableV.segs 44 ⟨l_a, l_c, l_l⟩ := hl0
  have s_l : SlM M l_a (l_l.map TableV.segs) 44 := k_l.h1
  have n_l : (l_l.map TableV.segs).length = l_l.length := List.length_map ..
  have m_l : l_l.length ≤ 9223372036854775807 := k_l.h2
  have c_l : l_l.length ≤ l_c := k_l.h3
  refine fn_enter Try.func9 rfl Try.ntmps9 rfl ?_; intro H
  refine C_seq ?_
  refine C_region (l := [0, 1]) rfl ?_
  refine Y_box ?_; intro b1
  refine Y_assign ?_
  refine XD_end ?_
  refine K_then ?_
  refine Y_pk [8, 6, 0, 1, 3] ?_
  iterate 2 refine C_seq ?_
  refine C_region (l := [0, 1]) rfl ?_
  refine Y_move ?_
  refine X_fs rfl rfl F.ok47 rfl (BigL_ok _ ⟨l_a, l_c, l_l⟩ k_l hl1) rfl ?_
  rintro _ rfl
  refine XD_end ?_
  refine K_then ?_
  refine Y_pk [14, 8, 6, 0, 1, 3] ?_
  refine C_cond rfl (fun hc2 => ?_) (fun hc2 => ?_)
  ·replace hc2 := dT hc2
   simp only [PeerV.eta, TableV.eta, RouteV.eta] at hc2
   refine C_seq ?_
   refine C_region (l := [0]) rfl ?_
   refine Y_assign ?_
   refine XD_end ?_
   refine K_then ?_
   refine Y_pk [8, 6, 0, 1, 3] ?_
   refine C_ret ?_
   refine K_ret ?_
   refine K_end (.inr rfl) (.tmp rfl .nil) (fun w hw => ?_)
   refine ⟨_, _, rfl, (by exact Mem.le.refl _), hw.c, ?_⟩
   clear hw
   rfl
  ·replace hc2 := dF hc2
   simp only [PeerV.eta, TableV.eta, RouteV.eta] at hc2
   refine C_skip ?_
   refine K_then ?_
   refine Y_pk [8, 6, 0, 1, 3] ?_
   refine C_seq ?_
   refine C_region (l := [0, 1, 2, 3, 4, 5, 6, 7, 8, 9, 10]) rfl ?_
   iterate 2 refine Y_move ?_
   refine Y_load F.lay23 ?_
   refine Y_move ?_
   refine X_fn rfl rfl F.ok48 rfl (Walk_ok _ ⟨l_a, l_c, l_l⟩ frm id most (k_l.mono (by exact Mem.le.refl _)) (fun y hy => (hl1 y hy).mono (by exact Mem.le.refl _))) rfl ?_
   rintro _ M2 hm2 h2
   obtain ⟨_, rfl, ⟨⟨r2a, r2c, r2l⟩, ⟨x2a, x2i⟩⟩, rfl, e2, ok2⟩ := h2
   refine Y_move ?_
   iterate 2 refine Y_extract ?_
   refine Y_alloc F.zero63 ?_; intro b3
   refine Y_store F.lay63 ?_
   refine Y_assign ?_
   refine XD_end ?_
   refine K_then ?_
   refine Y_pk [10, 9, 8, 6, 0, 1, 3] ?_
   refine C_seq ?_
   refine C_region (l := [0, 1, 2, 3, 4, 5, 6, 7, 8, 9, 10]) rfl ?_
   iterate 2 refine Y_move ?_
   refine Y_load F.lay23 ?_
   refine Y_move ?_
   refine X_fn rfl rfl F.ok49 rfl (rWalk_ok _ ⟨l_a, l_c, l_l⟩ frm id most (k_l.mono (by assumption)) (fun y hy => (hl1 y hy).mono (by assumption))) rfl ?_
   rintro _ M3 hm3 h3
   obtain ⟨_, rfl, ⟨⟨r3a, r3c, r3l⟩, ⟨x3a, x3i⟩⟩, rfl, e3, ok3⟩ := h3
   have e23 := e2.trans e3.symm
   simp only [Rt.mk.injEq] at e23
   refine Y_move ?_
   iterate 2 refine Y_extract ?_
   refine Y_alloc F.zero63 ?_; intro b4
   refine Y_store F.lay63 ?_
   refine Y_assign ?_
   refine XD_end ?_
   refine K_then ?_
   refine Y_pk [12, 11, 10, 9, 8] ?_
   refine C_seq ?_
   refine C_region (l := [0, 1, 2, 3, 4, 5, 6, 7, 8, 9, 10, 11]) rfl ?_
   refine X_fn rfl rfl F.ok50 rfl (walked_ok _) rfl ?_
   rintro _ M9 hm9 rfl
   refine Y_move ?_
   refine XD_part 32 rfl (fun hc5 => ?_) (fun hc5 => ?_)
   ·skip
    simp only [PeerV.eta, TableV.eta, RouteV.eta] at hc5
    iterate 2 refine Y_load F.lay63 ?_
    refine X_fs rfl rfl F.ok51 rfl (SameR_ok _ (RouteV.mk ⟨r2a, r2c, r2l⟩ ⟨x2a, x2i⟩) (RouteV.mk ⟨r3a, r3c, r3l⟩ ⟨x3a, x3i⟩) (ok2.mono (by (repeat first | assumption | refine Mem.le.trans (by assumption) ?_))) (ok3.mono (by assumption))) rfl ?_
    rintro _ hv
    rw [decide_eq_true e23] at hv
    subst hv
    refine Y_pick ?_
    refine Y_move ?_
    refine XD_part 37 rfl (fun hc6 => ?_) (fun hc6 => ?_)
    ·skip
     simp only [PeerV.eta, TableV.eta, RouteV.eta] at hc6
     iterate 2 refine Y_move ?_
     refine Y_cmp ?_
     refine Y_pick ?_
     refine Y_assign ?_
     refine XD_end ?_
     refine K_then ?_
     refine Y_pk [8] ?_
     refine C_ret ?_
     refine K_end (.inr rfl) (.tmp rfl .nil) (fun w hw => ?_)
     refine ⟨_, _, rfl, (by (repeat first | assumption | refine Mem.le.trans (by assumption) ?_)), hw.c, ?_⟩
     clear hw
     exact congrArg Value.bool (decide_eq_true (by omega))
    ·skip
     (exfalso; simp [eqX] at hc6; done)
   ·skip
    (exfalso; simp [eqX] at hc5; done)

end Go.Proofs.Ytbjklbmmchiahaa
/-
  Walks: the second law.
-/
set_option linter.unusedSimpArgs false
set_option linter.unusedVariables false
set_option linter.unnecessarySimpa false
set_option maxRecDepth 8000
set_option maxHeartbeats 1000000
namespace Go.Proofs.Ytbjklbmmchiahaa
open Go.Esp


theorem lawMore_ok (M : Mem) (l : (Sl TableV)) (frm : Int) (id : Plc) (most : Int) (more : Int) (hl0 : SlK M TableV.segs 44 l) (hl1 : ∀ y ∈ (l).l, TableV.ok M y) : Esp.Fn Try.prog 11 [Sl.val l, .int .i64 frm, aggV [idSeg id], .int .i64 most, .int .i64 more] M (fun _ v => v = .bool true) := by
  obtain ⟨l_a, l_c, l_l⟩ := l
  have k_l : SlK M TableV.segs 44 ⟨l_a, l_c, l_l⟩ := hl0
  have s_l : SlM M l_a (l_l.map TableV.segs) 44 := k_l.h1
  have n_l : (l_l.map TableV.segs).length = l_l.length := List.length_map ..
  have m_l : l_l.length ≤ 9223372036854775807 := k_l.h2
  have c_l : l_l.length ≤ l_c := k_l.h3
  refine fn_enter Try.func11 rfl Try.ntmps11 rfl ?_; intro H
  refine C_seq ?_
  refine C_region (l := [0, 1]) rfl ?_
  refine Y_box ?_; intro b1
  refine Y_assign ?_
  refine XD_end ?_
  refine K_then ?_
  refine Y_pk [10, 7, 0, 1, 3, 4] ?_
  iterate 2 refine C_seq ?_
  refine C_region (l := [0, 1, 2, 3, 4, 5, 6, 7, 8, 9, 10, 11, 12, 13, 14, 15, 16, 17]) rfl ?_
  refine Y_move ?_
  refine X_fs rfl rfl F.ok47 rfl (BigL_ok _ ⟨l_a, l_c, l_l⟩ k_l hl1) rfl ?_
  rintro _ rfl
  refine Y_move ?_
  refine XD_part 17 rfl (fun hc2 => ?_) (fun hc2 => ?_)
  ·replace hc2 := dT hc2
   simp only [PeerV.eta, TableV.eta, RouteV.eta] at hc2
   iterate 2 refine Y_skip ?_
   refine Y_pick ?_
   refine Y_move ?_
   iterate 2 refine Y_skip ?_
   refine Y_pick ?_
   refine Y_move ?_
   iterate 2 refine Y_skip ?_
   refine Y_pick ?_
   refine Y_move ?_
   iterate 2 refine Y_skip ?_
   refine Y_pick ?_
   refine XD_end ?_
   refine K_then ?_
   refine Y_pk [32, 10, 7, 0, 1, 3, 4] ?_
   refine C_true rfl ?_
   refine C_seq ?_
   refine C_region (l := [0, 1]) rfl ?_
   refine X_fn rfl rfl F.ok50 rfl (walked_ok _) rfl ?_
   rintro _ M9 hm9 rfl
   refine Y_assign ?_
   refine XD_end ?_
   refine K_then ?_
   refine Y_pk [10, 7, 0, 1, 3, 4] ?_
   refine C_ret ?_
   refine K_ret ?_
   refine K_end (.inr rfl) (.tmp rfl .nil) (fun w hw => ?_)
   refine ⟨_, _, rfl, (by assumption), hw.c, ?_⟩
   clear hw
   rfl
  ·replace hc2 := dF hc2
   simp only [PeerV.eta, TableV.eta, RouteV.eta] at hc2
   refine Y_move ?_
   refine Y_cmp ?_
   refine Y_pick ?_
   refine Y_move ?_
   refine XD_part 21 rfl (fun hc3 => ?_) (fun hc3 => ?_)
   ·replace hc3 := dT hc3
    iterate 2 refine Y_skip ?_
    refine Y_pick ?_
    refine Y_move ?_
    iterate 2 refine Y_skip ?_
    refine Y_pick ?_
    refine Y_move ?_
    iterate 2 refine Y_skip ?_
    refine Y_pick ?_
    refine XD_end ?_
    refine K_then ?_
    refine Y_pk [32, 10, 7, 0, 1, 3, 4] ?_
    refine C_true rfl ?_
    refine C_seq ?_
    refine C_region (l := [0, 1]) rfl ?_
    refine X_fn rfl rfl F.ok50 rfl (walked_ok _) rfl ?_
    rintro _ M9 hm9 rfl
    refine Y_assign ?_
    refine XD_end ?_
    refine K_then ?_
    refine Y_pk [10, 7, 0, 1, 3, 4] ?_
    refine C_ret ?_
    refine K_ret ?_
    refine K_end (.inr rfl) (.tmp rfl .nil) (fun w hw => ?_)
    refine ⟨_, _, rfl, (by assumption), hw.c, ?_⟩
    clear hw
    rfl
   ·replace hc3 := dF hc3
    refine Y_move ?_
    refine Y_cmp ?_
    refine Y_pick ?_
    refine Y_move ?_
    refine XD_part 25 rfl (fun hc4 => ?_) (fun hc4 => ?_)
    ·replace hc4 := dT hc4
     iterate 2 refine Y_skip ?_
     refine Y_pick ?_
     refine Y_move ?_
     iterate 2 refine Y_skip ?_
     refine Y_pick ?_
     refine XD_end ?_
     refine K_then ?_
     refine Y_pk [32, 10, 7, 0, 1, 3, 4] ?_
     refine C_true rfl ?_
     refine C_seq ?_
     refine C_region (l := [0, 1]) rfl ?_
     refine X_fn rfl rfl F.ok50 rfl (walked_ok _) rfl ?_
     rintro _ M9 hm9 rfl
     refine Y_assign ?_
     refine XD_end ?_
     refine K_then ?_
     refine Y_pk [10, 7, 0, 1, 3, 4] ?_
     refine C_ret ?_
     refine K_ret ?_
     refine K_end (.inr rfl) (.tmp rfl .nil) (fun w hw => ?_)
     refine ⟨_, _, rfl, (by assumption), hw.c, ?_⟩
     clear hw
     rfl
    ·replace hc4 := dF hc4
     refine Y_move ?_
     refine Y_cmp ?_
     refine Y_pick ?_
     refine Y_move ?_
     refine XD_part 29 rfl (fun hc5 => ?_) (fun hc5 => ?_)
     ·replace hc5 := dT hc5
      iterate 2 refine Y_skip ?_
      refine Y_pick ?_
      refine XD_end ?_
      refine K_then ?_
      refine Y_pk [32, 10, 7, 0, 1, 3, 4] ?_
      refine C_true rfl ?_
      refine C_seq ?_
      refine C_region (l := [0, 1]) rfl ?_
      refine X_fn rfl rfl F.ok50 rfl (walked_ok _) rfl ?_
      rintro _ M9 hm9 rfl
      refine Y_assign ?_
      refine XD_end ?_
      refine K_then ?_
      refine Y_pk [10, 7, 0, 1, 3, 4] ?_
      refine C_ret ?_
      refine K_ret ?_
      refine K_end (.inr rfl) (.tmp rfl .nil) (fun w hw => ?_)
      refine ⟨_, _, rfl, (by assumption), hw.c, ?_⟩
      clear hw
      rfl
     ·replace hc5 := dF hc5
      refine Y_move ?_
      refine Y_cmp ?_
      refine Y_pick ?_
      refine XD_end ?_
      refine K_then ?_
      refine Y_pk [32, 10, 7, 0, 1, 3, 4] ?_
      refine C_cond rfl (fun hc6 => ?_) (fun hc6 => ?_)
      ·replace hc6 := dT hc6
       refine C_seq ?_
       refine C_region (l := [0, 1]) rfl ?_
       refine X_fn rfl rfl F.ok50 rfl (walked_ok _) rfl ?_
       rintro _ M9 hm9 rfl
       refine Y_assign ?_
       refine XD_end ?_
       refine K_then ?_
       refine Y_pk [10, 7, 0, 1, 3, 4] ?_
       refine C_ret ?_
       refine K_ret ?_
       refine K_end (.inr rfl) (.tmp rfl .nil) (fun w hw => ?_)
       refine ⟨_, _, rfl, (by assumption), hw.c, ?_⟩
       clear hw
       rfl
      ·replace hc6 := dF hc6
       refine C_skip ?_
       refine K_then ?_
       refine Y_pk [10, 7, 0, 1, 3, 4] ?_
       refine C_seq ?_
       refine C_region (l := [0, 1, 2, 3, 4, 5, 6, 7, 8, 9, 10]) rfl ?_
       iterate 2 refine Y_move ?_
       refine Y_load F.lay23 ?_
       refine Y_move ?_
       refine X_fn rfl rfl F.ok48 rfl (Walk_ok _ ⟨l_a, l_c, l_l⟩ frm id most (k_l.mono (by exact Mem.le.refl _)) (fun y hy => (hl1 y hy).mono (by exact Mem.le.refl _))) rfl ?_
       rintro _ M2 hm2 h2
       obtain ⟨_, rfl, ⟨⟨r2a, r2c, r2l⟩, ⟨x2a, x2i⟩⟩, rfl, e2, ok2⟩ := h2
       refine Y_move ?_
       iterate 2 refine Y_extract ?_
       refine Y_alloc F.zero63 ?_; intro b7
       refine Y_store F.lay63 ?_
       refine Y_assign ?_
       refine XD_end ?_
       refine K_then ?_
       refine Y_pk [12, 11, 10, 7, 0, 1, 3, 4] ?_
       refine C_seq ?_
       refine C_region (l := [0, 1, 2, 3, 4, 5, 6, 7, 8, 9, 10]) rfl ?_
       iterate 2 refine Y_move ?_
       refine Y_load F.lay23 ?_
       refine Y_move ?_
       refine X_fn rfl rfl F.ok48 rfl (Walk_ok _ ⟨l_a, l_c, l_l⟩ frm id more (k_l.mono (by assumption)) (fun y hy => (hl1 y hy).mono (by assumption))) rfl ?_
       rintro _ M3 hm3 h3
       obtain ⟨_, rfl, ⟨⟨r3a, r3c, r3l⟩, ⟨x3a, x3i⟩⟩, rfl, e3, ok3⟩ := h3
       refine Y_move ?_
       iterate 2 refine Y_extract ?_
       refine Y_alloc F.zero63 ?_; intro b8
       refine Y_store F.lay63 ?_
       refine Y_assign ?_
       refine XD_end ?_
       refine K_then ?_
       refine Y_pk [14, 13, 12, 11, 10, 3, 4] ?_
       iterate 2 refine C_seq ?_
       obtain ⟨mn, rfl⟩ : ∃ n : Nat, most = n := ⟨most.toNat, by omega⟩
       obtain ⟨kn, rfl⟩ : ∃ n : Nat, more = n := ⟨more.toNat, by omega⟩
       obtain ⟨hA, hB⟩ := walk_more (l := (l_l.map TableV.tb)) (frm := frm) (id := id) (most := mn) (more := kn) (by omega) (by omega)
       obtain ⟨⟨R2, c2⟩, hr2⟩ : ∃ r, walkT (l_l.map TableV.tb) frm id (mn : Int) = r := ⟨_, rfl⟩
       obtain ⟨⟨R3, c3⟩, hr3⟩ : ∃ r, walkT (l_l.map TableV.tb) frm id (kn : Int) = r := ⟨_, rfl⟩
       simp only [hr2, hr3] at hA hB e2 e3 ⊢
       subst e2
       subst e3
       simp only at hA hB
       refine C_region (l := [0, 1]) rfl ?_
       refine Y_move ?_
       refine Y_cmp ?_
       refine XD_end ?_
       refine K_then ?_
       refine Y_pk [51, 14, 13, 12, 11, 10, 3, 4] ?_
       refine C_cond rfl (fun hc9 => ?_) (fun hc9 => ?_)
       ·replace hc9 := nT hc9
        refine C_seq ?_
        obtain ⟨hz, hz1⟩ := hA (by assumption)
        simp only [Rt.zero, Rt.mk.injEq] at hz
        obtain ⟨rfl, _⟩ := hz
        refine C_region (l := [0, 1, 2, 3, 4, 5, 6, 7, 8, 9, 10, 11, 12, 13, 14, 15, 16]) rfl ?_
        refine X_fn rfl rfl F.ok50 rfl (walked_ok _) rfl ?_
        rintro _ M9 hm9 rfl
        refine Y_move ?_
        refine XD_part 53 rfl (fun hc10 => ?_) (fun hc10 => ?_)
        ·skip
         simp only [PeerV.eta, TableV.eta, RouteV.eta] at hc10
         refine Y_fieldAddr F.foff63_0 ?_
         refine Y_load F.lay41 ?_
         refine Y_len_sl F.elem41 ?_
         refine Y_cmp ?_
         refine Y_pick ?_
         refine Y_move ?_
         refine XD_part 59 rfl (fun hc11 => ?_) (fun hc11 => ?_)
         ·replace hc11 := dT hc11
          refine Y_move ?_
          refine Y_cmp ?_
          refine Y_move ?_
          refine XD_part 62 rfl (fun hc12 => ?_) (fun hc12 => ?_)
          ·replace hc12 := nT hc12
           iterate 3 refine Y_skip ?_
           iterate 2 refine Y_pick ?_
           refine Y_assign ?_
           refine XD_end ?_
           refine K_then ?_
           refine Y_pk [10, 14, 13, 11, 3, 4] ?_
           refine C_ret ?_
           refine K_ret ?_
           refine K_end (.inr rfl) (.tmp rfl .nil) (fun w hw => ?_)
           refine ⟨_, _, rfl, (by (repeat first | assumption | refine Mem.le.trans (by assumption) ?_)), hw.c, ?_⟩
           clear hw
           rfl
          ·replace hc12 := nF hc12
           iterate 2 refine Y_move ?_
           refine Y_cmp ?_
           iterate 2 refine Y_pick ?_
           refine Y_assign ?_
           refine XD_end ?_
           refine K_then ?_
           refine Y_pk [10, 14, 13, 11, 3, 4] ?_
           refine C_ret ?_
           refine K_ret ?_
           refine K_end (.inr rfl) (.tmp rfl .nil) (fun w hw => ?_)
           refine ⟨_, _, rfl, (by (repeat first | assumption | refine Mem.le.trans (by assumption) ?_)), hw.c, ?_⟩
           clear hw
           exact congrArg Value.bool (decide_eq_true (by omega))
         ·replace hc11 := dF hc11
          (exfalso; simp [eqX] at hc11; done)
        ·skip
         (exfalso; simp [eqX] at hc10; done)
       ·replace hc9 := nF hc9
        refine C_skip ?_
        refine K_then ?_
        refine Y_pk [14, 13, 11, 10, 3, 4] ?_
        iterate 2 refine C_seq ?_
        obtain ⟨g1, g2, g3, g4⟩ := hB (by assumption)
        refine C_cutX (α := Unit) (fun _ => [(79, .bool false)]) (fun _ => True) (.cons (k := 14) rfl (.cons (k := 13) rfl (.cons (k := 11) rfl (.cons (k := 10) rfl (.cons (k := 4) rfl .nil))))) ?_ ?_
        ·skip
         refine C_region (l := [0, 1, 2, 3, 4, 5, 6, 7, 8, 9, 10, 11]) rfl ?_
         refine Y_fieldAddr F.foff63_0 ?_
         refine Y_load F.lay41 ?_
         refine Y_len_sl F.elem41 ?_
         refine Y_cmp ?_
         refine Y_move ?_
         refine XD_part 72 rfl (fun hc13 => ?_) (fun hc13 => ?_)
         ·replace hc13 := dT hc13
          (exfalso; omega)
         ·replace hc13 := dF hc13
          refine Y_fieldAddr F.foff63_0 ?_
          refine Y_load F.lay41 ?_
          refine Y_len_sl F.elem41 ?_
          refine Y_move ?_
          refine X_ari rfl rfl rfl rfl rfl (by exact wrap_in (by decide) (by omega)) rfl ?_
          refine Y_cmp ?_
          refine Y_pick ?_
          refine XD_end ?_
          refine K_bool 79 rfl (fun hc14 => ?_) (fun hc14 => ?_)
          ·replace hc14 := dT hc14
           (exfalso; omega)
          ·replace hc14 := dF hc14
           exact K_cutX (()) (trivial) (.cons (k := 79) rfl (.cons (k := 14) rfl (.cons (k := 13) rfl (.cons (k := 11) rfl (.cons (k := 10) rfl (.cons (k := 4) rfl .nil)))))) (fun w hw => by first | exact hw | exact hw.c)
        ·rintro _ -
         refine C_false rfl ?_
         refine C_skip ?_
         refine K_then ?_
         refine Y_pk [14, 13, 11, 10, 4] ?_
         iterate 2 refine C_seq ?_
         refine C_region (l := [0, 1, 2, 3, 4, 5]) rfl ?_
         refine Y_move ?_
         refine X_ari rfl rfl rfl rfl rfl (by exact wrap_in (by decide) (by omega)) rfl ?_
         refine Y_fieldAddr F.foff63_0 ?_
         refine Y_load F.lay41 ?_
         refine Y_len_sl F.elem41 ?_
         refine Y_cmp ?_
         refine XD_end ?_
         refine K_then ?_
         refine Y_pk [85, 14, 13, 11, 10] ?_
         refine C_cond rfl (fun hc15 => ?_) (fun hc15 => ?_)
         ·replace hc15 := dT hc15
          refine C_seq ?_
          have g5 := g3 (by omega)
          refine C_region (l := [0, 1, 2, 3, 4, 5]) rfl ?_
          refine X_fn rfl rfl F.ok50 rfl (walked_ok _) rfl ?_
          rintro _ M9 hm9 rfl
          refine Y_move ?_
          refine XD_part 87 rfl (fun hc16 => ?_) (fun hc16 => ?_)
          ·skip
           simp only [PeerV.eta, TableV.eta, RouteV.eta] at hc16
           refine Y_move ?_
           refine Y_cmp ?_
           refine Y_pick ?_
           refine Y_assign ?_
           refine XD_end ?_
           refine K_then ?_
           refine Y_pk [10, 14, 13, 11] ?_
           refine C_ret ?_
           refine K_ret ?_
           refine K_end (.inr rfl) (.tmp rfl .nil) (fun w hw => ?_)
           refine ⟨_, _, rfl, (by (repeat first | assumption | refine Mem.le.trans (by assumption) ?_)), hw.c, ?_⟩
           clear hw
           exact congrArg Value.bool (decide_eq_true (by omega))
          ·skip
           (exfalso; simp [eqX] at hc16; done)
         ·replace hc15 := dF hc15
          refine C_skip ?_
          refine K_then ?_
          refine Y_pk [14, 13, 11, 10] ?_
          refine C_seq ?_
          have g5 := g4 (by omega)
          have g6 : c3 = c2 := congrArg Prod.snd g5
          have e23 := (congrArg Prod.fst g5).symm
          simp only [Rt.mk.injEq] at e23
          refine C_region (l := [0, 1, 2, 3, 4, 5, 6, 7, 8, 9, 10]) rfl ?_
          refine X_fn rfl rfl F.ok50 rfl (walked_ok _) rfl ?_
          rintro _ M9 hm9 rfl
          refine Y_move ?_
          refine XD_part 92 rfl (fun hc17 => ?_) (fun hc17 => ?_)
          ·skip
           simp only [PeerV.eta, TableV.eta, RouteV.eta] at hc17
           refine Y_move ?_
           refine Y_cmp ?_
           refine Y_pick ?_
           refine Y_move ?_
           refine XD_part 96 rfl (fun hc18 => ?_) (fun hc18 => ?_)
           ·replace hc18 := dT hc18
            iterate 2 refine Y_load F.lay63 ?_
            refine X_fs rfl rfl F.ok51 rfl (SameR_ok _ (RouteV.mk ⟨r2a, r2c, r2l⟩ ⟨x2a, x2i⟩) (RouteV.mk ⟨r3a, r3c, r3l⟩ ⟨x3a, x3i⟩) (ok2.mono (by (repeat first | assumption | refine Mem.le.trans (by assumption) ?_))) (ok3.mono (by assumption))) rfl ?_
            rintro _ hv
            rw [decide_eq_true e23] at hv
            subst hv
            refine Y_pick ?_
            refine Y_assign ?_
            refine XD_end ?_
            refine K_then ?_
            refine Y_pk [10] ?_
            refine C_ret ?_
            refine K_end (.inr rfl) (.tmp rfl .nil) (fun w hw => ?_)
            refine ⟨_, _, rfl, (by (repeat first | assumption | refine Mem.le.trans (by assumption) ?_)), hw.c, ?_⟩
            clear hw
            rfl
           ·replace hc18 := dF hc18
            (exfalso; omega)
          ·skip
           (exfalso; simp [eqX] at hc17; done)

end Go.Proofs.Ytbjklbmmchiahaa
/-
  Walks: the third law.
-/
set_option linter.unusedSimpArgs false
set_option linter.unusedVariables false
set_option linter.unnecessarySimpa false
set_option maxRecDepth 8000
set_option maxHeartbeats 1000000
namespace Go.Proofs.Ytbjklbmmchiahaa
open Go.Esp


theorem lawNext_ok (M : Mem) (l : (Sl TableV)) (frm : Int) (id : Plc) (most : Int) (hl0 : SlK M TableV.segs 44 l) (hl1 : ∀ y ∈ (l).l, TableV.ok M y) : Esp.Fn Try.prog 12 [Sl.val l, .int .i64 frm, aggV [idSeg id], .int .i64 most] M (fun _ v => v = .bool true) := by
  obtain ⟨l_a, l_c, l_l⟩ := l
  have k_l : SlK M TableV.segs 44 ⟨l_a, l_c, l_l⟩ := hl0
  have s_l : SlM M l_a (l_l.map TableV.segs) 44 := k_l.h1
  have n_l : (l_l.map TableV.segs).length = l_l.length := List.length_map ..
  have m_l : l_l.length ≤ 9223372036854775807 := k_l.h2
  have c_l : l_l.length ≤ l_c := k_l.h3
  refine fn_enter Try.func12 rfl Try.ntmps12 rfl ?_; intro H
  refine C_seq ?_
  refine C_region (l := [0, 1]) rfl ?_
  refine Y_box ?_; intro b1
  refine Y_assign ?_
  refine XD_end ?_
  refine K_then ?_
  refine Y_pk [8, 6, 0, 1, 3] ?_
  iterate 2 refine C_seq ?_
  refine C_region (l := [0, 1]) rfl ?_
  refine Y_move ?_
  refine X_fs rfl rfl F.ok47 rfl (BigL_ok _ ⟨l_a, l_c, l_l⟩ k_l hl1) rfl ?_
  rintro _ rfl
  refine XD_end ?_
  refine K_then ?_
  refine Y_pk [19, 8, 6, 0, 1, 3] ?_
  refine C_cond rfl (fun hc2 => ?_) (fun hc2 => ?_)
  ·replace hc2 := dT hc2
   simp only [PeerV.eta, TableV.eta, RouteV.eta] at hc2
   refine C_seq ?_
   refine C_region (l := [0]) rfl ?_
   refine Y_assign ?_
   refine XD_end ?_
   refine K_then ?_
   refine Y_pk [8, 6, 0, 1, 3] ?_
   refine C_ret ?_
   refine K_ret ?_
   refine K_end (.inr rfl) (.tmp rfl .nil) (fun w hw => ?_)
   refine ⟨_, _, rfl, (by exact Mem.le.refl _), hw.c, ?_⟩
   clear hw
   rfl
  ·replace hc2 := dF hc2
   simp only [PeerV.eta, TableV.eta, RouteV.eta] at hc2
   refine C_skip ?_
   refine K_then ?_
   refine Y_pk [8, 6, 0, 1, 3] ?_
   refine C_seq ?_
   refine C_region (l := [0, 1, 2, 3, 4, 5, 6, 7, 8, 9, 10]) rfl ?_
   iterate 2 refine Y_move ?_
   refine Y_load F.lay23 ?_
   refine Y_move ?_
   refine X_fn rfl rfl F.ok48 rfl (Walk_ok _ ⟨l_a, l_c, l_l⟩ frm id most (k_l.mono (by exact Mem.le.refl _)) (fun y hy => (hl1 y hy).mono (by exact Mem.le.refl _))) rfl ?_
   rintro _ M2 hm2 h2
   obtain ⟨_, rfl, ⟨⟨r2a, r2c, r2l⟩, ⟨x2a, x2i⟩⟩, rfl, e2, ok2⟩ := h2
   refine Y_move ?_
   iterate 2 refine Y_extract ?_
   refine Y_alloc F.zero63 ?_; intro b3
   refine Y_store F.lay63 ?_
   refine Y_assign ?_
   refine XD_end ?_
   refine K_then ?_
   refine Y_pk [10, 9, 8, 6, 0] ?_
   iterate 2 refine C_seq ?_
   obtain ⟨⟨R2, c2⟩, hr2⟩ : ∃ r, walkT (l_l.map TableV.tb) frm id most = r := ⟨_, rfl⟩
   have hz := walk_zero (l := (l_l.map TableV.tb)) (frm := frm) (id := id) (most := most)
   have hh := walk_hops (l := (l_l.map TableV.tb)) (frm := frm) (id := id) (most := most)
   simp only [hr2] at hz hh e2 ⊢
   subst e2
   simp only at hz hh
   refine C_region (l := [0, 1]) rfl ?_
   refine Y_move ?_
   refine Y_cmp ?_
   refine XD_end ?_
   refine K_then ?_
   refine Y_pk [29, 9, 8, 6, 0] ?_
   refine C_cond rfl (fun hc4 => ?_) (fun hc4 => ?_)
   ·replace hc4 := nT hc4
    refine C_seq ?_
    have hz2 := hz (by assumption)
    simp only [Rt.zero, Rt.mk.injEq] at hz2
    obtain ⟨rfl, hz3⟩ := hz2
    refine C_region (l := [0, 1, 2, 3, 4, 5, 6, 7]) rfl ?_
    refine X_fn rfl rfl F.ok50 rfl (walked_ok _) rfl ?_
    rintro _ M9 hm9 rfl
    refine Y_move ?_
    refine XD_part 31 rfl (fun hc5 => ?_) (fun hc5 => ?_)
    ·skip
     simp only [PeerV.eta, TableV.eta, RouteV.eta] at hc5
     refine Y_fieldAddr F.foff63_1 ?_
     refine Y_load F.lay25 ?_
     refine X_build rfl rfl F.bld25 (.nil) rfl rfl ?_
     refine X_same (m := 20) rfl rfl rfl rfl rfl (by constructor) (by constructor) F.lay25 F.kinds25 rfl F.guard25 (by exact FitPeerV (⟨_, _⟩)) (by exact FitPeerV (⟨_, _⟩)) rfl rfl rfl ?_; intro c6 he7
     replace he7 : c6 = true ↔ Segs.cells _ = Segs.cells _ := he7
     obtain rfl := eqD he7 (PeerV.inj (x := ⟨_, _⟩) (y := ⟨_, _⟩)); clear he7
     refine Y_pick ?_
     refine Y_assign ?_
     refine XD_end ?_
     refine K_then ?_
     refine Y_pk [8, 9, 6, 0] ?_
     refine C_ret ?_
     refine K_ret ?_
     refine K_end (.inr rfl) (.tmp rfl .nil) (fun w hw => ?_)
     refine ⟨_, _, rfl, (by (repeat first | assumption | refine Mem.le.trans (by assumption) ?_)), hw.c, ?_⟩
     clear hw
     exact congrArg Value.bool (decide_eq_true (by omega))
    ·skip
     (exfalso; first | omega | (obtain ⟨hx1, hx2⟩ := hd3 (by omega); first | exact absurd (hx2.trans (hga _ (by omega))) (by assumption) | (subst hx1; exact absurd (by assumption) (by decide))) | (simp_all; done))
   ·replace hc4 := nF hc4
    refine C_skip ?_
    refine K_then ?_
    refine Y_pk [9, 8, 6, 0] ?_
    iterate 2 refine C_seq ?_
    obtain ⟨hR, hh1, _, hh2⟩ := hh (by assumption)
    have m_r2 : r2l.length ≤ 9223372036854775807 := ok2.h0.h2
    refine C_region (l := [0]) rfl ?_
    refine Y_assign ?_
    refine XD_end ?_
    refine K_then ?_
    refine C_block ?_
    refine Y_pk [11, 9, 8, 6, 0] ?_
    refine C_loopO (Hin := []) (.succ .zero) (by repeat first | exact Rem.here _ | exact Rem.two | apply Rem.skip | apply Rem.over) (fun (k : Nat) M5 h5 z => h5 = [] ∧ z = [(11, .int .i64 (k : Int))] ∧ k ≤ r2l.length) (fun k => r2l.length - k) (0) (⟨rfl, rfl, by omega⟩) ?_
    rintro k M5 h5 z hm5 ⟨rfl, rfl, hk⟩
    iterate 2 refine C_seq ?_
    refine C_region (l := [0, 1, 2, 3, 4]) rfl ?_
    refine Y_move ?_
    refine Y_fieldAddr F.foff63_0 ?_
    refine Y_load F.lay41 ?_
    refine Y_len_sl F.elem41 ?_
    refine Y_cmp ?_
    refine XD_end ?_
    refine K_then ?_
    refine C_cond rfl (fun hc8 => ?_) (fun hc8 => ?_)
    ·replace hc8 := dT hc8
     refine C_skip ?_
     refine K_then ?_
     refine C_seq ?_
     refine C_block ?_
     refine C_seq ?_
     refine C_region (l := [0]) rfl ?_
     refine Y_assign ?_
     refine XD_end ?_
     refine K_then ?_
     refine C_block ?_
     refine Y_pk [12, 41, 40, 39, 38, 37, 11, 9, 8, 6, 0] ?_
     refine C_loopO (Hin := []) (.succ .zero) (by repeat first | exact Rem.here _ | exact Rem.two | apply Rem.skip | apply Rem.over) (fun (i2 : Nat) M6 h6 z => h6 = [] ∧ z = [(12, .int .i64 (i2 : Int))] ∧ i2 ≤ l_l.length) (fun i2 => l_l.length - i2) (0) (⟨rfl, rfl, by omega⟩) ?_
     rintro i2 M6 h6 z hm6 ⟨rfl, rfl, hi2⟩
     have s_l6 := s_l.mono (hm2.trans (hm5.trans hm6))
     have s_r6 := ok2.h0.h1.mono (hm5.trans hm6)
     simp only at s_r6
     have n_r6 : (r2l.map (oneI .i64)).length = r2l.length := List.length_map ..
     iterate 2 refine C_seq ?_
     refine C_region (l := [0, 1, 2, 3]) rfl ?_
     iterate 2 refine Y_move ?_
     refine Y_len_sl F.elem60 ?_
     refine Y_cmp ?_
     refine XD_end ?_
     refine K_then ?_
     refine C_cond rfl (fun hc9 => ?_) (fun hc9 => ?_)
     ·replace hc9 := dT hc9
      refine C_skip ?_
      refine K_then ?_
      refine C_seq ?_
      refine C_block ?_
      iterate 2 refine C_seq ?_
      refine C_region_any (l := [0, 1, 2, 3, 4, 5, 6, 7, 8, 9, 10, 11]) #[0, 0, 3, 7, 15, 31, 0, 64, 0, 448, 960, 2047] _ rfl (by kernel_rfl) (by kernel_rfl) St.drawn (fun _ h => h) ?_
      iterate 2 refine Y_move ?_
      refine X_indexAddr rfl rfl rfl rfl F.elem60 (by rfl) (by omega) (by exact SlM.plain (by assumption) (by (simp; omega))) rfl ?_
      refine X_fieldAddr_el rfl rfl rfl (by exact SlM.plain (by assumption) (by (simp; omega))) F.foff28_0 rfl ?_
      refine X_fieldAddr_el rfl rfl rfl (by exact SlM.plain (by assumption) (by (simp; omega))) F.foff25_0 rfl ?_
      refine X_load_el rfl rfl rfl (by assumption) (by exact row_map (by omega)) F.lay3 rfl rfl rfl ?_
      refine Y_fieldAddr F.foff63_0 ?_
      refine Y_load F.lay41 ?_
      refine Y_move ?_
      refine X_indexAddr rfl rfl rfl rfl F.elem41 (by rfl) (by omega) (by exact SlM.plain (by assumption) (by (simp; omega))) rfl ?_
      refine X_load_el rfl rfl rfl (by assumption) (by exact row_map (by omega)) F.lay3 rfl rfl rfl ?_
      refine Y_cmp ?_
      refine XD_end ?_
      refine K_then ?_
      refine C_cond rfl (fun hc10 => ?_) (fun hc10 => ?_)
      ·replace hc10 := nT hc10
       refine C_exit ?_
       refine K_exit ?_
       refine K_hit ?_
       refine K_then ?_
       refine C_region (l := [0, 1, 2]) rfl ?_
       refine Y_move ?_
       refine X_ari rfl rfl rfl rfl rfl (by exact wrap_in (by decide) (by omega)) rfl ?_
       refine Y_assign ?_
       refine XD_end ?_
       refine K_roundO (a' := [(12, _)]) (i2 + 1) ([]) (.cons (k := 12) rfl (.cons (k := 41) rfl (.cons (k := 40) rfl (.cons (k := 39) rfl (.cons (k := 38) rfl (.cons (k := 37) rfl (.cons (k := 11) rfl (.cons (k := 9) rfl (.cons (k := 8) rfl (.cons (k := 6) rfl (.cons (k := 0) rfl (.nil)))))))))))) hm6 (fun w hw => by first | exact hw | exact hw.c) ?_ ?_
       ·exact ⟨rfl, rfl, by omega⟩
       ·omega
      ·replace hc10 := nF hc10
       refine C_skip ?_
       refine K_then ?_
       refine C_seq ?_
       obtain ⟨⟨u, hu, hd1, hd2, hd3⟩⟩ := hh2 k (by omega)
       have hga : ∀ j (hj : j < r2l.length), r2l.getD j 0 = r2l[j] := fun j hj => by rw [List.getD_eq_getElem?_getD, List.getElem?_eq_getElem hj]; rfl
       rw [hga k (by omega)] at hu
       have hfi := findT_at hR (i := i2) (by simp; omega)
       simp only [List.getElem_map] at hfi
       have hue : TableV.tb l_l[i2] = u := by
        have h9 : findT (l_l.map TableV.tb) r2l[k] = some (TableV.tb l_l[i2]) := by rw [← hfi]; congr 1; (first | exact Eq.symm (by assumption) | (simp_all; done))
        rw [h9] at hu; exact Option.some.inj hu
       subst hue
       have hm9 : l_l[i2] ∈ l_l := List.getElem_mem (by omega)
       have hTb : IsTb (TableV.tb l_l[i2]) := hR.2.1 _ (List.mem_map_of_mem hm9)
       have hbig := isTb_small hTb
       have hok := hl1 _ hm9
       refine C_region_any (l := [0, 1, 2, 3, 4, 5, 6, 7, 8, 9, 10, 11]) #[0, 0, 3, 7, 0, 31, 63, 127, 127, 0, 767, 2047] _ rfl (by kernel_rfl) (by kernel_rfl) St.drawn (fun _ h => h) ?_
       iterate 2 refine Y_move ?_
       refine X_indexAddr rfl rfl rfl rfl F.elem60 (by rfl) (by omega) (by exact SlM.plain (by assumption) (by (simp; omega))) rfl ?_
       refine X_load_el rfl rfl rfl (by assumption) (by exact row_map (by omega)) F.lay28 rfl rfl rfl ?_
       refine Y_load F.lay23 ?_
       refine X_fs rfl rfl F.ok29 rfl (Done_ok _ l_l[i2] id (hok.mono (by (repeat first | assumption | refine Mem.le.trans (by assumption) ?_)))) rfl ?_
       rintro _ hv
       obtain ⟨⟨⟨da, di⟩, db⟩, hdd⟩ : ∃ r, doneT (TableV.tb l_l[i2]) id = r := ⟨_, rfl⟩
       rw [hdd] at hv
       subst hv
       simp only [hdd] at hd1 hd2
       refine Y_move ?_
       iterate 2 refine Y_extract ?_
       refine Y_alloc F.zero25 ?_; intro b11
       refine Y_store F.lay25 ?_
       refine Y_assign ?_
       refine XD_end ?_
       refine K_then ?_
       refine C_seq ?_
       refine C_region_any (l := [0, 1, 2, 3, 4, 5, 6, 7, 8, 9, 10, 11]) #[0, 0, 3, 7, 0, 31, 63, 127, 127, 0, 767, 2047] _ rfl (by kernel_rfl) (by kernel_rfl) St.drawn (fun _ h => h) ?_
       iterate 2 refine Y_move ?_
       refine X_indexAddr rfl rfl rfl rfl F.elem60 (by rfl) (by omega) (by exact SlM.plain (by assumption) (by (simp; omega))) rfl ?_
       refine X_load_el rfl rfl rfl (by assumption) (by exact row_map (by omega)) F.lay28 rfl rfl rfl ?_
       refine Y_load F.lay23 ?_
       refine X_fn rfl rfl F.ok27 rfl (Nearest_ok _ l_l[i2] id ⟨none, 0, []⟩ (hok.mono (by (repeat first | assumption | refine Mem.le.trans (by assumption) ?_))) SlK.nil hbig) rfl ?_
       rintro _ M3 hm3 hv
       obtain ⟨⟨⟨na, ni⟩, nb⟩, hnn⟩ : ∃ r, nearestT (TableV.tb l_l[i2]) id [] = r := ⟨_, rfl⟩
       rw [hnn] at hv
       subst hv
       simp only [hnn] at hd3
       refine Y_move ?_
       iterate 2 refine Y_extract ?_
       refine Y_alloc F.zero25 ?_; intro b12
       refine Y_store F.lay25 ?_
       refine Y_assign ?_
       refine XD_end ?_
       refine K_then ?_
       refine C_seq ?_
       have hdl : db = decide ((k : Int) = (r2l.length : Int) - 1) := by
        rw [Bool.eq_iff_iff, hd1, decide_eq_true_eq]; omega
       subst hdl
       refine C_region (l := [0, 1, 2, 3, 4, 5, 6]) rfl ?_
       refine Y_move ?_
       refine Y_fieldAddr F.foff63_0 ?_
       refine Y_load F.lay41 ?_
       refine Y_len_sl F.elem41 ?_
       refine X_ari rfl rfl rfl rfl rfl (by exact wrap_in (by decide) (by omega)) rfl ?_
       refine Y_cmp ?_
       refine Y_assign ?_
       refine XD_end ?_
       refine K_then ?_
       refine C_seq ?_
       refine C_cutX (α := Unit) (fun _ => [(116, .bool false)]) (fun _ => True) (.cons (k := 17) rfl (.cons (k := 85) rfl (.cons (k := 84) rfl (.cons (k := 83) rfl (.cons (k := 82) rfl (.cons (k := 81) rfl (.cons (k := 80) rfl (.cons (k := 16) rfl (.cons (k := 15) rfl (.cons (k := 79) rfl (.cons (k := 78) rfl (.cons (k := 71) rfl (.cons (k := 77) rfl (.cons (k := 76) rfl (.cons (k := 75) rfl (.cons (k := 74) rfl (.cons (k := 73) rfl (.cons (k := 72) rfl (.cons (k := 14) rfl (.cons (k := 13) rfl (.cons (k := 70) rfl (.cons (k := 69) rfl (.cons (k := 62) rfl (.cons (k := 68) rfl (.cons (k := 67) rfl (.cons (k := 66) rfl (.cons (k := 65) rfl (.cons (k := 64) rfl (.cons (k := 63) rfl (.cons (k := 61) rfl (.cons (k := 60) rfl (.cons (k := 59) rfl (.cons (k := 58) rfl (.cons (k := 57) rfl (.cons (k := 56) rfl (.cons (k := 55) rfl (.cons (k := 54) rfl (.cons (k := 53) rfl (.cons (k := 52) rfl (.cons (k := 51) rfl (.cons (k := 50) rfl (.cons (k := 47) rfl (.cons (k := 46) rfl (.cons (k := 45) rfl (.cons (k := 44) rfl (.cons (k := 12) rfl (.cons (k := 41) rfl (.cons (k := 40) rfl (.cons (k := 39) rfl (.cons (k := 38) rfl (.cons (k := 37) rfl (.cons (k := 11) rfl (.cons (k := 9) rfl (.cons (k := 8) rfl (.cons (k := 6) rfl (.cons (k := 0) rfl .nil)))))))))))))))))))))))))))))))))))))))))))))))))))))))) ?_ ?_
       ·skip
        refine C_region_any (l := [0, 1, 2, 3, 4, 5, 6, 7, 8, 9, 10, 11, 12, 13, 14, 15, 16, 17, 18, 19, 20, 21, 22, 23, 24, 25, 26, 27, 28, 29, 30]) #[0, 0, 3, 7, 15, 31, 63, 63, 191, 511, 1023, 2047, 4095, 8191, 16383, 32767, 65535, 131071, 262143, 524287, 1048575, 524287, 2621439, 524287, 8912895, 31981567, 65535999, 134217727, 268435455, 536870911, 1073741823] _ rfl (by kernel_rfl) (by kernel_rfl) St.drawn (fun _ h => h) ?_
        iterate 2 refine Y_move ?_
        refine X_eqb rfl rfl rfl rfl rfl Try.underlying4 rfl ?_
        refine Y_move ?_
        refine XD_part 89 rfl (fun hc13 => ?_) (fun hc13 => ?_)
        ·replace hc13 := nT hc13
         simp only [PeerV.eta, TableV.eta, RouteV.eta] at hc13
         (exfalso; first | omega | (obtain ⟨hx1, hx2⟩ := hd3 (by omega); first | exact absurd (hx2.trans (hga _ (by omega))) (by assumption) | (subst hx1; exact absurd (by assumption) (by decide))) | (simp_all; done))
        ·replace hc13 := nF hc13
         simp only [PeerV.eta, TableV.eta, RouteV.eta] at hc13
         iterate 2 refine Y_move ?_
         refine XD_part 91 rfl (fun hc14 => ?_) (fun hc14 => ?_)
         ·replace hc14 := dT hc14
          refine Y_load F.lay25 ?_
          refine Y_fieldAddr F.foff63_1 ?_
          refine Y_load F.lay25 ?_
          refine X_same (m := 20) rfl rfl rfl rfl rfl (by constructor) (by constructor) F.lay25 F.kinds25 rfl F.guard25 (by exact FitPeerV (⟨_, _⟩)) (by exact FitPeerV (⟨_, _⟩)) rfl rfl rfl ?_; intro c15 he16
          replace he16 : c15 = true ↔ ¬ (Segs.cells _ = Segs.cells _) := he16
          obtain rfl := neD he16 (PeerV.inj (x := ⟨_, _⟩) (y := ⟨_, _⟩)); clear he16
          iterate 2 refine Y_pick ?_
          refine Y_move ?_
          refine XD_part 98 rfl (fun hc17 => ?_) (fun hc17 => ?_)
          ·replace hc17 := nT hc17
           (exfalso; first | omega | (obtain ⟨hx1, hx2⟩ := hd3 (by omega); first | exact absurd (hx2.trans (hga _ (by omega))) (by assumption) | (subst hx1; exact absurd (by assumption) (by decide))) | (simp_all; done))
          ·replace hc17 := nF hc17
           refine Y_move ?_
           refine Y_not ?_
           refine Y_move ?_
           refine XD_part 101 rfl (fun hc18 => ?_) (fun hc18 => ?_)
           ·replace hc18 := nT hc18
            (exfalso; first | omega | (obtain ⟨hx1, hx2⟩ := hd3 (by omega); first | exact absurd (hx2.trans (hga _ (by omega))) (by assumption) | (subst hx1; exact absurd (by assumption) (by decide))) | (simp_all; done))
           ·replace hc18 := nF hc18
            iterate 13 refine Y_skip ?_
            iterate 2 refine Y_pick ?_
            refine XD_end ?_
            exact K_cutX (()) (trivial) (.cons (k := 116) rfl (.cons (k := 17) rfl (.cons (k := 85) rfl (.cons (k := 84) rfl (.cons (k := 83) rfl (.cons (k := 82) rfl (.cons (k := 81) rfl (.cons (k := 80) rfl (.cons (k := 16) rfl (.cons (k := 15) rfl (.cons (k := 79) rfl (.cons (k := 78) rfl (.cons (k := 71) rfl (.cons (k := 77) rfl (.cons (k := 76) rfl (.cons (k := 75) rfl (.cons (k := 74) rfl (.cons (k := 73) rfl (.cons (k := 72) rfl (.cons (k := 14) rfl (.cons (k := 13) rfl (.cons (k := 70) rfl (.cons (k := 69) rfl (.cons (k := 62) rfl (.cons (k := 68) rfl (.cons (k := 67) rfl (.cons (k := 66) rfl (.cons (k := 65) rfl (.cons (k := 64) rfl (.cons (k := 63) rfl (.cons (k := 61) rfl (.cons (k := 60) rfl (.cons (k := 59) rfl (.cons (k := 58) rfl (.cons (k := 57) rfl (.cons (k := 56) rfl (.cons (k := 55) rfl (.cons (k := 54) rfl (.cons (k := 53) rfl (.cons (k := 52) rfl (.cons (k := 51) rfl (.cons (k := 50) rfl (.cons (k := 47) rfl (.cons (k := 46) rfl (.cons (k := 45) rfl (.cons (k := 44) rfl (.cons (k := 12) rfl (.cons (k := 41) rfl (.cons (k := 40) rfl (.cons (k := 39) rfl (.cons (k := 38) rfl (.cons (k := 37) rfl (.cons (k := 11) rfl (.cons (k := 9) rfl (.cons (k := 8) rfl (.cons (k := 6) rfl (.cons (k := 0) rfl .nil))))))))))))))))))))))))))))))))))))))))))))))))))))))))) (fun w hw => by first | exact hw | exact hw.c)
         ·replace hc14 := dF hc14
          iterate 4 refine Y_skip ?_
          iterate 2 refine Y_pick ?_
          iterate 2 refine Y_move ?_
          refine Y_not ?_
          refine Y_move ?_
          refine XD_part 101 rfl (fun hc21 => ?_) (fun hc21 => ?_)
          ·replace hc21 := nT hc21
           refine Y_move ?_
           refine Y_not ?_
           refine Y_move ?_
           refine XD_part 104 rfl (fun hc22 => ?_) (fun hc22 => ?_)
           ·skip
            simp only [PeerV.eta, TableV.eta, RouteV.eta] at hc22
            (exfalso; first | omega | (obtain ⟨hx1, hx2⟩ := hd3 (by omega); first | exact absurd (hx2.trans (hga _ (by omega))) (by assumption) | (subst hx1; exact absurd (by assumption) (by decide))) | (simp_all; done))
           ·skip
            simp only [PeerV.eta, TableV.eta, RouteV.eta] at hc22
            refine Y_fieldAddr F.foff25_0 ?_
            refine Y_load F.lay3 ?_
            refine Y_fieldAddr F.foff63_0 ?_
            refine Y_load F.lay41 ?_
            refine Y_move ?_
            refine X_ari rfl rfl rfl rfl rfl (by exact wrap_in (by decide) (by omega)) rfl ?_
            refine X_indexAddr rfl rfl rfl rfl F.elem41 (by rfl) (by (simp; omega)) (by exact SlM.plain (by assumption) (by (simp; omega))) rfl ?_
            refine X_load_el rfl rfl rfl (by exact SlM.mono (by assumption) (by assumption)) (by exact row_map (by (simp; omega))) F.lay3 rfl rfl rfl ?_
            refine Y_cmp ?_
            iterate 3 refine Y_pick ?_
            refine XD_end ?_
            refine K_bool 116 rfl (fun hc23 => ?_) (fun hc23 => ?_)
            ·replace hc23 := nT hc23
             simp only [PeerV.eta, TableV.eta, RouteV.eta] at hc23
             (exfalso; first | omega | (obtain ⟨hx1, hx2⟩ := hd3 (by omega); first | exact absurd (hx2.trans (hga _ (by omega))) (by assumption) | (subst hx1; exact absurd (by assumption) (by decide))) | (simp_all; done))
            ·replace hc23 := nF hc23
             simp only [PeerV.eta, TableV.eta, RouteV.eta] at hc23
             exact K_cutX (()) (trivial) (.cons (k := 116) rfl (.cons (k := 17) rfl (.cons (k := 85) rfl (.cons (k := 84) rfl (.cons (k := 83) rfl (.cons (k := 82) rfl (.cons (k := 81) rfl (.cons (k := 80) rfl (.cons (k := 16) rfl (.cons (k := 15) rfl (.cons (k := 79) rfl (.cons (k := 78) rfl (.cons (k := 71) rfl (.cons (k := 77) rfl (.cons (k := 76) rfl (.cons (k := 75) rfl (.cons (k := 74) rfl (.cons (k := 73) rfl (.cons (k := 72) rfl (.cons (k := 14) rfl (.cons (k := 13) rfl (.cons (k := 70) rfl (.cons (k := 69) rfl (.cons (k := 62) rfl (.cons (k := 68) rfl (.cons (k := 67) rfl (.cons (k := 66) rfl (.cons (k := 65) rfl (.cons (k := 64) rfl (.cons (k := 63) rfl (.cons (k := 61) rfl (.cons (k := 60) rfl (.cons (k := 59) rfl (.cons (k := 58) rfl (.cons (k := 57) rfl (.cons (k := 56) rfl (.cons (k := 55) rfl (.cons (k := 54) rfl (.cons (k := 53) rfl (.cons (k := 52) rfl (.cons (k := 51) rfl (.cons (k := 50) rfl (.cons (k := 47) rfl (.cons (k := 46) rfl (.cons (k := 45) rfl (.cons (k := 44) rfl (.cons (k := 12) rfl (.cons (k := 41) rfl (.cons (k := 40) rfl (.cons (k := 39) rfl (.cons (k := 38) rfl (.cons (k := 37) rfl (.cons (k := 11) rfl (.cons (k := 9) rfl (.cons (k := 8) rfl (.cons (k := 6) rfl (.cons (k := 0) rfl .nil))))))))))))))))))))))))))))))))))))))))))))))))))))))))) (fun w hw => by first | exact hw | exact hw.c)
          ·replace hc21 := nF hc21
           (exfalso; first | omega | (obtain ⟨hx1, hx2⟩ := hd3 (by omega); first | exact absurd (hx2.trans (hga _ (by omega))) (by assumption) | (subst hx1; exact absurd (by assumption) (by decide))) | (simp_all; done))
       ·rintro _ -
        refine C_false rfl ?_
        refine C_skip ?_
        refine K_out ?_
        refine K_then ?_
        refine C_region (l := [0, 1, 2]) rfl ?_
        refine Y_move ?_
        refine X_ari rfl rfl rfl rfl rfl (by exact wrap_in (by decide) (by omega)) rfl ?_
        refine Y_assign ?_
        refine XD_end ?_
        refine K_roundO (a' := [(12, _)]) (i2 + 1) ([]) (.cons (k := 12) rfl (.cons (k := 41) rfl (.cons (k := 40) rfl (.cons (k := 39) rfl (.cons (k := 38) rfl (.cons (k := 37) rfl (.cons (k := 11) rfl (.cons (k := 9) rfl (.cons (k := 8) rfl (.cons (k := 6) rfl (.cons (k := 0) rfl (.nil)))))))))))) (hm6.trans hm3) (fun w hw => by first | exact hw | exact hw.c) ?_ ?_
        ·exact ⟨rfl, rfl, by omega⟩
        ·omega
     ·replace hc9 := dF hc9
      refine C_exit ?_
      iterate 2 refine K_exit ?_
      refine K_hit ?_
      refine K_out ?_
      refine K_then ?_
      refine C_region (l := [0, 1, 2]) rfl ?_
      refine Y_move ?_
      refine X_ari rfl rfl rfl rfl rfl (by exact wrap_in (by decide) (by omega)) rfl ?_
      refine Y_assign ?_
      refine XD_end ?_
      refine K_roundO (a' := [(11, _)]) (k + 1) ([]) (.cons (k := 11) rfl (.cons (k := 9) rfl (.cons (k := 8) rfl (.cons (k := 6) rfl (.cons (k := 0) rfl (.nil)))))) (hm5.trans hm6) (fun w hw => by first | exact hw | exact hw.c) ?_ ?_
      ·exact ⟨rfl, rfl, by omega⟩
      ·omega
    ·replace hc8 := dF hc8
     refine C_exit ?_
     iterate 2 refine K_exit ?_
     refine K_hit ?_
     refine K_then ?_
     refine Y_pk [9, 8] ?_
     refine C_seq ?_
     refine C_region (l := [0, 1, 2, 3, 4, 5, 6, 7]) rfl ?_
     refine X_fn rfl rfl F.ok50 rfl (walked_ok _) rfl ?_
     rintro _ M9 hm9 rfl
     refine Y_move ?_
     refine XD_part 118 rfl (fun hc24 => ?_) (fun hc24 => ?_)
     ·skip
      simp only [PeerV.eta, TableV.eta, RouteV.eta] at hc24
      refine Y_fieldAddr F.foff63_0 ?_
      refine Y_load F.lay41 ?_
      refine Y_len_sl F.elem41 ?_
      refine Y_cmp ?_
      refine Y_pick ?_
      refine Y_assign ?_
      refine XD_end ?_
      refine K_then ?_
      refine Y_pk [8] ?_
      refine C_ret ?_
      refine K_end (.inr rfl) (.tmp rfl .nil) (fun w hw => ?_)
      refine ⟨_, _, rfl, (by (repeat first | assumption | refine Mem.le.trans (by assumption) ?_)), hw.c, ?_⟩
      clear hw
      exact congrArg Value.bool (decide_eq_true (by omega))
     ·skip
      (exfalso; first | omega | (obtain ⟨hx1, hx2⟩ := hd3 (by omega); first | exact absurd (hx2.trans (hga _ (by omega))) (by assumption) | (subst hx1; exact absurd (by assumption) (by decide))) | (simp_all; done))

end Go.Proofs.Ytbjklbmmchiahaa
/-
  Walks: the fourth law.
-/
set_option linter.unusedSimpArgs false
set_option linter.unusedVariables false
set_option linter.unnecessarySimpa false
set_option maxRecDepth 8000
set_option maxHeartbeats 1000000
namespace Go.Proofs.Ytbjklbmmchiahaa
open Go.Esp
theorem F.ok53 : okFn Try.prog 53 = true := by kernel_rfl
theorem F.ok54 : okFn Try.prog 54 = true := by kernel_rfl

theorem lawSettles_ok (M : Mem) (l : (Sl PeerV)) (r : Int) (hl0 : SlK M PeerV.segs 21 l) : Esp.Fn Try.prog 10 [Sl.val l, .int .i64 r] M (fun _ v => v = .bool true) := by
  obtain ⟨l_a, l_c, l_l⟩ := l
  have k_l : SlK M PeerV.segs 21 ⟨l_a, l_c, l_l⟩ := hl0
  have s_l : SlM M l_a (l_l.map PeerV.segs) 21 := k_l.h1
  have n_l : (l_l.map PeerV.segs).length = l_l.length := List.length_map ..
  have m_l : l_l.length ≤ 9223372036854775807 := k_l.h2
  have c_l : l_l.length ≤ l_c := k_l.h3
  refine fn_enter Try.func10 rfl Try.ntmps10 rfl ?_; intro H
  refine C_seq ?_
  refine C_region (l := [0]) rfl ?_
  refine Y_assign ?_
  refine XD_end ?_
  refine K_then ?_
  iterate 2 refine C_seq ?_
  refine C_region (l := [0, 1, 2]) rfl ?_
  refine Y_move ?_
  refine Y_len_sl F.elem26 ?_
  refine Y_cmp ?_
  refine XD_end ?_
  refine K_then ?_
  refine Y_pk [12, 4, 0, 1] ?_
  refine C_cond rfl (fun hc1 => ?_) (fun hc1 => ?_)
  ·replace hc1 := dT hc1
   refine C_seq ?_
   refine C_region (l := [0]) rfl ?_
   refine Y_assign ?_
   refine XD_end ?_
   refine K_then ?_
   refine Y_pk [4, 0, 1] ?_
   refine C_ret ?_
   refine K_ret ?_
   refine K_end (.inr rfl) (.tmp rfl .nil) (fun w hw => ?_)
   refine ⟨_, _, rfl, (by exact Mem.le.refl _), hw.c, ?_⟩
   clear hw
   rfl
  ·replace hc1 := dF hc1
   refine C_skip ?_
   refine K_then ?_
   refine Y_pk [4, 0, 1] ?_
   refine C_seq ?_
   refine C_region (l := [0, 1, 2, 3, 4, 5, 6, 7]) rfl ?_
   iterate 2 refine Y_move ?_
   refine X_fn rfl rfl F.ok52 rfl (Settled_ok _ ⟨l_a, l_c, l_l⟩ r k_l) rfl ?_
   rintro _ M5 hm5 h5
   obtain ⟨_, rfl, ⟨t5a, t5c, t5l⟩, rfl, e5, kt5, okt5⟩ := h5
   simp only at e5 okt5
   refine Y_move ?_
   iterate 2 refine Y_extract ?_
   iterate 2 refine Y_assign ?_
   refine XD_end ?_
   refine K_then ?_
   refine Y_pk [6, 5, 4, 0, 1] ?_
   refine C_seq ?_
   refine C_region (l := [0, 1, 2, 3, 4, 5, 6, 7]) rfl ?_
   iterate 2 refine Y_move ?_
   refine X_fn rfl rfl F.ok53 rfl (rSettled_ok _ ⟨l_a, l_c, l_l⟩ r (k_l.mono (by assumption))) rfl ?_
   rintro _ M7 hm7 h7
   obtain ⟨_, rfl, ⟨t7a, t7c, t7l⟩, rfl, e7, kt7, okt7⟩ := h7
   simp only at e7 okt7
   refine Y_move ?_
   iterate 2 refine Y_extract ?_
   iterate 2 refine Y_assign ?_
   refine XD_end ?_
   refine K_then ?_
   refine Y_pk [8, 7, 6, 5, 4, 0] ?_
   iterate 2 refine C_seq ?_
   refine C_region (l := [0, 1, 2, 3, 4, 5, 6, 7, 8]) rfl ?_
   iterate 2 refine Y_move ?_
   refine X_fs rfl rfl F.ok54 rfl (Tables_ok _ ⟨t5a, t5c, t5l⟩ ⟨t7a, t7c, t7l⟩ (kt5.mono (by assumption)) (fun y hy => (okt5 y hy).mono (by assumption)) (kt7.mono (by exact Mem.le.refl _)) (fun y hy => (okt7 y hy).mono (by exact Mem.le.refl _))) rfl ?_
   rintro _ hv
   rw [decide_eq_true (e5.trans e7.symm)] at hv
   subst hv
   refine Y_not ?_
   refine Y_move ?_
   refine XD_part 29 rfl (fun hc2 => ?_) (fun hc2 => ?_)
   ·skip
    (exfalso; first | omega | exact absurd hs2 (by assumption) | (simp_all; done))
   ·skip
    iterate 2 refine Y_move ?_
    refine Y_cmp ?_
    refine Y_pick ?_
    refine XD_end ?_
    refine K_then ?_
    refine Y_pk [33, 5, 4, 0] ?_
    refine C_cond rfl (fun hc3 => ?_) (fun hc3 => ?_)
    ·replace hc3 := nT hc3
     simp only [PeerV.eta, TableV.eta, RouteV.eta] at hc3
     (exfalso; first | omega | exact absurd hs2 (by assumption) | (simp_all; done))
    ·replace hc3 := nF hc3
     simp only [PeerV.eta, TableV.eta, RouteV.eta] at hc3
     refine C_skip ?_
     refine K_then ?_
     refine Y_pk [5, 4, 0] ?_
     iterate 2 refine C_seq ?_
     refine C_region (l := [0]) rfl ?_
     refine Y_assign ?_
     refine XD_end ?_
     refine K_then ?_
     refine C_block ?_
     refine Y_pk [9, 5, 4, 0] ?_
     refine C_loopS (.succ .zero) (fun (k : Nat) z => z = [(9, .int .i64 (k : Int))] ∧ k ≤ t5l.length) (fun k => t5l.length - k) (0) (⟨rfl, by omega⟩) ?_
     rintro k _ ⟨rfl, hk⟩
     have st5 := kt5.h1.mono hm7
     simp only at st5
     have nt5 : (t5l.map TableV.segs).length = t5l.length := List.length_map ..
     have s_l7 := s_l.mono (hm5.trans hm7)
     iterate 2 refine C_seq ?_
     refine C_region (l := [0, 1, 2, 3]) rfl ?_
     iterate 2 refine Y_move ?_
     refine Y_len_sl F.elem60 ?_
     refine Y_cmp ?_
     refine XD_end ?_
     refine K_then ?_
     refine C_cond rfl (fun hc4 => ?_) (fun hc4 => ?_)
     ·replace hc4 := dT hc4
      refine C_skip ?_
      refine K_then ?_
      refine C_seq ?_
      refine C_block ?_
      refine C_seq ?_
      obtain ⟨hk2, hs1, hs2⟩ := settled_at e5 (show k < t5l.length by omega)
      refine C_region_any (l := [0, 1, 2, 3, 4, 5, 6, 7, 8, 9, 10, 11, 12, 13, 14, 15, 16, 17]) #[0, 0, 3, 7, 15, 31, 63, 127, 127, 511, 1023, 2047, 127, 127, 12415, 28799, 65535, 131071] _ rfl (by kernel_rfl) (by kernel_rfl) St.drawn (fun _ h => h) ?_
      iterate 2 refine Y_move ?_
      refine X_indexAddr rfl rfl rfl rfl F.elem60 (by rfl) (by omega) (by exact SlM.plain (by assumption) (by (simp; omega))) rfl ?_
      refine X_load_el rfl rfl rfl (by assumption) (by exact row_map (by omega)) F.lay28 rfl rfl rfl ?_
      refine X_fs rfl rfl F.ok31 rfl (IsT_ok _ t5l[k] ((okt5 _ (show t5l[k] ∈ t5l from List.getElem_mem (by omega))).mono (by assumption))) rfl ?_
      rintro _ hv
      rw [decide_eq_true hs1] at hv
      subst hv
      refine Y_not ?_
      refine Y_move ?_
      refine XD_part 46 rfl (fun hc5 => ?_) (fun hc5 => ?_)
      ·skip
       (exfalso; first | omega | exact absurd hs2 (by assumption) | (simp_all; done))
      ·skip
       iterate 2 refine Y_move ?_
       refine X_indexAddr rfl rfl rfl rfl F.elem60 (by rfl) (by omega) (by exact SlM.plain (by assumption) (by (simp; omega))) rfl ?_
       refine X_fieldAddr_el rfl rfl rfl (by exact SlM.plain (by assumption) (by (simp; omega))) F.foff28_0 rfl ?_
       refine X_load_el rfl rfl rfl (by assumption) (by exact row_map (by omega)) F.lay25 rfl rfl rfl ?_
       iterate 2 refine Y_move ?_
       refine X_indexAddr rfl rfl rfl rfl F.elem26 (by rfl) (by omega) (by exact SlM.plain (by assumption) (by (simp; omega))) rfl ?_
       refine X_load_el rfl rfl rfl (by assumption) (by exact row_map (by omega)) F.lay25 rfl rfl rfl ?_
       refine X_same (m := 20) rfl rfl rfl rfl rfl (by constructor) (by constructor) F.lay25 F.kinds25 rfl F.guard25 (by exact FitPeerV _) (by exact FitPeerV _) rfl rfl rfl ?_; intro c6 he7
       replace he7 : c6 = true ↔ ¬ (Segs.cells _ = Segs.cells _) := he7
       obtain rfl := neD he7 (PeerV.inj (x := ⟨_, _⟩) (y := ⟨_, _⟩)); clear he7
       refine Y_pick ?_
       refine XD_end ?_
       refine K_then ?_
       refine C_cond rfl (fun hc8 => ?_) (fun hc8 => ?_)
       ·replace hc8 := nT hc8
        simp only [PeerV.eta, TableV.eta, RouteV.eta] at hc8
        (exfalso; first | omega | exact absurd hs2 (by assumption) | (simp_all; done))
       ·replace hc8 := nF hc8
        simp only [PeerV.eta, TableV.eta, RouteV.eta] at hc8
        refine C_skip ?_
        refine K_out ?_
        refine K_then ?_
        refine C_region (l := [0, 1, 2]) rfl ?_
        refine Y_move ?_
        refine X_ari rfl rfl rfl rfl rfl (by exact wrap_in (by decide) (by omega)) rfl ?_
        refine Y_assign ?_
        refine XD_end ?_
        refine K_roundS (a' := [(9, _)]) (k + 1) (.cons (k := 9) rfl (.cons (k := 5) rfl (.cons (k := 4) rfl (.cons (k := 0) rfl (.nil))))) (fun w hw => by first | exact hw | exact hw.c) ?_ ?_
        ·exact ⟨rfl, by omega⟩
        ·omega
     ·replace hc4 := dF hc4
      refine C_exit ?_
      iterate 2 refine K_exit ?_
      refine K_hit ?_
      refine K_then ?_
      refine Y_pk [4] ?_
      refine C_seq ?_
      refine C_region (l := [0, 1]) rfl ?_
      refine X_fn rfl rfl F.ok50 rfl (walked_ok _) rfl ?_
      rintro _ M9 hm9 rfl
      refine Y_assign ?_
      refine XD_end ?_
      refine K_then ?_
      refine Y_pk [4] ?_
      refine C_ret ?_
      refine K_end (.inr rfl) (.tmp rfl .nil) (fun w hw => ?_)
      refine ⟨_, _, rfl, (by (repeat first | assumption | refine Mem.le.trans (by assumption) ?_)), hw.c, ?_⟩
      clear hw
      rfl

end Go.Proofs.Ytbjklbmmchiahaa
/-
  How far it is on a ring; owners; how walks in settled tables end: in plain Lean.
-/
set_option linter.unusedSimpArgs false
set_option linter.unusedVariables false
set_option linter.unnecessarySimpa false
namespace Go.Esp
/-- How far it is from a to b, clockwise. -/
def D (a b : Plc) : Nat := (b - a).toNat
theorem D_cases (a b : Plc) : (a.toNat ≤ b.toNat ∧ D a b = b.toNat - a.toNat) ∨ (b.toNat < a.toNat ∧ D a b = 2 ^ 160 - a.toNat + b.toNat) := by
  have h1 := a.isLt; have h2 := b.isLt
  unfold D
  rw [BitVec.toNat_sub]
  omega
theorem open_D {a x b : Plc} : OpenP a x b ↔ x.toNat ≠ a.toNat ∧ (a.toNat = b.toNat ∨ D a x < D a b) := by
  unfold OpenP LessP
  rw [show (x ≠ a) ↔ x.toNat ≠ a.toNat from not_congr plc_nat, plc_nat (a := a) (b := b)]
  rfl
theorem half_D {a x b : Plc} : HalfP a x b ↔ x.toNat = b.toNat ∨ (x.toNat ≠ a.toNat ∧ (a.toNat = b.toNat ∨ D a x < D a b)) := by
  unfold HalfP
  rw [open_D, plc_nat]
theorem nxt_cases {i n : Nat} (h : i < n) : (i + 1 < n ∧ (i + 1) % n = i + 1) ∨ (i + 1 = n ∧ (i + 1) % n = 0) := by
  rcases Nat.lt_or_ge (i + 1) n with h1 | h1
  · exact .inl ⟨h1, Nat.mod_eq_of_lt h1⟩
  · obtain rfl : n = i + 1 := by omega
    exact .inr ⟨rfl, Nat.mod_self _⟩
theorem prv_cases {i n : Nat} (h : i < n) : (0 < i ∧ (i + n - 1) % n = i - 1) ∨ (i = 0 ∧ (i + n - 1) % n = n - 1) := by
  rcases Nat.eq_zero_or_pos i with h1 | h1
  · subst h1
    exact .inr ⟨rfl, by rw [Nat.zero_add]; exact Nat.mod_eq_of_lt (by omega)⟩
  · refine .inl ⟨h1, ?_⟩
    rw [show i + n - 1 = (i - 1) + n by omega, Nat.add_mod_right]
    exact Nat.mod_eq_of_lt (by omega)
theorem least_of {p : Nat → Bool} : ∀ {n j : Nat}, j < n → p j = true → ∃ k, k < n ∧ p k = true ∧ ∀ i, i < k → p i = false
  | 0, j, h, _ => by omega
  | n + 1, j, h, hp => by
    by_cases he : ∃ i, i < n ∧ p i = true
    · obtain ⟨i, hi, hpi⟩ := he
      obtain ⟨k, h1, h2, h3⟩ := least_of hi hpi
      exact ⟨k, by omega, h2, h3⟩
    · have hj : j = n := by
        rcases Nat.lt_or_ge j n with h1 | h1
        · exact (he ⟨j, h1, hp⟩).elim
        · omega
      subst hj
      refine ⟨j, h, hp, fun i hi => ?_⟩
      cases hq : p i with
      | false => rfl
      | true => exact (he ⟨i, hi, hq⟩).elim
section
variable {l : List PeerV}
/-- The i-th place, as a number. -/
def idN (l : List PeerV) (i : Nat) : Nat := match l[i]? with
  | some p => p.id.toNat
  | none => 0
theorem idN_at {i : Nat} (h : i < l.length) : l[i].id.toNat = idN l i := by unfold idN; rw [List.getElem?_eq_getElem h]
theorem idN_lt (l : List PeerV) (i : Nat) : idN l i < 2 ^ 160 := by
  unfold idN
  split
  · rename_i p _; exact p.id.isLt
  · decide
theorem idN_mono (h : CircOk l) {i j : Nat} (hj : j < l.length) (hij : i < j) : idN l i < idN l j := by
  have := List.pairwise_iff_getElem.1 h.2.2 i j (by omega) hj hij
  rw [← idN_at hj, ← idN_at (show i < l.length by omega)]
  exact this
theorem idN_le (h : CircOk l) {i j : Nat} (hj : j < l.length) (hij : i ≤ j) : idN l i ≤ idN l j := by
  rcases Nat.lt_or_ge i j with h1 | h1
  · exact Nat.le_of_lt (idN_mono h hj h1)
  · obtain rfl : i = j := by omega
    exact Nat.le_refl _
/-- Nobody stands between a peer and the next one. -/
theorem next_min (h : CircOk l) {i j k : Nat} (hi : i < l.length) (hj : j < l.length) (hn : j ≠ i) (hk : k < l.length) (hk2 : (i + 1) % l.length = k) : D l[i].id l[k].id ≤ D l[i].id l[j].id := by
  have c1 := D_cases l[i].id l[k].id
  have c2 := D_cases l[i].id l[j].id
  simp only [idN_at] at c1 c2
  have b1 := idN_lt l i; have b2 := idN_lt l j; have b3 := idN_lt l k
  rcases nxt_cases hi with ⟨h1, h2⟩ | ⟨h1, h2⟩
  · rw [h2] at hk2; subst hk2
    have m1 := idN_mono h h1 (Nat.lt_succ_self i)
    rcases Nat.lt_or_gt_of_ne hn with h3 | h3
    · have m2 := idN_mono h hi h3; omega
    · have m2 := idN_le h hj (show i + 1 ≤ j by omega); omega
  · rw [h2] at hk2; subst hk2
    have h3 : j < i := by omega
    have m1 := idN_mono h hi h3
    have m2 := idN_le h hj (Nat.zero_le j)
    omega
theorem owner_spec (h : CircOk l) (h0 : 0 < l.length) (x : Plc) : (∃ o, o < l.length ∧ ownerI l x = o ∧ (∀ j, j < o → idN l j < x.toNat) ∧ x.toNat ≤ idN l o) ∨ (ownerI l x = 0 ∧ ∀ j, j < l.length → idN l j < x.toNat) := by
  by_cases he : ∃ j, j < l.length ∧ pO l x j = true
  · obtain ⟨j, hj, hpj⟩ := he
    obtain ⟨o, ho, hpo, hm⟩ := least_of hj hpj
    refine .inl ⟨o, ho, ownerI_at ho hm hpo, fun j hj => ?_, ?_⟩
    · have h9 := hm j hj
      rw [pO_at (by omega)] at h9
      have h7 : LessP l[j].id x := Decidable.not_not.1 (of_decide_eq_false h9)
      unfold LessP at h7
      rw [idN_at] at h7; exact h7
    · rw [pO_at ho] at hpo
      have h8 := of_decide_eq_true hpo
      unfold LessP at h8
      rw [idN_at] at h8; omega
  · have hm : ∀ j, j < l.length → pO l x j = false := fun j hj => by
      cases hq : pO l x j with
      | false => rfl
      | true => exact (he ⟨j, hj, hq⟩).elim
    refine .inr ⟨ownerI_none hm, fun j hj => ?_⟩
    have h9 := hm j hj
    rw [pO_at hj] at h9
    have h7 : LessP l[j].id x := Decidable.not_not.1 (of_decide_eq_false h9)
    unfold LessP at h7
    rw [idN_at] at h7; exact h7
/-- The owner is the first one, clockwise. -/
theorem owner_min (h : CircOk l) {x : Plc} {o j : Nat} (ho : o < l.length) (ho2 : ownerI l x = o) (hj : j < l.length) : D x l[o].id ≤ D x l[j].id := by
  have c1 := D_cases x l[o].id
  have c2 := D_cases x l[j].id
  simp only [idN_at] at c1 c2
  have b1 := idN_lt l o; have b2 := idN_lt l j; have b3 := x.isLt
  rcases owner_spec h (by omega) x with ⟨o', _, h1, h2, h3⟩ | ⟨h1, h2⟩
  · rw [h1] at ho2; subst ho2
    rcases Nat.lt_or_ge j o' with h4 | h4
    · have := h2 j h4; omega
    · have := idN_le h hj h4; omega
  · rw [h1] at ho2; subst ho2
    have m1 := h2 j hj; have m2 := h2 0 ho; have m3 := idN_le h hj (Nat.zero_le j)
    omega
/-- A place lies in the arc of its owner. -/
theorem owner_arc (h : CircOk l) {x : Plc} {o p : Nat} (ho : o < l.length) (ho2 : ownerI l x = o) (hp : p < l.length) (hp2 : (o + l.length - 1) % l.length = p) : HalfP l[p].id x l[o].id := by
  rw [half_D]
  have c1 := D_cases l[p].id x
  have c2 := D_cases l[p].id l[o].id
  simp only [idN_at] at c1 c2 ⊢
  have b1 := idN_lt l o; have b2 := idN_lt l p; have b3 := x.isLt
  rcases prv_cases ho with ⟨g1, g2⟩ | ⟨g1, g2⟩
  · rw [g2] at hp2; subst hp2
    have m := idN_mono h ho (show o - 1 < o by omega)
    rcases owner_spec h (by omega) x with ⟨o', _, h1, h2, h3⟩ | ⟨h1, h2⟩
    · rw [h1] at ho2; subst ho2
      have := h2 (o' - 1) (by omega); omega
    · rw [h1] at ho2; omega
  · rw [g2] at hp2; subst g1; subst hp2
    have m := idN_le h hp (Nat.zero_le _)
    rcases owner_spec h (by omega) x with ⟨o', _, h1, h2, h3⟩ | ⟨h1, h2⟩
    · rw [h1] at ho2; subst ho2
      rcases Nat.eq_or_lt_of_le m with m1 | m1 <;> omega
    · have := h2 _ hp
      have := h2 0 ho
      rcases Nat.eq_or_lt_of_le m with m1 | m1 <;> omega
/-- Who is done knows the owner: it is the next one. -/
theorem done_owner (h : CircOk l) {x : Plc} {i k : Nat} (hi : i < l.length) (hk : k < l.length) (hk2 : (i + 1) % l.length = k) (hd : HalfP l[i].id x l[k].id) : ownerI l x = k := by
  rw [half_D] at hd
  have c1 := D_cases l[i].id x
  have c2 := D_cases l[i].id l[k].id
  simp only [idN_at] at c1 c2 hd
  have b1 := idN_lt l i; have b2 := idN_lt l k; have b3 := x.isLt
  rcases nxt_cases hi with ⟨g1, g2⟩ | ⟨g1, g2⟩
  · rw [g2] at hk2; subst hk2
    have m := idN_mono h hk (Nat.lt_succ_self i)
    rcases owner_spec h (by omega) x with ⟨o, h0, h1, h2, h3⟩ | ⟨h1, h2⟩
    · rw [h1]
      rcases Nat.lt_trichotomy o (i + 1) with h4 | h4 | h4
      · have := idN_le h hi (show o ≤ i by omega); omega
      · exact h4
      · have := h2 (i + 1) h4; omega
    · have := h2 _ hk; omega
  · rw [g2] at hk2; subst hk2
    have m := idN_le h hi (Nat.zero_le i)
    rcases owner_spec h (by omega) x with ⟨o, h0, h1, h2, h3⟩ | ⟨h1, h2⟩
    · rw [h1]
      rcases Nat.eq_zero_or_pos o with h4 | h4
      · exact h4
      · have m1 := h2 0 h4
        have m2 := idN_le h hi (show o ≤ i by omega)
        omega
    · exact h1
/-- Who is not done has the next one ahead of the place. -/
theorem next_open (h : CircOk l) {x : Plc} {i k : Nat} (hi : i < l.length) (hk : k < l.length) (hk2 : (i + 1) % l.length = k) (hd : ¬ HalfP l[i].id x l[k].id) : k ≠ i ∧ OpenP l[i].id l[k].id x := by
  rw [half_D] at hd
  rw [open_D]
  have hne : k ≠ i := fun e => by subst e; omega
  refine ⟨hne, ?_⟩
  have hid := circ_id h hk hi hne
  rw [ne_eq, plc_nat] at hid
  have c1 := D_cases l[i].id x
  have c2 := D_cases l[i].id l[k].id
  simp only [idN_at] at c1 c2 hd hid ⊢
  have b1 := idN_lt l i; have b2 := idN_lt l k; have b3 := x.isLt
  omega
end
end Go.Esp
