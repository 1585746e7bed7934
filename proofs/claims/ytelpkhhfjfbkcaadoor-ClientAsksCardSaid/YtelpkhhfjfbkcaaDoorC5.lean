/-
  Circles, by the document; owners.
-/
import Derived.Test.YtelpkhhfjfbkcaaDoorC4
set_option linter.unusedSimpArgs false
set_option linter.unusedVariables false
set_option linter.unnecessarySimpa false
set_option maxRecDepth 8000
namespace Go.Proofs.YtelpkhhfjfbkcaaDoor
open Go.Esp
theorem F.lay51 : lay Tryd.prog 51 = some (false, 1) := by kernel_rfl
theorem F.ok54 : okFn Tryd.prog 54 = true := by kernel_rfl
theorem F.ok58 : okFn Tryd.prog 58 = true := by kernel_rfl
theorem F.ok59 : okFn Tryd.prog 59 = true := by kernel_rfl
theorem F.ok70 : okFn Tryd.prog 70 = true := by kernel_rfl
theorem F.ok77 : okFn Tryd.prog 77 = true := by kernel_rfl
theorem F.ok78 : okFn Tryd.prog 78 = true := by kernel_rfl

theorem rCirc_ok (M : Mem) (l : (Sl PeerV)) (hl0 : SlM M (l).a ((l).l.map PeerV.segs) 21) (hl1 : (l).l.length ≤ maxLen) : Fs Tryd.prog 54 [Sl.val l] M (fun v => v = Value.bool (decide (IsCircle l.l))) := by
  obtain ⟨l_a, l_c, l_l⟩ := l
  have s_l : SlM M l_a (l_l.map PeerV.segs) 21 := hl0
  have n_l : (l_l.map PeerV.segs).length = l_l.length := List.length_map ..
  have m_l : l_l.length ≤ 9223372036854775807 := hl1
  refine fs_enter Tryd.func54 rfl Tryd.ntmps54 rfl ?_; intro H
  refine C_seq ?_
  refine C_region (l := [0]) rfl ?_
  refine Y_assign ?_
  refine XD_end ?_
  refine K_then ?_
  iterate 2 refine C_seq ?_
  refine C_region (l := [0, 1, 2, 3, 4, 5, 6, 7]) rfl ?_
  refine Y_move ?_
  refine Y_len_sl F.elem51 ?_
  refine Y_cmp ?_
  refine Y_move ?_
  refine XD_part 8 rfl (fun hc1 => ?_) (fun hc1 => ?_)
  ·replace hc1 := dT hc1
   iterate 3 refine Y_skip ?_
   refine Y_pick ?_
   refine XD_end ?_
   refine K_then ?_
   refine Y_pk [12, 2, 0] ?_
   refine C_true rfl ?_
   refine C_seq ?_
   refine C_region (l := [0]) rfl ?_
   refine Y_assign ?_
   refine XD_end ?_
   refine K_then ?_
   refine Y_pk [2, 0] ?_
   refine C_ret ?_
   refine K_ret ?_
   refine K_end (.inr rfl) (.tmp rfl .nil) (fun w hw => ?_)
   refine ⟨_, rfl, (hw.c), ?_⟩
   clear hw
   refine congrArg Value.bool ?_
   grind [IsCircle]
  ·replace hc1 := dF hc1
   refine Y_move ?_
   refine Y_len_sl F.elem51 ?_
   refine Y_cmp ?_
   refine Y_pick ?_
   refine XD_end ?_
   refine K_then ?_
   refine Y_pk [12, 2, 0] ?_
   refine C_cond rfl (fun hc2 => ?_) (fun hc2 => ?_)
   ·replace hc2 := dT hc2
    refine C_seq ?_
    refine C_region (l := [0]) rfl ?_
    refine Y_assign ?_
    refine XD_end ?_
    refine K_then ?_
    refine Y_pk [2, 0] ?_
    refine C_ret ?_
    refine K_ret ?_
    refine K_end (.inr rfl) (.tmp rfl .nil) (fun w hw => ?_)
    refine ⟨_, rfl, (hw.c), ?_⟩
    clear hw
    refine congrArg Value.bool ?_
    grind [IsCircle]
   ·replace hc2 := dF hc2
    refine C_skip ?_
    refine K_then ?_
    refine Y_pk [2, 0] ?_
    iterate 2 refine C_seq ?_
    refine C_region (l := [0]) rfl ?_
    refine Y_assign ?_
    refine XD_end ?_
    refine K_then ?_
    refine C_block ?_
    refine Y_pk [3, 2, 0] ?_
    refine C_loopS (.succ .zero) (fun (k : Nat) z => z = [(3, .int .i64 (k : Int))] ∧ k ≤ l_l.length ∧ ((1 ≤ l_l.length ∧ l_l.length ≤ 16) ∧ CircOk (l_l.take k))) (fun k => l_l.length - k) (0) (⟨rfl, by omega, by (refine ⟨by omega, ?_⟩; simp [CircOk])⟩) ?_
    rintro k _ ⟨rfl, hk, hI⟩
    have hlk : (l_l.take k).length = k := by rw [List.length_take]; omega
    iterate 2 refine C_seq ?_
    refine C_region (l := [0, 1, 2, 3]) rfl ?_
    iterate 2 refine Y_move ?_
    refine Y_len_sl F.elem51 ?_
    refine Y_cmp ?_
    refine XD_end ?_
    refine K_then ?_
    refine C_cond rfl (fun hc3 => ?_) (fun hc3 => ?_)
    ·replace hc3 := dT hc3
     refine C_skip ?_
     refine K_then ?_
     refine C_seq ?_
     refine C_block ?_
     iterate 2 refine C_seq ?_
     refine C_region_any (l := [0, 1, 2, 3, 4, 5, 6, 7, 8, 9, 10, 11, 12, 13, 14, 15, 16, 17, 18, 19, 20, 21, 22, 23, 24, 25, 26, 27, 28, 29, 30, 31, 32]) #[0, 0, 3, 7, 15, 31, 63, 127, 127, 511, 1023, 2047, 4095, 8191, 16383, 32767, 65535, 131071, 262143, 262143, 786431, 2097151, 4194303, 8388607, 262143, 262143, 50593791, 117702655, 251920383, 536870911, 1073741823, 2147483647, 4294967295] _ rfl (by kernel_rfl) (by kernel_rfl) St.drawn (fun _ h => h) ?_
     iterate 2 refine Y_move ?_
     refine X_indexAddr rfl rfl rfl rfl F.elem51 (by rfl) (by omega) (by exact SlM.plain (by assumption) (by (simp; omega))) rfl ?_
     refine X_fieldAddr_el rfl rfl rfl (by exact SlM.plain (by assumption) (by (simp; omega))) F.foff62_0 rfl ?_
     refine X_load_el rfl rfl rfl (by assumption) (by exact row_map (by omega)) F.lay3 rfl rfl rfl ?_
     refine Y_cmp ?_
     refine Y_move ?_
     refine XD_part 25 rfl (fun hc4 => ?_) (fun hc4 => ?_)
     ·replace hc4 := dT hc4
      iterate 6 refine Y_skip ?_
      refine Y_pick ?_
      refine Y_move ?_
      iterate 17 refine Y_skip ?_
      refine Y_pick ?_
      refine XD_end ?_
      refine K_then ?_
      refine C_true rfl ?_
      refine C_seq ?_
      refine C_region (l := [0]) rfl ?_
      refine Y_assign ?_
      refine XD_end ?_
      refine K_then ?_
      refine C_ret ?_
      refine K_ret ?_
      refine K_retB ?_
      iterate 2 refine K_ret ?_
      refine K_retB ?_
      refine K_ret ?_
      refine K_end (.inr rfl) (.tmp rfl .nil) (fun w hw => ?_)
      refine ⟨_, rfl, (hw.c), ?_⟩
      clear hw
      refine congrArg Value.bool ?_
      (have hd := circ_take (l := l_l) (k := k) (by omega); have hp := circ_pre (l := l_l); grind [IsCircle, mem_map_take])
     ·replace hc4 := dF hc4
      iterate 2 refine Y_move ?_
      refine X_indexAddr rfl rfl rfl rfl F.elem51 (by rfl) (by omega) (by exact SlM.plain (by assumption) (by (simp; omega))) rfl ?_
      refine X_fieldAddr_el rfl rfl rfl (by exact SlM.plain (by assumption) (by (simp; omega))) F.foff62_0 rfl ?_
      refine X_load_el rfl rfl rfl (by assumption) (by exact row_map (by omega)) F.lay3 rfl rfl rfl ?_
      refine Y_cmp ?_
      refine Y_pick ?_
      refine Y_move ?_
      refine XD_part 33 rfl (fun hc5 => ?_) (fun hc5 => ?_)
      ·replace hc5 := dT hc5
       iterate 17 refine Y_skip ?_
       refine Y_pick ?_
       refine XD_end ?_
       refine K_then ?_
       refine C_true rfl ?_
       refine C_seq ?_
       refine C_region (l := [0]) rfl ?_
       refine Y_assign ?_
       refine XD_end ?_
       refine K_then ?_
       refine C_ret ?_
       refine K_ret ?_
       refine K_retB ?_
       iterate 2 refine K_ret ?_
       refine K_retB ?_
       refine K_ret ?_
       refine K_end (.inr rfl) (.tmp rfl .nil) (fun w hw => ?_)
       refine ⟨_, rfl, (hw.c), ?_⟩
       clear hw
       refine congrArg Value.bool ?_
       (have hd := circ_take (l := l_l) (k := k) (by omega); have hp := circ_pre (l := l_l); grind [IsCircle, mem_map_take])
      ·replace hc5 := dF hc5
       refine Y_move ?_
       refine Y_cmp ?_
       refine Y_move ?_
       refine XD_part 36 rfl (fun hc6 => ?_) (fun hc6 => ?_)
       ·replace hc6 := dT hc6
        iterate 2 refine Y_move ?_
        refine X_ari rfl rfl rfl rfl rfl (by exact wrap_in (by decide) (by omega)) rfl ?_
        refine X_indexAddr rfl rfl rfl rfl F.elem51 (by exact (Int.toNat_of_nonneg (by omega)).symm) (by omega) (by exact SlM.plain (by assumption) (by (simp; omega))) rfl ?_
        refine X_fieldAddr_el rfl rfl rfl (by exact SlM.plain (by assumption) (by (simp; omega))) F.foff62_1 rfl ?_
        refine X_load_el rfl rfl rfl (by assumption) (by exact row_map (by omega)) F.lay24 rfl rfl rfl ?_
        iterate 2 refine Y_move ?_
        refine X_indexAddr rfl rfl rfl rfl F.elem51 (by rfl) (by omega) (by exact SlM.plain (by assumption) (by (simp; omega))) rfl ?_
        refine X_fieldAddr_el rfl rfl rfl (by exact SlM.plain (by assumption) (by (simp; omega))) F.foff62_1 rfl ?_
        refine X_load_el rfl rfl rfl (by assumption) (by exact row_map (by omega)) F.lay24 rfl rfl rfl ?_
        refine X_fs rfl rfl F.ok70 rfl (rLess_ok _ _ _) rfl ?_
        rintro _ rfl
        refine Y_not ?_
        iterate 2 refine Y_pick ?_
        refine XD_end ?_
        refine K_then ?_
        refine C_cond rfl (fun hc7 => ?_) (fun hc7 => ?_)
        ·replace hc7 := nT hc7
         refine C_seq ?_
         refine C_region (l := [0]) rfl ?_
         refine Y_assign ?_
         refine XD_end ?_
         refine K_then ?_
         refine C_ret ?_
         refine K_ret ?_
         refine K_retB ?_
         iterate 2 refine K_ret ?_
         refine K_retB ?_
         refine K_ret ?_
         refine K_end (.inr rfl) (.tmp rfl .nil) (fun w hw => ?_)
         refine ⟨_, rfl, (hw.c), ?_⟩
         clear hw
         refine congrArg Value.bool ?_
         (have hd := circ_take (l := l_l) (k := k) (by omega); have hp := circ_pre (l := l_l); grind [IsCircle, mem_map_take])
        ·replace hc7 := nF hc7
         refine C_skip ?_
         refine K_then ?_
         refine C_seq ?_
         refine C_region (l := [0]) rfl ?_
         refine Y_assign ?_
         refine XD_end ?_
         refine K_then ?_
         refine C_block ?_
         refine Y_pk [4, 51, 50, 49, 48, 47, 46, 45, 44, 43, 42, 41, 40, 39, 38, 37, 36, 35, 34, 33, 32, 31, 30, 29, 28, 27, 26, 25, 24, 23, 22, 21, 20, 19, 16, 15, 14, 13, 3, 2, 0] ?_
         refine C_loopS (.succ .zero) (fun (j : Nat) z => z = [(4, .int .i64 (j : Int))] ∧ j ≤ k ∧ l_l[k].addr ∉ (l_l.take j).map PeerV.addr) (fun j => k - j) (0) (⟨rfl, by omega, by simp⟩) ?_
         rintro j _ ⟨rfl, hj, hJ⟩
         iterate 2 refine C_seq ?_
         refine C_region (l := [0, 1, 2]) rfl ?_
         iterate 2 refine Y_move ?_
         refine Y_cmp ?_
         refine XD_end ?_
         refine K_then ?_
         refine C_cond rfl (fun hc8 => ?_) (fun hc8 => ?_)
         ·replace hc8 := dT hc8
          refine C_skip ?_
          refine K_then ?_
          refine C_seq ?_
          refine C_block ?_
          refine C_seq ?_
          refine C_region_any (l := [0, 1, 2, 3, 4, 5, 6, 7, 8, 9, 10]) #[0, 0, 3, 7, 15, 0, 0, 96, 224, 480, 1023] _ rfl (by kernel_rfl) (by kernel_rfl) St.drawn (fun _ h => h) ?_
          iterate 2 refine Y_move ?_
          refine X_indexAddr rfl rfl rfl rfl F.elem51 (by rfl) (by omega) (by exact SlM.plain (by assumption) (by (simp; omega))) rfl ?_
          refine X_fieldAddr_el rfl rfl rfl (by exact SlM.plain (by assumption) (by (simp; omega))) F.foff62_0 rfl ?_
          refine X_load_el rfl rfl rfl (by assumption) (by exact row_map (by omega)) F.lay3 rfl rfl rfl ?_
          iterate 2 refine Y_move ?_
          refine X_indexAddr rfl rfl rfl rfl F.elem51 (by rfl) (by omega) (by exact SlM.plain (by assumption) (by (simp; omega))) rfl ?_
          refine X_fieldAddr_el rfl rfl rfl (by exact SlM.plain (by assumption) (by (simp; omega))) F.foff62_0 rfl ?_
          refine X_load_el rfl rfl rfl (by assumption) (by exact row_map (by omega)) F.lay3 rfl rfl rfl ?_
          refine Y_cmp ?_
          refine XD_end ?_
          refine K_then ?_
          refine C_cond rfl (fun hc9 => ?_) (fun hc9 => ?_)
          ·replace hc9 := dT hc9
           refine C_seq ?_
           refine C_region (l := [0]) rfl ?_
           refine Y_assign ?_
           refine XD_end ?_
           refine K_then ?_
           refine C_ret ?_
           refine K_retB ?_
           iterate 2 refine K_ret ?_
           iterate 2 refine K_retB ?_
           iterate 2 refine K_ret ?_
           refine K_retB ?_
           refine K_ret ?_
           refine K_end (.inr rfl) (.tmp rfl .nil) (fun w hw => ?_)
           refine ⟨_, rfl, (hw.c), ?_⟩
           clear hw
           refine congrArg Value.bool ?_
           (have hd := circ_take (l := l_l) (k := k) (by omega); have hp := circ_pre (l := l_l); grind [IsCircle, mem_map_take])
          ·replace hc9 := dF hc9
           refine C_skip ?_
           refine K_out ?_
           refine K_then ?_
           refine C_region (l := [0, 1, 2]) rfl ?_
           refine Y_move ?_
           refine X_ari rfl rfl rfl rfl rfl (by exact wrap_in (by decide) (by omega)) rfl ?_
           refine Y_assign ?_
           refine XD_end ?_
           refine K_roundS (a' := [(4, _)]) (j + 1) (.cons (k := 4) rfl (.cons (k := 51) rfl (.cons (k := 50) rfl (.cons (k := 49) rfl (.cons (k := 48) rfl (.cons (k := 47) rfl (.cons (k := 46) rfl (.cons (k := 45) rfl (.cons (k := 44) rfl (.cons (k := 43) rfl (.cons (k := 42) rfl (.cons (k := 41) rfl (.cons (k := 40) rfl (.cons (k := 39) rfl (.cons (k := 38) rfl (.cons (k := 37) rfl (.cons (k := 36) rfl (.cons (k := 35) rfl (.cons (k := 34) rfl (.cons (k := 33) rfl (.cons (k := 32) rfl (.cons (k := 31) rfl (.cons (k := 30) rfl (.cons (k := 29) rfl (.cons (k := 28) rfl (.cons (k := 27) rfl (.cons (k := 26) rfl (.cons (k := 25) rfl (.cons (k := 24) rfl (.cons (k := 23) rfl (.cons (k := 22) rfl (.cons (k := 21) rfl (.cons (k := 20) rfl (.cons (k := 19) rfl (.cons (k := 16) rfl (.cons (k := 15) rfl (.cons (k := 14) rfl (.cons (k := 13) rfl (.cons (k := 3) rfl (.cons (k := 2) rfl (.cons (k := 0) rfl (.nil)))))))))))))))))))))))))))))))))))))))))) (fun w hw => by first | exact hw | exact hw.c) ?_ ?_
           ·refine ⟨rfl, by omega, ?_⟩
            exact not_mem_step (by omega) hJ (by assumption)
           ·omega
         ·replace hc8 := dF hc8
          refine C_exit ?_
          iterate 2 refine K_exit ?_
          refine K_hit ?_
          refine K_out ?_
          refine K_then ?_
          refine C_region (l := [0, 1, 2]) rfl ?_
          refine Y_move ?_
          refine X_ari rfl rfl rfl rfl rfl (by exact wrap_in (by decide) (by omega)) rfl ?_
          refine Y_assign ?_
          refine XD_end ?_
          refine K_roundS (a' := [(3, _)]) (k + 1) (.cons (k := 3) rfl (.cons (k := 2) rfl (.cons (k := 0) rfl (.nil)))) (fun w hw => by first | exact hw | exact hw.c) ?_ ?_
          ·refine ⟨rfl, by omega, ?_⟩
           have hd := circ_take (l := l_l) (k := k) (by omega); have hj9 : j = k := (by omega); subst hj9; grind
          ·omega
       ·replace hc6 := dF hc6
        iterate 13 refine Y_skip ?_
        iterate 2 refine Y_pick ?_
        refine XD_end ?_
        refine K_then ?_
        refine C_false rfl ?_
        refine C_skip ?_
        refine K_then ?_
        refine C_seq ?_
        refine C_region (l := [0]) rfl ?_
        refine Y_assign ?_
        refine XD_end ?_
        refine K_then ?_
        refine C_block ?_
        refine Y_pk [4, 51, 50, 49, 48, 47, 46, 45, 44, 43, 42, 41, 40, 39, 38, 37, 36, 35, 34, 33, 32, 31, 30, 29, 28, 27, 26, 25, 24, 23, 22, 21, 20, 19, 16, 15, 14, 13, 3, 2, 0] ?_
        refine C_loopS (.succ .zero) (fun (j : Nat) z => z = [(4, .int .i64 (j : Int))] ∧ j ≤ k ∧ l_l[k].addr ∉ (l_l.take j).map PeerV.addr) (fun j => k - j) (0) (⟨rfl, by omega, by simp⟩) ?_
        rintro j _ ⟨rfl, hj, hJ⟩
        iterate 2 refine C_seq ?_
        refine C_region (l := [0, 1, 2]) rfl ?_
        iterate 2 refine Y_move ?_
        refine Y_cmp ?_
        refine XD_end ?_
        refine K_then ?_
        refine C_cond rfl (fun hc10 => ?_) (fun hc10 => ?_)
        ·replace hc10 := dT hc10
         (exfalso; omega)
        ·replace hc10 := dF hc10
         refine C_exit ?_
         iterate 2 refine K_exit ?_
         refine K_hit ?_
         refine K_out ?_
         refine K_then ?_
         refine C_region (l := [0, 1, 2]) rfl ?_
         refine Y_move ?_
         refine X_ari rfl rfl rfl rfl rfl (by exact wrap_in (by decide) (by omega)) rfl ?_
         refine Y_assign ?_
         refine XD_end ?_
         refine K_roundS (a' := [(3, _)]) (k + 1) (.cons (k := 3) rfl (.cons (k := 2) rfl (.cons (k := 0) rfl (.nil)))) (fun w hw => by first | exact hw | exact hw.c) ?_ ?_
         ·refine ⟨rfl, by omega, ?_⟩
          have hd := circ_take (l := l_l) (k := k) (by omega); have hj9 : j = k := (by omega); subst hj9; grind
         ·omega
    ·replace hc3 := dF hc3
     refine C_exit ?_
     iterate 2 refine K_exit ?_
     refine K_hit ?_
     refine K_then ?_
     refine Y_pk [2] ?_
     refine C_seq ?_
     refine C_region (l := [0]) rfl ?_
     refine Y_assign ?_
     refine XD_end ?_
     refine K_then ?_
     refine C_ret ?_
     refine K_end (.inr rfl) (.tmp rfl .nil) (fun w hw => ?_)
     refine ⟨_, rfl, (hw.c), ?_⟩
     clear hw
     refine congrArg Value.bool ?_
     (have hk9 : k = l_l.length := (by omega); subst hk9; grind [IsCircle, List.take_length])

theorem Search_ok (M : Mem) (Hin : Hp) (g : FuncId) (caps : List Value) (p : Nat → Bool) (n : Nat) (hn : n ≤ 1000000000) (hok : okFn Tryd.prog g = true) (hc : ∀ i, i < n → Fo Tryd.prog g ([.int .i64 (i : Int)] ++ caps) M Hin (fun M' v => M' = M ∧ v = .bool (p i))) (hmono : ∀ i j, i ≤ j → j < n → p i = true → p j = true) : Fo Tryd.prog 77 [.int .i64 (n : Int), .func (.func g) #[] caps.toArray] M Hin (fun M' v => M' = M ∧ v = .int .i64 (firstP p n : Nat)) := by
  refine fo_enter Tryd.func77 rfl Tryd.ntmps77 rfl ?_; intro H
  refine C_seq ?_
  refine C_region (l := [0]) rfl ?_
  refine Y_assign ?_
  refine XD_end ?_
  refine K_then ?_
  refine C_seq ?_
  refine C_region (l := [0, 1, 2]) rfl ?_
  refine Y_move ?_
  iterate 2 refine Y_assign ?_
  refine XD_end ?_
  refine K_then ?_
  refine Y_pk [6, 5, 4, 1] ?_
  refine C_seq ?_
  refine C_block ?_
  refine Y_pk [5, 6, 4, 1] ?_
  refine C_loopS (.succ (.succ .zero)) (fun (x : Nat × Nat) z => z = [(5, .int .i64 (x.1 : Int)), (6, .int .i64 (x.2 : Int))] ∧ x.1 ≤ x.2 ∧ x.2 ≤ n ∧ (∀ y, y < x.1 → p y = false) ∧ (x.2 < n → p x.2 = true)) (fun x => x.2 - x.1) ((0, n)) (⟨rfl, Nat.zero_le _, Nat.le_refl _, fun y h => (by cases h), fun h => (by omega)⟩) ?_
  rintro ⟨a, b⟩ z ⟨hz, h1, h2, h3, h4⟩
  simp only at hz h1 h2 h3 h4
  subst hz
  iterate 2 refine C_seq ?_
  refine C_region (l := [0, 1, 2]) rfl ?_
  iterate 2 refine Y_move ?_
  refine Y_cmp ?_
  refine XD_end ?_
  refine K_then ?_
  refine C_cond rfl (fun hc1 => ?_) (fun hc1 => ?_)
  ·skip
   replace hc1 := dT hc1
   refine C_skip ?_
   refine K_then ?_
   refine C_block ?_
   refine C_seq ?_
   refine C_region (l := [0, 1, 2, 3, 4, 5, 6]) rfl ?_
   iterate 2 refine Y_move ?_
   refine X_ari rfl rfl rfl rfl rfl (by exact wrap_in (by decide) (by omega)) rfl ?_
   refine X_conv rfl rfl rfl Tryd.underlying3 Tryd.underlying159 (by exact wrap_u64_in (by decide) (by omega)) rfl ?_
   refine X_shift rfl rfl rfl rfl (by decide) (shr_lit 1 (by decide)) rfl rfl ?_
   refine X_conv rfl rfl rfl Tryd.underlying159 Tryd.underlying3 (by exact wrap_in (by decide) (by omega)) rfl ?_
   have e9 : ((a : Int) + (b : Int)) / 2 ^ 1 = (((a + b) / 2 : Nat) : Int) := by omega
   rw [e9]
   refine Y_assign ?_
   refine XD_end ?_
   refine K_then ?_
   refine C_seq ?_
   refine C_region (l := [0, 1, 2, 3]) rfl ?_
   iterate 2 refine Y_move ?_
   have hab : a < b := by omega
   refine X_foV rfl rfl rfl hok rfl rfl (hc ((a + b) / 2) (by omega)) (by repeat first | exact Rem.here _ | exact Rem.two | apply Rem.skip | apply Rem.over) (putE_some rfl) ?_
   rintro _ M1 _ ⟨hM1, rfl⟩; subst M1
   refine Y_not ?_
   refine XD_end ?_
   refine K_then ?_
   refine C_cond rfl (fun hc2 => ?_) (fun hc2 => ?_)
   ·simp only [Bool.not_eq_true', Bool.not_eq_false'] at hc2
    have hP := hc2
    refine C_region (l := [0, 1, 2]) rfl ?_
    refine Y_move ?_
    refine X_ari rfl rfl rfl rfl rfl (by exact wrap_in (by decide) (by omega)) rfl ?_
    refine Y_assign ?_
    refine XD_end ?_
    refine K_out ?_
    refine K_roundS (a' := [(5, _), (6, _)]) (((a + b) / 2 + 1, b)) (.cons (k := 5) rfl (.cons (k := 6) rfl (.cons (k := 4) rfl (.cons (k := 1) rfl (.nil))))) (fun w hw => by first | exact hw | exact hw.c) ?_ ?_
    ·refine ⟨rfl, (by show (a + b) / 2 + 1 ≤ b; omega), h2, fun y hy => ?_, h4⟩
     have hy2 : y < (a + b) / 2 + 1 := hy
     cases hpy : p y with
     |false => rfl
     |true => have := hmono y ((a + b) / 2) (by omega) (by omega) hpy; simp_all
    ·show b - ((a + b) / 2 + 1) < b - a; omega
   ·simp only [Bool.not_eq_true', Bool.not_eq_false'] at hc2
    have hP := hc2
    refine C_region (l := [0, 1]) rfl ?_
    refine Y_move ?_
    refine Y_assign ?_
    refine XD_end ?_
    refine K_out ?_
    refine K_roundS (a' := [(5, _), (6, _)]) ((a, (a + b) / 2)) (.cons (k := 5) rfl (.cons (k := 6) rfl (.cons (k := 4) rfl (.cons (k := 1) rfl (.nil))))) (fun w hw => by first | exact hw | exact hw.c) ?_ ?_
    ·exact ⟨rfl, (by show a ≤ (a + b) / 2; omega), (by show (a + b) / 2 ≤ n; omega), h3, fun _ => by simpa using hP⟩
    ·show (a + b) / 2 - a < b - a; omega
  ·skip
   replace hc1 := dF hc1
   refine C_exit ?_
   iterate 2 refine K_exit ?_
   refine K_hit ?_
   refine K_then ?_
   refine Y_pk [5, 4] ?_
   refine C_seq ?_
   refine C_region (l := [0, 1]) rfl ?_
   refine Y_move ?_
   refine Y_assign ?_
   refine XD_end ?_
   refine K_then ?_
   refine Y_pk [4] ?_
   refine C_ret ?_
   refine K_end (.inr rfl) (.tmp rfl .nil) (fun w hw => ?_)
   refine ⟨_, M, rfl, Mem.le.refl M, hw.c, rfl, ?_⟩
   refine congrArg (Value.int .i64) ?_
   have e : a = b := by omega
   subst e
   exact congrArg Nat.cast (firstP_at h2 h3 h4).symm

theorem own1_ok (M : Mem) (b1 b2 : Nat) (l : Sl PeerV) (x : Plc) (s_l : SlM M l.a (l.l.map PeerV.segs) 21) (i : Nat) (hi : i < l.l.length) : Fo Tryd.prog 78 ([.int .i64 (i : Int)] ++ [.pointer (some ⟨b1, 0, none⟩), .pointer (some ⟨b2, 0, none⟩)]) M [(b2, rowO [idSeg x] 24), (b1, rowO [.one l.val] 51)] (fun M' v => M' = M ∧ v = .bool (pO l.l x i)) := by
  obtain ⟨l_a, l_c, l_l⟩ := l
  simp only at s_l hi
  have n_l : (l_l.map PeerV.segs).length = l_l.length := List.length_map ..
  refine fo_enter Tryd.func78 rfl Tryd.ntmps78 rfl ?_; intro H
  refine C_seq ?_
  refine C_region (l := [0]) rfl ?_
  refine Y_assign ?_
  refine XD_end ?_
  refine K_then ?_
  refine C_seq ?_
  refine C_region_any (l := [0, 1, 2, 3, 4, 5, 6, 7, 8]) #[0, 0, 3, 7, 15, 0, 63, 127, 255] _ rfl (by kernel_rfl) (by kernel_rfl) St.drawn (fun _ h => h) ?_
  refine Y_load F.lay51 ?_
  refine Y_move ?_
  refine X_indexAddr rfl rfl rfl rfl F.elem51 (by rfl) (by omega) (by exact SlM.plain (by assumption) (by (simp; omega))) rfl ?_
  refine X_fieldAddr_el rfl rfl rfl (by exact SlM.plain (by assumption) (by (simp; omega))) F.foff62_1 rfl ?_
  refine X_load_el rfl rfl rfl (by assumption) (by exact row_map (by omega)) F.lay24 rfl rfl rfl ?_
  refine Y_load F.lay24 ?_
  refine X_fs rfl rfl F.ok76 rfl (Less_ok _ _ _) rfl ?_
  rintro _ rfl
  refine Y_not ?_
  refine Y_assign ?_
  refine XD_end ?_
  refine K_then ?_
  refine Y_pk [4] ?_
  refine C_ret ?_
  refine K_end (.inr rfl) (.tmp rfl .nil) (fun w hw => ?_)
  exact ⟨_, M, rfl, Mem.le.refl M, hw.c, rfl, congrArg Value.bool (by rw [pO_at hi]; simp)⟩

theorem owner_ok (M : Mem) (l : (Sl PeerV)) (x : Plc) (hl0 : SlM M (l).a ((l).l.map PeerV.segs) 21) (hl1 : (l).l.length ≤ maxLen) (hc : IsCircle l.l) : Fs Tryd.prog 59 [Sl.val l, aggV [idSeg x]] M (fun v => v = Value.int .i64 (((ownerI l.l x : Nat) : Int))) := by
  obtain ⟨l_a, l_c, l_l⟩ := l
  have s_l : SlM M l_a (l_l.map PeerV.segs) 21 := hl0
  have n_l : (l_l.map PeerV.segs).length = l_l.length := List.length_map ..
  have m_l : l_l.length ≤ 9223372036854775807 := hl1
  have hc1 := hc.1
  simp only at hc1
  refine fs_enter Tryd.func59 rfl Tryd.ntmps59 rfl ?_; intro H
  refine C_seq ?_
  refine C_region (l := [0, 1, 2]) rfl ?_
  refine Y_box ?_; intro b1
  refine Y_box ?_; intro b2
  refine Y_assign ?_
  refine XD_end ?_
  refine K_then ?_
  refine Y_pk [4, 3, 2] ?_
  refine C_seq ?_
  refine C_region_any (l := [0, 1, 2, 3, 4, 5, 6, 7]) #[0, 1, 0, 7, 0, 16, 63, 127] _ rfl (by kernel_rfl) (by kernel_rfl) St.drawn (fun _ h => h) ?_
  refine Y_load F.lay51 ?_
  refine Y_len_sl F.elem51 ?_
  refine X_makeFunc rfl rfl rfl rfl rfl ?_
  refine X_fo rfl rfl F.ok77 rfl (Search_ok _ _ 78 [_, _] (pO l_l x) l_l.length (by omega) F.ok78 (fun i hi => own1_ok M _ _ ⟨l_a, l_c, l_l⟩ x s_l i hi) (pO_mono hc.2)) (by repeat first | exact Rem.here _ | exact Rem.two | apply Rem.skip | apply Rem.over) (putE_some rfl) ?_
  rintro _ M1 _ ⟨hM1, rfl⟩; subst M1
  refine Y_load F.lay51 ?_
  refine Y_len_sl F.elem51 ?_
  refine X_rem rfl rfl rfl rfl (by omega) (by exact rem_nn (by omega)) rfl ?_
  refine Y_assign ?_
  refine XD_end ?_
  refine K_then ?_
  refine Y_pk [4] ?_
  refine C_ret ?_
  refine K_end (.inr rfl) (.tmp rfl .nil) (fun w hw => ?_)
  refine ⟨_, rfl, (hw.c), ?_⟩
  clear hw
  exact congrArg (Value.int .i64) (Int.natCast_emod _ _).symm

theorem Owner_ok (M : Mem) (l : (Sl PeerV)) (x : Plc) (hl0 : SlM M (l).a ((l).l.map PeerV.segs) 21) (hl1 : (l).l.length ≤ maxLen) : Fs Tryd.prog 27 [Sl.val l, aggV [idSeg x]] M (fun v => v = ofII (ownerR l.l x)) := by
  obtain ⟨l_a, l_c, l_l⟩ := l
  have s_l : SlM M l_a (l_l.map PeerV.segs) 21 := hl0
  have n_l : (l_l.map PeerV.segs).length = l_l.length := List.length_map ..
  have m_l : l_l.length ≤ 9223372036854775807 := hl1
  refine fs_enter Tryd.func27 rfl Tryd.ntmps27 rfl ?_; intro H
  refine C_seq ?_
  refine C_region (l := [0, 1, 2]) rfl ?_
  refine Y_box ?_; intro b1
  iterate 2 refine Y_assign ?_
  refine XD_end ?_
  refine K_then ?_
  refine Y_pk [5, 4, 3, 0] ?_
  iterate 2 refine C_seq ?_
  refine C_region (l := [0, 1, 2]) rfl ?_
  refine Y_move ?_
  refine X_fs rfl rfl F.ok58 rfl (Circ_ok _ ⟨_, _, _⟩ (by assumption) (by assumption)) rfl ?_
  rintro _ rfl
  refine Y_not ?_
  refine XD_end ?_
  refine K_then ?_
  refine Y_pk [8, 5, 4, 3, 0] ?_
  refine C_cond rfl (fun hc2 => ?_) (fun hc2 => ?_)
  ·replace hc2 := nT hc2
   simp only [OpV.eta, ClientV.eta, AnswerV.eta, OutcomeV.eta, MarkV.eta, CellV.eta, ParcelV.eta, PostV.eta, PeerV.eta, StepL06V.eta] at hc2
   refine C_seq ?_
   refine C_region (l := [0, 1]) rfl ?_
   iterate 2 refine Y_assign ?_
   refine XD_end ?_
   refine K_then ?_
   refine Y_pk [5, 4, 3, 0] ?_
   refine C_ret ?_
   refine K_ret ?_
   refine K_end (.inr rfl) (.tmp rfl (.tmp rfl .nil)) (fun w hw => ?_)
   refine ⟨_, rfl, (hw.c), ?_⟩
   clear hw
   refine congrArg ofII (a₁ := (_, _)) ?_
   grind [w64, ownerR]
  ·replace hc2 := nF hc2
   simp only [OpV.eta, ClientV.eta, AnswerV.eta, OutcomeV.eta, MarkV.eta, CellV.eta, ParcelV.eta, PostV.eta, PeerV.eta, StepL06V.eta] at hc2
   refine C_skip ?_
   refine K_then ?_
   refine Y_pk [5, 4, 3, 0] ?_
   refine C_seq ?_
   refine C_region (l := [0, 1, 2, 3, 4]) rfl ?_
   refine Y_move ?_
   refine Y_load F.lay24 ?_
   refine X_fs rfl rfl F.ok59 rfl (owner_ok _ ⟨_, _, _⟩ _ (by assumption) (by assumption) (by assumption)) rfl ?_
   rintro _ rfl
   iterate 2 refine Y_assign ?_
   refine XD_end ?_
   refine K_then ?_
   refine Y_pk [5, 4] ?_
   refine C_ret ?_
   refine K_end (.inr rfl) (.tmp rfl (.tmp rfl .nil)) (fun w hw => ?_)
   refine ⟨_, rfl, (hw.c), ?_⟩
   clear hw
   refine congrArg ofII (a₁ := (_, _)) ?_
   grind [w64, ownerR]

theorem rOwner_ok (M : Mem) (l : (Sl PeerV)) (x : Plc) (hl0 : SlM M (l).a ((l).l.map PeerV.segs) 21) (hl1 : (l).l.length ≤ maxLen) : Fs Tryd.prog 55 [Sl.val l, aggV [idSeg x]] M (fun v => v = ofII (ownerR l.l x)) := by
  obtain ⟨l_a, l_c, l_l⟩ := l
  have s_l : SlM M l_a (l_l.map PeerV.segs) 21 := hl0
  have n_l : (l_l.map PeerV.segs).length = l_l.length := List.length_map ..
  have m_l : l_l.length ≤ 9223372036854775807 := hl1
  refine fs_enter Tryd.func55 rfl Tryd.ntmps55 rfl ?_; intro H
  refine C_seq ?_
  refine C_region (l := [0, 1, 2]) rfl ?_
  refine Y_box ?_; intro b1
  iterate 2 refine Y_assign ?_
  refine XD_end ?_
  refine K_then ?_
  refine Y_pk [5, 4, 3, 0] ?_
  iterate 2 refine C_seq ?_
  refine C_region (l := [0, 1, 2]) rfl ?_
  refine Y_move ?_
  refine X_fs rfl rfl F.ok54 rfl (rCirc_ok _ ⟨_, _, _⟩ (by assumption) (by assumption)) rfl ?_
  rintro _ rfl
  refine Y_not ?_
  refine XD_end ?_
  refine K_then ?_
  refine Y_pk [9, 5, 4, 3, 0] ?_
  refine C_cond rfl (fun hc2 => ?_) (fun hc2 => ?_)
  ·replace hc2 := nT hc2
   simp only [OpV.eta, ClientV.eta, AnswerV.eta, OutcomeV.eta, MarkV.eta, CellV.eta, ParcelV.eta, PostV.eta, PeerV.eta, StepL06V.eta] at hc2
   refine C_seq ?_
   refine C_region (l := [0, 1]) rfl ?_
   iterate 2 refine Y_assign ?_
   refine XD_end ?_
   refine K_then ?_
   refine Y_pk [5, 4, 3, 0] ?_
   refine C_ret ?_
   refine K_ret ?_
   refine K_end (.inr rfl) (.tmp rfl (.tmp rfl .nil)) (fun w hw => ?_)
   refine ⟨_, rfl, (hw.c), ?_⟩
   clear hw
   refine congrArg ofII (a₁ := (_, _)) ?_
   grind [ownerR]
  ·replace hc2 := nF hc2
   simp only [OpV.eta, ClientV.eta, AnswerV.eta, OutcomeV.eta, MarkV.eta, CellV.eta, ParcelV.eta, PostV.eta, PeerV.eta, StepL06V.eta] at hc2
   refine C_skip ?_
   refine K_then ?_
   refine Y_pk [5, 4, 3, 0] ?_
   iterate 2 refine C_seq ?_
   refine C_region (l := [0]) rfl ?_
   refine Y_assign ?_
   refine XD_end ?_
   refine K_then ?_
   refine C_block ?_
   refine Y_pk [6, 5, 4, 3, 0] ?_
   refine C_loopS (.succ .zero) (fun (k : Nat) z => z = [(6, .int .i64 (k : Int))] ∧ k ≤ l_l.length ∧ (IsCircle l_l ∧ ∀ j, j < k → pO l_l x j = false)) (fun k => l_l.length - k) (0) (⟨rfl, by omega, by (refine ⟨by assumption, ?_⟩; intro j hj; omega)⟩) ?_
   rintro k _ ⟨rfl, hk, hI⟩
   iterate 2 refine C_seq ?_
   refine C_region (l := [0, 1, 2, 3]) rfl ?_
   iterate 2 refine Y_move ?_
   refine Y_len_sl F.elem51 ?_
   refine Y_cmp ?_
   refine XD_end ?_
   refine K_then ?_
   refine C_cond rfl (fun hc3 => ?_) (fun hc3 => ?_)
   ·replace hc3 := dT hc3
    refine C_skip ?_
    refine K_then ?_
    refine C_seq ?_
    refine C_block ?_
    refine C_seq ?_
    refine C_region_any (l := [0, 1, 2, 3, 4, 5, 6, 7]) #[0, 0, 3, 7, 15, 0, 63, 127] _ rfl (by kernel_rfl) (by kernel_rfl) St.drawn (fun _ h => h) ?_
    iterate 2 refine Y_move ?_
    refine X_indexAddr rfl rfl rfl rfl F.elem51 (by rfl) (by omega) (by exact SlM.plain (by assumption) (by (simp; omega))) rfl ?_
    refine X_fieldAddr_el rfl rfl rfl (by exact SlM.plain (by assumption) (by (simp; omega))) F.foff62_1 rfl ?_
    refine X_load_el rfl rfl rfl (by assumption) (by exact row_map (by omega)) F.lay24 rfl rfl rfl ?_
    refine Y_load F.lay24 ?_
    refine X_fs rfl rfl F.ok70 rfl (rLess_ok _ _ _) rfl ?_
    rintro _ rfl
    refine Y_not ?_
    refine XD_end ?_
    refine K_then ?_
    refine C_cond rfl (fun hc4 => ?_) (fun hc4 => ?_)
    ·replace hc4 := nT hc4
     refine C_seq ?_
     refine C_region (l := [0, 1, 2]) rfl ?_
     refine Y_move ?_
     iterate 2 refine Y_assign ?_
     refine XD_end ?_
     refine K_then ?_
     refine C_ret ?_
     refine K_retB ?_
     iterate 2 refine K_ret ?_
     refine K_retB ?_
     refine K_ret ?_
     refine K_end (.inr rfl) (.tmp rfl (.tmp rfl .nil)) (fun w hw => ?_)
     refine ⟨_, rfl, (hw.c), ?_⟩
     clear hw
     refine congrArg ofII (a₁ := (_, _)) ?_
     (have h9 := ownerI_at (l := l_l) (x := x) (k := k) (by omega) hI.2 (by rw [pO_at (by omega)]; simp_all); grind [ownerR])
    ·replace hc4 := nF hc4
     refine C_skip ?_
     refine K_out ?_
     refine K_then ?_
     refine C_region (l := [0, 1, 2]) rfl ?_
     refine Y_move ?_
     refine X_ari rfl rfl rfl rfl rfl (by exact wrap_in (by decide) (by omega)) rfl ?_
     refine Y_assign ?_
     refine XD_end ?_
     refine K_roundS (a' := [(6, _)]) (k + 1) (.cons (k := 6) rfl (.cons (k := 5) rfl (.cons (k := 4) rfl (.cons (k := 3) rfl (.cons (k := 0) rfl (.nil)))))) (fun w hw => by first | exact hw | exact hw.c) ?_ ?_
     ·refine ⟨rfl, by omega, ?_⟩
      refine ⟨hI.1, ?_⟩; intro j hj; rcases Nat.lt_or_ge j k with h9 | h9; exact hI.2 j h9; obtain rfl : j = k := by omega
      rw [pO_at (by omega)]; simp_all
     ·omega
   ·replace hc3 := dF hc3
    refine C_exit ?_
    iterate 2 refine K_exit ?_
    refine K_hit ?_
    refine K_then ?_
    refine Y_pk [5, 4] ?_
    refine C_seq ?_
    refine C_region (l := [0, 1]) rfl ?_
    iterate 2 refine Y_assign ?_
    refine XD_end ?_
    refine K_then ?_
    refine C_ret ?_
    refine K_end (.inr rfl) (.tmp rfl (.tmp rfl .nil)) (fun w hw => ?_)
    refine ⟨_, rfl, (hw.c), ?_⟩
    clear hw
    refine congrArg ofII (a₁ := (_, _)) ?_
    (have hk9 : k = l_l.length := (by omega); subst hk9; have h9 := ownerI_none hI.2; grind [ownerR])

end Go.Proofs.YtelpkhhfjfbkcaaDoor
