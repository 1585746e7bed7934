/-
  Places, circles.
-/
import Derived.Test.YtelpkhhfjfbkcaaDoorC3
import Derived.Test.YtelpkhhfjfbkcaaDoorCircleM
set_option linter.unusedSimpArgs false
set_option linter.unusedVariables false
set_option linter.unnecessarySimpa false
set_option maxRecDepth 8000
namespace Go.Proofs.YtelpkhhfjfbkcaaDoor
open Go.Esp
theorem F.elem130 : slOf Tryd.prog 130 = some (3, 1, 8) := by kernel_rfl
theorem F.elem51 : slOf Tryd.prog 51 = some (62, 21, 32) := by kernel_rfl
theorem F.ext93 : Ext Tryd.prog 93 Extern.BytealgCompare.compare := fun args w => by kernel_rfl
theorem F.foff62_0 : foff Tryd.prog 62 0 = some 0 := by kernel_rfl
theorem F.foff62_1 : foff Tryd.prog 62 1 = some 1 := by kernel_rfl
theorem F.lay5 : lay Tryd.prog 5 = some (false, 1) := by kernel_rfl
theorem F.lay62 : lay Tryd.prog 62 = some (true, 21) := by kernel_rfl
theorem F.ok75 : okFn Tryd.prog 75 = true := by kernel_rfl
theorem F.ok76 : okFn Tryd.prog 76 = true := by kernel_rfl
theorem F.ok88 : okFn Tryd.prog 88 = true := by kernel_rfl
theorem F.ok89 : okFn Tryd.prog 89 = true := by kernel_rfl
theorem F.zero3 : zeroOf Tryd.prog 3 = some ((.int .i64 0)) := by kernel_rfl
theorem F.zero62 : zeroOf Tryd.prog 62 = some (aggV [.one (.int .i64 0), idSeg 0]) := by rw [idSeg0]; kernel_rfl

theorem bcmp_ok (M : Mem) (ba bb : Nat) (a b : Plc) : Fo Tryd.prog 89 [.slice (some ⟨ba, 0, none⟩) 20 20, .slice (some ⟨bb, 0, none⟩) 20 20] M [(bb, rowO [idSeg b] 24), (ba, rowO [idSeg a] 24)] (fun M' v => M' = M ∧ v = .int .i64 (cmpP a b)) := by
  refine fo_enter Tryd.func89 rfl Tryd.ntmps89 rfl ?_; intro H
  refine C_seq ?_
  refine C_region (l := [0]) rfl ?_
  refine Y_assign ?_
  refine XD_end ?_
  refine K_then ?_
  refine C_seq ?_
  refine C_region (l := [0, 1, 2, 3]) rfl ?_
  iterate 2 refine Y_move ?_
  refine X_ext rfl rfl F.ext93 rfl (fun w hw => run_compare (hw.own _ _ (by repeat first | exact List.Mem.head _ | refine List.Mem.tail _ ?_ | refine List.mem_append_right _ ?_)) (hw.own _ _ (by repeat first | exact List.Mem.head _ | refine List.Mem.tail _ ?_ | refine List.mem_append_right _ ?_))) rfl ?_
  refine Y_assign ?_
  refine XD_end ?_
  refine K_then ?_
  refine Y_pk [4] ?_
  refine C_ret ?_
  refine K_end (.inr rfl) (.tmp rfl .nil) (fun w hw => ?_)
  exact ⟨_, M, rfl, Mem.le.refl M, hw.c, rfl, rfl⟩

theorem Less_ok (M : Mem) (a : Plc) (b : Plc) : Fs Tryd.prog 76 [aggV [idSeg a], aggV [idSeg b]] M (fun v => v = Value.bool (decide (LessP a b))) := by
  refine fs_enter Tryd.func76 rfl Tryd.ntmps76 rfl ?_; intro H
  refine C_seq ?_
  refine C_region (l := [0, 1, 2]) rfl ?_
  refine Y_box ?_; intro b1
  refine Y_box ?_; intro b2
  refine Y_assign ?_
  refine XD_end ?_
  refine K_then ?_
  refine Y_pk [4, 3, 2] ?_
  refine C_seq ?_
  refine C_region_any (l := [0, 1, 2, 3, 4]) #[0, 0, 3, 7, 15] _ rfl (by kernel_rfl) (by kernel_rfl) St.drawn (fun _ h => h) ?_
  iterate 2 refine X_slice_arr rfl rfl rfl F.arr24 rfl ?_
  refine X_fo rfl rfl F.ok89 rfl (bcmp_ok _ _ _ a b) (by repeat first | exact Rem.here _ | exact Rem.two | apply Rem.skip | apply Rem.over) (putE_some rfl) ?_
  rintro _ M1 _ ⟨hM1, rfl⟩; subst M1
  refine Y_cmp ?_
  refine Y_assign ?_
  refine XD_end ?_
  refine K_then ?_
  refine Y_pk [4] ?_
  refine C_ret ?_
  refine K_end (.inr rfl) (.tmp rfl .nil) (fun w hw => ?_)
  refine ⟨_, rfl, (hw.c), ?_⟩
  clear hw
  exact congrArg Value.bool (decide_eq_decide.2 cmpP_neg)

theorem rLess_ok (M : Mem) (a : Plc) (b : Plc) : Fs Tryd.prog 70 [aggV [idSeg a], aggV [idSeg b]] M (fun v => v = Value.bool (decide (LessP a b))) := by
  refine fs_enter Tryd.func70 rfl Tryd.ntmps70 rfl ?_; intro H
  refine C_seq ?_
  refine C_region (l := [0, 1, 2]) rfl ?_
  refine Y_box ?_; intro b1
  refine Y_box ?_; intro b2
  refine Y_assign ?_
  refine XD_end ?_
  refine K_then ?_
  refine Y_pk [4, 3, 2] ?_
  iterate 2 refine C_seq ?_
  refine C_region (l := [0]) rfl ?_
  refine Y_assign ?_
  refine XD_end ?_
  refine K_then ?_
  refine C_block ?_
  refine Y_pk [5, 4, 3, 2] ?_
  refine C_loopS (.succ .zero) (fun (k : Nat) z => z = [(5, .int .i64 (k : Int))] ∧ k ≤ 20 ∧ (∀ j, j < k → idB a j = idB b j)) (fun k => 20 - k) (0) (⟨rfl, by omega, by (intro j hj; omega)⟩) ?_
  rintro k _ ⟨rfl, hk, hI⟩
  iterate 2 refine C_seq ?_
  refine C_region (l := [0, 1]) rfl ?_
  refine Y_move ?_
  refine Y_cmp ?_
  refine XD_end ?_
  refine K_then ?_
  refine C_cond rfl (fun hc3 => ?_) (fun hc3 => ?_)
  ·replace hc3 := dT hc3
   refine C_skip ?_
   refine K_then ?_
   refine C_seq ?_
   refine C_block ?_
   refine C_seq ?_
   refine C_region_any (l := [0, 1, 2, 3, 4, 5, 6]) #[0, 1, 3, 0, 8, 24, 63] _ rfl (by kernel_rfl) (by kernel_rfl) St.drawn (fun _ h => h) ?_
   refine Y_move ?_
   refine X_indexAddr_arr rfl rfl rfl rfl F.arr24 (by rfl) (by omega) rfl ?_
   refine X_load_cell rfl rfl rfl (by repeat first | exact List.Mem.head _ | refine List.Mem.tail _ ?_ | refine List.mem_append_right _ ?_) F.lay5 (by exact id_at (by omega)) rfl ?_
   refine Y_move ?_
   refine X_indexAddr_arr rfl rfl rfl rfl F.arr24 (by rfl) (by omega) rfl ?_
   refine X_load_cell rfl rfl rfl (by repeat first | exact List.Mem.head _ | refine List.Mem.tail _ ?_ | refine List.mem_append_right _ ?_) F.lay5 (by exact id_at (by omega)) rfl ?_
   refine Y_cmp ?_
   refine XD_end ?_
   refine K_then ?_
   refine C_cond rfl (fun hc4 => ?_) (fun hc4 => ?_)
   ·replace hc4 := nT hc4
    refine C_seq ?_
    refine C_region_any (l := [0, 1, 2, 3, 4, 5, 6, 7]) #[0, 1, 3, 0, 8, 24, 63, 127] _ rfl (by kernel_rfl) (by kernel_rfl) St.drawn (fun _ h => h) ?_
    refine Y_move ?_
    refine X_indexAddr_arr rfl rfl rfl rfl F.arr24 (by rfl) (by omega) rfl ?_
    refine X_load_cell rfl rfl rfl (by repeat first | exact List.Mem.head _ | refine List.Mem.tail _ ?_ | refine List.mem_append_right _ ?_) F.lay5 (by exact id_at (by omega)) rfl ?_
    refine Y_move ?_
    refine X_indexAddr_arr rfl rfl rfl rfl F.arr24 (by rfl) (by omega) rfl ?_
    refine X_load_cell rfl rfl rfl (by repeat first | exact List.Mem.head _ | refine List.Mem.tail _ ?_ | refine List.mem_append_right _ ?_) F.lay5 (by exact id_at (by omega)) rfl ?_
    refine Y_cmp ?_
    refine Y_assign ?_
    refine XD_end ?_
    refine K_then ?_
    refine C_ret ?_
    refine K_retB ?_
    iterate 2 refine K_ret ?_
    refine K_retB ?_
    refine K_ret ?_
    refine K_end (.inr rfl) (.tmp rfl .nil) (fun w hw => ?_)
    refine ⟨_, rfl, (hw.c), ?_⟩
    clear hw
    refine congrArg Value.bool ?_
    exact decide_eq_decide.2 ((Int.ofNat_lt).trans (less_at (by omega) hI (by omega)).symm)
   ·replace hc4 := nF hc4
    refine C_skip ?_
    refine K_out ?_
    refine K_then ?_
    refine C_region (l := [0, 1, 2]) rfl ?_
    refine Y_move ?_
    refine X_ari rfl rfl rfl rfl rfl (by exact wrap_in (by decide) (by omega)) rfl ?_
    refine Y_assign ?_
    refine XD_end ?_
    refine K_roundS (a' := [(5, _)]) (k + 1) (.cons (k := 5) rfl (.cons (k := 4) rfl (.cons (k := 3) rfl (.cons (k := 2) rfl (.nil))))) (fun w hw => by first | exact hw | exact hw.c) ?_ ?_
    ·refine ⟨rfl, by omega, ?_⟩
     intro j hj; rcases Nat.lt_or_ge j k with h9 | h9; exact hI j h9; obtain rfl : j = k := by omega
     omega
    ·omega
  ·replace hc3 := dF hc3
   refine C_exit ?_
   iterate 2 refine K_exit ?_
   refine K_hit ?_
   refine K_then ?_
   refine Y_pk [4] ?_
   refine C_seq ?_
   refine C_region (l := [0]) rfl ?_
   refine Y_assign ?_
   refine XD_end ?_
   refine K_then ?_
   refine C_ret ?_
   refine K_end (.inr rfl) (.tmp rfl .nil) (fun w hw => ?_)
   refine ⟨_, rfl, (hw.c), ?_⟩
   clear hw
   refine congrArg Value.bool ?_
   (have e : a = b := plc_eq (fun j hj => hI j (by omega)); subst e; simp [LessP])

theorem IndexI_rd (M : Mem) (Hin : Hp) (l : Sl Int) (x : Int) (hl : RdS M Hin l.a (l.l.map (oneI .i64)) 1) (bl : l.l.length ≤ 9223372036854775807) : Fo Tryd.prog 88 [l.val, .int .i64 x] M Hin (fun M' v => M' = M ∧ v = .int .i64 (idxI x l.l)) := by
  have nl : (l.l.map (oneI .i64)).length = l.l.length := List.length_map ..
  refine fo_enter Tryd.func88 rfl Tryd.ntmps88 rfl ?_; intro H
  have hrd := hl.app H
  refine C_seq ?_
  refine C_region (l := [0]) rfl ?_
  refine Y_assign ?_
  refine XD_end ?_
  refine K_then ?_
  iterate 2 refine C_seq ?_
  refine C_region (l := [0, 1, 2]) rfl ?_
  refine Y_move ?_
  refine Y_len_sl F.elem130 ?_
  refine Y_move ?_
  refine XD_end ?_
  refine K_then ?_
  refine Y_pk [8, 7, 4, 0, 1] ?_
  refine C_block ?_
  refine Y_pk [8, 7, 4, 0, 1] ?_
  refine C_loopS (.succ .zero) (fun (k : Nat) z => z = [(8, .int .i64 (k : Int))] ∧ k ≤ l.l.length ∧ (x ∉ l.l.take k)) (fun k => l.l.length - k) (0) (⟨rfl, by omega, by simp⟩) ?_
  rintro k _ ⟨rfl, hk, hI⟩
  refine C_seq ?_
  refine C_region (l := [0]) rfl ?_
  refine Y_cmp ?_
  refine XD_end ?_
  refine K_then ?_
  refine C_seq ?_
  refine C_cond rfl (fun hc1 => ?_) (fun hc1 => ?_)
  ·replace hc1 := dT hc1
   refine C_skip ?_
   refine K_then ?_
   refine C_seq ?_
   refine C_block ?_
   refine C_seq ?_
   refine C_region (l := [0, 1]) rfl ?_
   refine Y_move ?_
   refine Y_assign ?_
   refine XD_end ?_
   refine K_then ?_
   refine C_seq ?_
   refine C_region (l := [0, 1, 2, 3, 4, 5]) rfl ?_
   iterate 3 refine Y_move ?_
   refine X_indexAddr rfl rfl rfl rfl F.elem130 (by rfl) (by omega) (by exact RdS.plain (by assumption) (by (simp; omega))) rfl ?_
   refine X_load_rd rfl rfl rfl (by assumption) (by exact row_map (by omega)) F.lay3 rfl rfl rfl ?_
   refine Y_cmp ?_
   refine XD_end ?_
   refine K_then ?_
   refine C_cond rfl (fun hc2 => ?_) (fun hc2 => ?_)
   ·replace hc2 := dT hc2
    refine C_seq ?_
    refine C_region (l := [0, 1]) rfl ?_
    refine Y_move ?_
    refine Y_assign ?_
    refine XD_end ?_
    refine K_then ?_
    refine C_ret ?_
    refine K_retB ?_
    iterate 2 refine K_ret ?_
    refine K_retB ?_
    refine K_ret ?_
    refine K_end (.inr rfl) (.tmp rfl .nil) (fun w hw => ?_)
    refine ⟨_, M, rfl, Mem.le.refl M, hw.c, rfl, ?_⟩
    refine congrArg (Value.int .i64) ?_
    exact (idxI_at (by omega) hI (by assumption)).symm
   ·replace hc2 := dF hc2
    refine C_skip ?_
    refine K_out ?_
    refine K_then ?_
    refine C_region (l := [0, 1]) rfl ?_
    refine X_ari rfl rfl rfl rfl rfl (by exact wrap_in (by decide) (by omega)) rfl ?_
    refine Y_move ?_
    refine XD_end ?_
    refine K_roundS (a' := [(8, _)]) (k + 1) (.cons (k := 8) rfl (.cons (k := 7) rfl (.cons (k := 4) rfl (.cons (k := 0) rfl (.cons (k := 1) rfl (.nil)))))) (fun w hw => by first | exact hw | exact hw.c) ?_ ?_
    ·refine ⟨rfl, by omega, ?_⟩
     exact not_take_succ (by omega) hI (by assumption)
    ·omega
  ·replace hc1 := dF hc1
   refine C_exit ?_
   iterate 2 refine K_exit ?_
   refine K_hit ?_
   refine K_then ?_
   refine Y_pk [4] ?_
   refine C_seq ?_
   refine C_region (l := [0]) rfl ?_
   refine Y_assign ?_
   refine XD_end ?_
   refine K_then ?_
   refine C_ret ?_
   refine K_end (.inr rfl) (.tmp rfl .nil) (fun w hw => ?_)
   refine ⟨_, M, rfl, Mem.le.refl M, hw.c, rfl, ?_⟩
   refine congrArg (Value.int .i64) ?_
   (have hk9 : k = l.l.length := (by omega); subst hk9; rw [List.take_length] at hI; exact (idxI_none hI).symm)

theorem ContainsI_rd (M : Mem) (Hin : Hp) (l : Sl Int) (x : Int) (hl : RdS M Hin l.a (l.l.map (oneI .i64)) 1) (bl : l.l.length ≤ 9223372036854775807) : Fo Tryd.prog 75 [l.val, .int .i64 x] M Hin (fun M' v => M' = M ∧ v = .bool (decide (x ∈ l.l))) := by
  refine fo_enter Tryd.func75 rfl Tryd.ntmps75 rfl ?_; intro H
  refine C_seq ?_
  refine C_region (l := [0]) rfl ?_
  refine Y_assign ?_
  refine XD_end ?_
  refine K_then ?_
  refine C_seq ?_
  refine C_region (l := [0, 1, 2, 3, 4]) rfl ?_
  iterate 2 refine Y_move ?_
  refine X_fo rfl rfl F.ok88 rfl (IndexI_rd _ Hin ⟨_, _, _⟩ _ hl bl) (by repeat first | exact Rem.here _ | exact Rem.two | apply Rem.skip | apply Rem.over) (putE_some rfl) ?_
  rintro _ M1 _ ⟨hM1, rfl⟩; subst M1
  refine Y_cmp ?_
  refine Y_assign ?_
  refine XD_end ?_
  refine K_then ?_
  refine Y_pk [4] ?_
  refine C_ret ?_
  refine K_end (.inr rfl) (.tmp rfl .nil) (fun w hw => ?_)
  exact ⟨_, M, rfl, Mem.le.refl M, hw.c, rfl, congrArg Value.bool (by simp [idxI_nn])⟩

theorem IndexI_ok (M : Mem) (l : Sl Int) (x : Int) (hl : SlM M l.a (l.l.map (oneI .i64)) 1) (bl : l.l.length ≤ maxLen) : Fs Tryd.prog 88 [l.val, .int .i64 x] M (fun v => v = .int .i64 (idxI x l.l)) :=
  fs_of_fo (IndexI_rd M [] l x (hl.rd []) bl)

theorem ContainsI_ok (M : Mem) (l : Sl Int) (x : Int) (hl : SlM M l.a (l.l.map (oneI .i64)) 1) (bl : l.l.length ≤ maxLen) : Fs Tryd.prog 75 [l.val, .int .i64 x] M (fun v => v = .bool (decide (x ∈ l.l))) :=
  fs_of_fo (ContainsI_rd M [] l x (hl.rd []) bl)

theorem Circ_ok (M : Mem) (l : (Sl PeerV)) (hl0 : SlM M (l).a ((l).l.map PeerV.segs) 21) (hl1 : (l).l.length ≤ maxLen) : Fs Tryd.prog 58 [Sl.val l] M (fun v => v = Value.bool (decide (IsCircle l.l))) := by
  obtain ⟨l_a, l_c, l_l⟩ := l
  have s_l : SlM M l_a (l_l.map PeerV.segs) 21 := hl0
  have n_l : (l_l.map PeerV.segs).length = l_l.length := List.length_map ..
  have m_l : l_l.length ≤ 9223372036854775807 := hl1
  refine fs_enter Tryd.func58 rfl Tryd.ntmps58 rfl ?_; intro H
  refine C_seq ?_
  refine C_region (l := [0]) rfl ?_
  refine Y_assign ?_
  refine XD_end ?_
  refine K_then ?_
  iterate 2 refine C_seq ?_
  refine C_region (l := [0, 1, 2, 3, 4, 5, 6, 7]) rfl ?_
  refine Y_move ?_
  refine Y_len_sl F.elem51 ?_
  refine Y_cmp ?_
  refine Y_move ?_
  refine XD_part 9 rfl (fun hc1 => ?_) (fun hc1 => ?_)
  ·replace hc1 := dT hc1
   iterate 3 refine Y_skip ?_
   refine Y_pick ?_
   refine XD_end ?_
   refine K_then ?_
   refine Y_pk [13, 2, 0] ?_
   refine C_true rfl ?_
   refine C_seq ?_
   refine C_region (l := [0]) rfl ?_
   refine Y_assign ?_
   refine XD_end ?_
   refine K_then ?_
   refine Y_pk [2, 0] ?_
   refine C_ret ?_
   refine K_ret ?_
   refine K_end (.inr rfl) (.tmp rfl .nil) (fun w hw => ?_)
   refine ⟨_, rfl, (hw.c), ?_⟩
   clear hw
   refine congrArg Value.bool ?_
   grind [IsCircle]
  ·replace hc1 := dF hc1
   refine Y_move ?_
   refine Y_len_sl F.elem51 ?_
   refine Y_cmp ?_
   refine Y_pick ?_
   refine XD_end ?_
   refine K_then ?_
   refine Y_pk [13, 2, 0] ?_
   refine C_cond rfl (fun hc2 => ?_) (fun hc2 => ?_)
   ·replace hc2 := dT hc2
    refine C_seq ?_
    refine C_region (l := [0]) rfl ?_
    refine Y_assign ?_
    refine XD_end ?_
    refine K_then ?_
    refine Y_pk [2, 0] ?_
    refine C_ret ?_
    refine K_ret ?_
    refine K_end (.inr rfl) (.tmp rfl .nil) (fun w hw => ?_)
    refine ⟨_, rfl, (hw.c), ?_⟩
    clear hw
    refine congrArg Value.bool ?_
    grind [IsCircle]
   ·replace hc2 := dF hc2
    refine C_skip ?_
    refine K_then ?_
    refine Y_pk [2, 0] ?_
    refine C_seq ?_
    refine C_region (l := [0]) rfl ?_
    refine Y_assign ?_
    refine XD_end ?_
    refine K_then ?_
    iterate 2 refine C_seq ?_
    refine C_region (l := [0, 1, 2]) rfl ?_
    refine Y_move ?_
    refine Y_len_sl F.elem51 ?_
    refine Y_move ?_
    refine XD_end ?_
    refine K_then ?_
    refine C_block ?_
    refine Y_pk [16, 3, 15, 14, 2, 0] ?_
    refine C_loopO (Hin := []) (.succ (.succ .zero)) (by repeat first | exact Rem.here _ | exact Rem.two | apply Rem.skip | apply Rem.over) (fun (k : Nat) M1 h1 z => ∃ v, M1 = M ∧ z = [(16, .int .i64 (k : Int)), (3, v)] ∧ k ≤ l_l.length ∧ CircOk (l_l.take k) ∧ OSl 3 1 v h1 (((l_l.take k).map PeerV.addr).map (oneI .i64))) (fun k => l_l.length - k) (0) (⟨_, rfl, rfl, by omega, by simp [CircOk], OSl.nil⟩) ?_
    rintro k M1 h1 z hm1 ⟨v1, hM1, rfl, hk, hI, ho⟩
    subst hM1
    obtain ⟨ad1, cp1, rfl⟩ := ho.valL
    have hlk : (l_l.take k).length = k := by rw [List.length_take]; omega
    have hlm : (((l_l.take k).map PeerV.addr).map (oneI .i64)).length = k := by simp; omega
    refine C_seq ?_
    refine C_region (l := [0]) rfl ?_
    refine Y_cmp ?_
    refine XD_end ?_
    refine K_then ?_
    refine C_seq ?_
    refine C_cond rfl (fun hc3 => ?_) (fun hc3 => ?_)
    ·replace hc3 := dT hc3
     refine C_skip ?_
     refine K_then ?_
     refine C_seq ?_
     refine C_block ?_
     refine C_seq ?_
     refine C_region (l := [0, 1, 2, 3, 4, 5]) rfl ?_
     refine Y_move ?_
     refine X_indexAddr rfl rfl rfl rfl F.elem51 (by rfl) (by omega) (by exact SlM.plain (by assumption) (by (simp; omega))) rfl ?_
     refine X_load_el rfl rfl rfl (by assumption) (by exact row_map (by omega)) F.lay62 rfl rfl rfl ?_
     refine Y_alloc F.zero62 ?_; intro b4
     refine Y_assign ?_
     refine Y_store F.lay62 ?_
     refine XD_end ?_
     refine K_then ?_
     iterate 2 refine C_seq ?_
     refine C_region_any (l := [0, 1, 2, 3, 4, 5, 6, 7, 8, 9, 10, 11, 12, 13, 14, 15, 16, 17, 18, 19, 20, 21, 22, 23, 24, 25, 26, 27, 28, 29]) #[0, 1, 3, 7, 15, 31, 63, 127, 255, 511, 511, 1535, 4095, 8191, 16383, 32767, 65535, 131071, 262143, 262143, 786431, 2097151, 4194303, 8388607, 262143, 17039359, 67108863, 134217727, 268435455, 536870911] _ rfl (by kernel_rfl) (by kernel_rfl) St.drawn (fun _ h => h) ?_
     refine Y_fieldAddr F.foff62_0 ?_
     refine Y_load F.lay3 ?_
     refine Y_cmp ?_
     refine Y_move ?_
     refine XD_part 24 rfl (fun hc5 => ?_) (fun hc5 => ?_)
     ·replace hc5 := dT hc5
      iterate 3 refine Y_skip ?_
      refine Y_pick ?_
      refine Y_move ?_
      iterate 4 refine Y_skip ?_
      refine Y_pick ?_
      refine Y_move ?_
      iterate 14 refine Y_skip ?_
      refine Y_pick ?_
      refine XD_end ?_
      refine K_then ?_
      refine C_true rfl ?_
      refine C_seq ?_
      refine C_region (l := [0]) rfl ?_
      refine Y_assign ?_
      refine XD_end ?_
      refine K_then ?_
      refine C_ret ?_
      refine K_ret ?_
      refine K_retB ?_
      iterate 2 refine K_ret ?_
      refine K_retB ?_
      refine K_ret ?_
      refine K_end (.inr rfl) (.tmp rfl .nil) (fun w hw => ?_)
      refine ⟨_, rfl, (hw.c), ?_⟩
      clear hw
      refine congrArg Value.bool ?_
      (have hd := circ_take (l := l_l) (k := k) (by omega); have hp := circ_pre (l := l_l); grind [IsCircle])
     ·replace hc5 := dF hc5
      refine Y_fieldAddr F.foff62_0 ?_
      refine Y_load F.lay3 ?_
      refine Y_cmp ?_
      refine Y_pick ?_
      refine Y_move ?_
      refine XD_part 29 rfl (fun hc6 => ?_) (fun hc6 => ?_)
      ·replace hc6 := dT hc6
       iterate 4 refine Y_skip ?_
       refine Y_pick ?_
       refine Y_move ?_
       iterate 14 refine Y_skip ?_
       refine Y_pick ?_
       refine XD_end ?_
       refine K_then ?_
       refine C_true rfl ?_
       refine C_seq ?_
       refine C_region (l := [0]) rfl ?_
       refine Y_assign ?_
       refine XD_end ?_
       refine K_then ?_
       refine C_ret ?_
       refine K_ret ?_
       refine K_retB ?_
       iterate 2 refine K_ret ?_
       refine K_retB ?_
       refine K_ret ?_
       refine K_end (.inr rfl) (.tmp rfl .nil) (fun w hw => ?_)
       refine ⟨_, rfl, (hw.c), ?_⟩
       clear hw
       refine congrArg Value.bool ?_
       (have hd := circ_take (l := l_l) (k := k) (by omega); have hp := circ_pre (l := l_l); grind [IsCircle])
      ·replace hc6 := dF hc6
       refine Y_move ?_
       refine Y_fieldAddr F.foff62_0 ?_
       refine Y_load F.lay3 ?_
       refine X_fo rfl rfl F.ok75 rfl (ContainsI_rd _ h1 ⟨ad1, cp1, (l_l.take k).map PeerV.addr⟩ _ (ho.rd _) (by simp; omega)) (by repeat first | exact Rem.here _ | exact Rem.two | apply Rem.skip | apply Rem.over) (putE_some rfl) ?_
       rintro _ M1 _ ⟨hM1, rfl⟩; subst M1
       refine Y_pick ?_
       refine Y_move ?_
       refine XD_part 35 rfl (fun hc7 => ?_) (fun hc7 => ?_)
       ·replace hc7 := dT hc7
        simp only [OpV.eta, ClientV.eta, AnswerV.eta, OutcomeV.eta, MarkV.eta, CellV.eta, ParcelV.eta, PostV.eta, PeerV.eta, StepL06V.eta] at hc7
        iterate 14 refine Y_skip ?_
        refine Y_pick ?_
        refine XD_end ?_
        refine K_then ?_
        refine C_true rfl ?_
        refine C_seq ?_
        refine C_region (l := [0]) rfl ?_
        refine Y_assign ?_
        refine XD_end ?_
        refine K_then ?_
        refine C_ret ?_
        refine K_ret ?_
        refine K_retB ?_
        iterate 2 refine K_ret ?_
        refine K_retB ?_
        refine K_ret ?_
        refine K_end (.inr rfl) (.tmp rfl .nil) (fun w hw => ?_)
        refine ⟨_, rfl, (hw.c), ?_⟩
        clear hw
        refine congrArg Value.bool ?_
        (have hd := circ_take (l := l_l) (k := k) (by omega); have hp := circ_pre (l := l_l); grind [IsCircle])
       ·replace hc7 := dF hc7
        simp only [OpV.eta, ClientV.eta, AnswerV.eta, OutcomeV.eta, MarkV.eta, CellV.eta, ParcelV.eta, PostV.eta, PeerV.eta, StepL06V.eta] at hc7
        refine Y_move ?_
        refine Y_cmp ?_
        refine Y_move ?_
        refine XD_part 38 rfl (fun hc8 => ?_) (fun hc8 => ?_)
        ·replace hc8 := dT hc8
         iterate 2 refine Y_move ?_
         refine X_ari rfl rfl rfl rfl rfl (by exact wrap_in (by decide) (by omega)) rfl ?_
         refine X_indexAddr rfl rfl rfl rfl F.elem51 (by exact (Int.toNat_of_nonneg (by omega)).symm) (by omega) (by exact SlM.plain (by assumption) (by (simp; omega))) rfl ?_
         refine X_fieldAddr_el rfl rfl rfl (by exact SlM.plain (by assumption) (by (simp; omega))) F.foff62_1 rfl ?_
         refine X_load_el rfl rfl rfl (by assumption) (by exact row_map (by omega)) F.lay24 rfl rfl rfl ?_
         refine Y_fieldAddr F.foff62_1 ?_
         refine Y_load F.lay24 ?_
         refine X_fs rfl rfl F.ok76 rfl (Less_ok _ _ _) rfl ?_
         rintro _ rfl
         refine Y_not ?_
         iterate 2 refine Y_pick ?_
         refine XD_end ?_
         refine K_then ?_
         refine C_cond rfl (fun hc9 => ?_) (fun hc9 => ?_)
         ·replace hc9 := nT hc9
          refine C_seq ?_
          refine C_region (l := [0]) rfl ?_
          refine Y_assign ?_
          refine XD_end ?_
          refine K_then ?_
          refine C_ret ?_
          refine K_ret ?_
          refine K_retB ?_
          iterate 2 refine K_ret ?_
          refine K_retB ?_
          refine K_ret ?_
          refine K_end (.inr rfl) (.tmp rfl .nil) (fun w hw => ?_)
          refine ⟨_, rfl, (hw.c), ?_⟩
          clear hw
          refine congrArg Value.bool ?_
          (have hd := circ_take (l := l_l) (k := k) (by omega); have hp := circ_pre (l := l_l); grind [IsCircle])
         ·replace hc9 := nF hc9
          refine C_skip ?_
          refine K_then ?_
          refine C_region (l := [0, 1, 2, 3, 4, 5]) rfl ?_
          refine Y_move ?_
          refine Y_fieldAddr F.foff62_0 ?_
          refine Y_load F.lay3 ?_
          refine X_buildSliceF rfl rfl F.elem130 F.zero3 rfl rfl (.cons rfl (by constructor) .nil) rfl rfl (by simp only [List.map_cons, List.map_nil] <;> rfl) rfl ?_; intro b10 hob11
          refine X_append (m := 1000000) rfl rfl rfl rfl rfl F.elem130 F.zero3 rfl rfl (by assumption) (by repeat first | exact Rem.here _ | exact Rem.two | apply Rem.skip | apply Rem.over) (Src.own hob11.lens (by (simp [rowsCells, Segs.cells, Seg.cells, Value.oneCell']; done)) rfl (by repeat first | exact List.Mem.head _ | refine List.Mem.tail _ ?_ | refine List.mem_append_right _ ?_)) (by (simp; omega)) (by decide) rfl ?_; intro v14 hs13 ho12; obtain ⟨adv14, cpv14, rfl⟩ := ho12.val
          refine Y_assign ?_
          refine XD_end ?_
          refine K_out ?_
          refine K_then ?_
          refine C_region (l := [0, 1]) rfl ?_
          refine X_ari rfl rfl rfl rfl rfl (by exact wrap_in (by decide) (by omega)) rfl ?_
          refine Y_move ?_
          refine XD_end ?_
          refine K_roundO (a' := [(16, _), (3, _)]) (k + 1) (hs13) (.cons (k := 16) rfl (.cons (k := 3) rfl (.cons (k := 15) rfl (.cons (k := 14) rfl (.cons (k := 2) rfl (.cons (k := 0) rfl (.nil))))))) (by exact Mem.le.refl _) (fun w hw => by first | exact hw | exact hw.c) ?_ ?_
          ·refine ⟨_, rfl, rfl, by omega, ?_, ?_⟩
           ·have hd := circ_take (l := l_l) (k := k) (by omega); grind
           ·have e9 : (((l_l.take (k + 1)).map PeerV.addr).map (oneI .i64)) = (((l_l.take k).map PeerV.addr).map (oneI .i64)) ++ [oneI .i64 l_l[k].addr] := by rw [take_map_succ _ (by omega), List.map_append]; rfl
            rw [e9]; assumption
          ·omega
        ·replace hc8 := dF hc8
         iterate 10 refine Y_skip ?_
         iterate 2 refine Y_pick ?_
         refine XD_end ?_
         refine K_then ?_
         refine C_false rfl ?_
         refine C_skip ?_
         refine K_then ?_
         refine C_region (l := [0, 1, 2, 3, 4, 5]) rfl ?_
         refine Y_move ?_
         refine Y_fieldAddr F.foff62_0 ?_
         refine Y_load F.lay3 ?_
         refine X_buildSliceF rfl rfl F.elem130 F.zero3 rfl rfl (.cons rfl (by constructor) .nil) rfl rfl (by simp only [List.map_cons, List.map_nil] <;> rfl) rfl ?_; intro b15 hob16
         refine X_append (m := 1000000) rfl rfl rfl rfl rfl F.elem130 F.zero3 rfl rfl (by assumption) (by repeat first | exact Rem.here _ | exact Rem.two | apply Rem.skip | apply Rem.over) (Src.own hob16.lens (by (simp [rowsCells, Segs.cells, Seg.cells, Value.oneCell']; done)) rfl (by repeat first | exact List.Mem.head _ | refine List.Mem.tail _ ?_ | refine List.mem_append_right _ ?_)) (by (simp; omega)) (by decide) rfl ?_; intro v19 hs18 ho17; obtain ⟨adv19, cpv19, rfl⟩ := ho17.val
         refine Y_assign ?_
         refine XD_end ?_
         refine K_out ?_
         refine K_then ?_
         refine C_region (l := [0, 1]) rfl ?_
         refine X_ari rfl rfl rfl rfl rfl (by exact wrap_in (by decide) (by omega)) rfl ?_
         refine Y_move ?_
         refine XD_end ?_
         refine K_roundO (a' := [(16, _), (3, _)]) (k + 1) (hs18) (.cons (k := 16) rfl (.cons (k := 3) rfl (.cons (k := 15) rfl (.cons (k := 14) rfl (.cons (k := 2) rfl (.cons (k := 0) rfl (.nil))))))) (by exact Mem.le.refl _) (fun w hw => by first | exact hw | exact hw.c) ?_ ?_
         ·refine ⟨_, rfl, rfl, by omega, ?_, ?_⟩
          ·have hd := circ_take (l := l_l) (k := k) (by omega); grind
          ·have e9 : (((l_l.take (k + 1)).map PeerV.addr).map (oneI .i64)) = (((l_l.take k).map PeerV.addr).map (oneI .i64)) ++ [oneI .i64 l_l[k].addr] := by rw [take_map_succ _ (by omega), List.map_append]; rfl
           rw [e9]; assumption
         ·omega
    ·replace hc3 := dF hc3
     refine C_exit ?_
     iterate 2 refine K_exit ?_
     refine K_hit ?_
     refine K_then ?_
     refine Y_pk [2] ?_
     refine C_seq ?_
     refine C_region (l := [0]) rfl ?_
     refine Y_assign ?_
     refine XD_end ?_
     refine K_then ?_
     refine C_ret ?_
     refine K_end (.inr rfl) (.tmp rfl .nil) (fun w hw => ?_)
     refine ⟨_, rfl, (hw.c), ?_⟩
     clear hw
     refine congrArg Value.bool ?_
     (have hk9 : k = l_l.length := (by omega); subst hk9; grind [IsCircle, List.take_length])

end Go.Proofs.YtelpkhhfjfbkcaaDoor
