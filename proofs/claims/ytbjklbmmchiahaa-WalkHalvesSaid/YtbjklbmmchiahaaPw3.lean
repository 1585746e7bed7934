/-
  Texts of this claim, one behind the other: T6, T7, T8, T9, T10, T11, T12, TableP, T13, T14.
-/
import Derived.Test.YtbjklbmmchiahaaPw2
/-
  Rows made anew.
-/
set_option linter.unusedSimpArgs false
set_option linter.unusedVariables false
set_option linter.unnecessarySimpa false
set_option maxRecDepth 8000
set_option maxHeartbeats 1000000
namespace Go.Proofs.Ytbjklbmmchiahaa
open Go.Esp
theorem F.bld28 : Bld Try.prog 28 [[.one (.int .i64 0), idSeg 0], [.one (.int .i64 0), idSeg 0], [.one (.slice none 0 0)], [.one (.slice none 0 0)]] := by rw [idSeg0]; exact ⟨by kernel_rfl, by kernel_rfl⟩
theorem F.ok114 : okFn Try.prog 114 = true := by kernel_rfl
theorem F.ok99 : okFn Try.prog 99 = true := by kernel_rfl
theorem F.zero28 : zeroOf Try.prog 28 = some (aggV [.one (.int .i64 0), idSeg 0, .one (.int .i64 0), idSeg 0, .one (.slice none 0 0), .one (.slice none 0 0)]) := by rw [idSeg0]; kernel_rfl

theorem CloneP_nil (M : Mem) (c : Nat) (l : List PeerV) (k : SlK M PeerV.segs 21 ⟨none, c, l⟩) (hb : l.length ≤ 1000000) : Fh Try.prog 67 [.slice none l.length c] M [] (fun M' v Hout => M' = M ∧ OSl 25 21 v Hout (l.map PeerV.segs)) := by
  have hl0 : l = [] := SlM.none_nil k.h1
  subst hl0
  have hl0 : ([] : List PeerV).map PeerV.segs = [] := rfl
  refine fh_enter Try.func67 rfl Try.ntmps67 rfl ?_; intro H
  refine C_seq ?_
  refine C_region (l := [0]) rfl ?_
  refine Y_assign ?_
  refine XD_end ?_
  refine K_then ?_
  iterate 2 refine C_seq ?_
  refine C_region (l := [0, 1]) rfl ?_
  refine Y_move ?_
  refine Y_nil Try.underlying26 ?_
  refine XD_end ?_
  refine K_then ?_
  refine Y_pk [4, 2, 0] ?_
  refine C_cond rfl (fun hc1 => ?_) (fun hc1 => ?_)
  ·skip
   refine C_seq ?_
   refine C_region (l := [0]) rfl ?_
   refine Y_assign ?_
   refine XD_end ?_
   refine K_then ?_
   refine Y_pk [2, 0] ?_
   refine C_ret ?_
   refine K_ret ?_
   refine K_end (.inr rfl) (.tmp rfl .nil) (fun w hw => ?_)
   exact ⟨_, M, [], rfl, Mem.le.refl M, hw.c, rfl, by rw [hl0]; exact OSl.nil⟩
  ·skip
   (exfalso; simp [eqX] at hc1; done)
theorem CloneP_some (M : Mem) (ad : Addr) (c : Nat) (l : List PeerV) (k : SlK M PeerV.segs 21 ⟨some ad, c, l⟩) (hb : l.length ≤ 1000000) : Fh Try.prog 67 [.slice (some ad) l.length c] M [] (fun M' v Hout => M' = M ∧ OSl 25 21 v Hout (l.map PeerV.segs)) := by
  have hml : l.length = (l.map PeerV.segs).length := (List.length_map ..).symm
  refine fh_enter Try.func67 rfl Try.ntmps67 rfl ?_; intro H
  refine C_seq ?_
  refine C_region (l := [0]) rfl ?_
  refine Y_assign ?_
  refine XD_end ?_
  refine K_then ?_
  iterate 2 refine C_seq ?_
  refine C_region (l := [0, 1]) rfl ?_
  refine Y_move ?_
  refine Y_nil Try.underlying26 ?_
  refine XD_end ?_
  refine K_then ?_
  refine Y_pk [4, 2, 0] ?_
  refine C_cond rfl (fun hc1 => ?_) (fun hc1 => ?_)
  ·skip
   (exfalso; simp [eqX] at hc1; done)
  ·skip
   refine C_skip ?_
   refine K_then ?_
   refine Y_pk [2, 0] ?_
   refine C_seq ?_
   refine C_region (l := [0, 1, 2, 3]) rfl ?_
   refine X_buildSliceF rfl rfl F.elem26 F.zero25 rfl rfl (.nil) rfl rfl (by simp only [List.map_cons, List.map_nil] <;> rfl) rfl ?_; intro b2 hob3
   refine Y_move ?_
   refine X_append (m := 1000000) rfl rfl rfl rfl rfl F.elem26 F.zero25 (by exact agg_size rfl) rfl (by assumption) (by repeat first | exact Rem.here _ | exact Rem.two | apply Rem.skip | apply Rem.over) (SlM.src k.h1 (rows_one PeerV.flat _) hml) (by (simp; omega)) (by decide) rfl ?_; intro v6 hs5 ho4; obtain ⟨adv6, cpv6, rfl⟩ := ho4.val
   refine Y_assign ?_
   refine XD_end ?_
   refine K_then ?_
   refine Y_pk [2] ?_
   refine C_ret ?_
   refine K_end (.inr rfl) (.tmp rfl .nil) (fun w hw => ?_)
   exact ⟨_, M, _, rfl, Mem.le.refl M, hw.c, rfl, by assumption⟩

theorem CloneP_ok (M : Mem) (a : Option Addr) (c : Nat) (l : List PeerV) (k : SlK M PeerV.segs 21 ⟨a, c, l⟩) (hb : l.length ≤ 1000000) : Fh Try.prog 67 [.slice a l.length c] M [] (fun M' v Hout => M' = M ∧ OSl 25 21 v Hout (l.map PeerV.segs)) := by
  cases a with
  |none => exact CloneP_nil M c l k hb
  |some ad => exact CloneP_some M ad c l k hb

theorem Own_ok (M : Mem) (t : TableV) (ht0 : TableV.ok M t) (hbig : t.succ.l.length ≤ 40 ∧ t.fingers.l.length ≤ 200) : Esp.Fn Try.prog 16 [t.enc] M (fun M' v => TabIs M' v t.tb) := by
  obtain ⟨⟨t_self_addr, t_self_id⟩, ⟨t_pred_addr, t_pred_id⟩, ⟨t_succ_a, t_succ_c, t_succ_l⟩, ⟨t_fingers_a, t_fingers_c, t_fingers_l⟩⟩ := t
  have k_t_succ : SlK M PeerV.segs 21 ⟨t_succ_a, t_succ_c, t_succ_l⟩ := ht0.h0
  have s_t_succ : SlM M t_succ_a (t_succ_l.map PeerV.segs) 21 := k_t_succ.h1
  have n_t_succ : (t_succ_l.map PeerV.segs).length = t_succ_l.length := List.length_map ..
  have m_t_succ : t_succ_l.length ≤ 9223372036854775807 := k_t_succ.h2
  have c_t_succ : t_succ_l.length ≤ t_succ_c := k_t_succ.h3
  have k_t_fingers : SlK M PeerV.segs 21 ⟨t_fingers_a, t_fingers_c, t_fingers_l⟩ := ht0.h1
  have s_t_fingers : SlM M t_fingers_a (t_fingers_l.map PeerV.segs) 21 := k_t_fingers.h1
  have n_t_fingers : (t_fingers_l.map PeerV.segs).length = t_fingers_l.length := List.length_map ..
  have m_t_fingers : t_fingers_l.length ≤ 9223372036854775807 := k_t_fingers.h2
  have c_t_fingers : t_fingers_l.length ≤ t_fingers_c := k_t_fingers.h3
  have hb := hbig
  simp only at hb
  refine fn_enter Try.func16 rfl Try.ntmps16 rfl ?_; intro H
  refine C_seq ?_
  refine C_region (l := [0, 1]) rfl ?_
  refine Y_box ?_; intro b1
  refine Y_alloc F.zero28 ?_; intro b2
  refine XD_end ?_
  refine K_then ?_
  refine Y_pk [2, 1] ?_
  refine C_seq ?_
  refine C_region (l := [0]) rfl ?_
  refine Y_assign ?_
  refine XD_end ?_
  refine K_then ?_
  refine C_seq ?_
  refine C_region (l := [0, 1, 2, 3, 4]) rfl ?_
  refine Y_move ?_
  refine Y_fieldAddr F.foff28_2 ?_
  refine Y_load F.lay26 ?_
  refine X_appendK (m := 1000000) rfl rfl rfl rfl rfl F.elem26 F.zero25 (by exact agg_size rfl) rfl (by exact OSl.nil) (by repeat first | exact Rem.here _ | exact Rem.two | apply Rem.skip | apply Rem.over) (s_t_succ) PeerV.flat (by (simp; omega)) (by decide) rfl ?_; intro v5 hs4 ho3; obtain ⟨adv5, cpv5, rfl⟩ := ho3.val
  refine Y_assign ?_
  refine XD_end ?_
  refine K_then ?_
  refine Y_pk [3, 2, 1] ?_
  refine C_seq ?_
  refine C_region (l := [0]) rfl ?_
  refine Y_assign ?_
  refine XD_end ?_
  refine K_then ?_
  refine C_seq ?_
  refine C_region (l := [0, 1, 2, 3, 4]) rfl ?_
  refine Y_move ?_
  refine Y_fieldAddr F.foff28_3 ?_
  refine Y_load F.lay26 ?_
  refine X_appendK (m := 1000000) rfl rfl rfl rfl rfl F.elem26 F.zero25 (by exact agg_size rfl) rfl (by exact OSl.nil) (by repeat first | exact Rem.here _ | exact Rem.two | apply Rem.skip | apply Rem.over) (s_t_fingers) PeerV.flat (by (simp; omega)) (by decide) rfl ?_; intro v8 hs7 ho6; obtain ⟨adv8, cpv8, rfl⟩ := ho6.val
  refine Y_assign ?_
  refine XD_end ?_
  refine K_then ?_
  refine Y_pk [4, 3, 2, 1] ?_
  refine C_seq ?_
  refine C_region (l := [0, 1, 2, 3, 4, 5, 6, 7]) rfl ?_
  refine Y_fieldAddr F.foff28_0 ?_
  refine Y_load F.lay25 ?_
  refine Y_fieldAddr F.foff28_1 ?_
  refine Y_load F.lay25 ?_
  iterate 2 refine Y_move ?_
  refine X_build rfl rfl F.bld28 (.cons rfl (by constructor) (.cons rfl (by constructor) (.cons rfl (by constructor) (.cons rfl (by constructor) .nil)))) rfl rfl ?_
  refine Y_store F.lay28 ?_
  refine XD_end ?_
  refine K_then ?_
  refine Y_pk [2] ?_
  refine C_ret ?_
  refine K_end (.inr rfl) (.cell rfl (by repeat first | exact List.Mem.head _ | refine List.Mem.tail _ ?_ | refine List.mem_append_right _ ?_) F.lay28 rfl rfl .nil) (fun w hw => ?_)
  obtain ⟨M1, s1, g1, g2, g3, g4, g5⟩ := OSl.freezeK (f := PeerV.segs) (l := t_succ_l) (H := hs7 ++ H) ho3 (hw.c)
  obtain ⟨M2, s2, j1, j2, j3, j4, j5⟩ := OSl.freezeK (f := PeerV.segs) (l := t_fingers_l) ho6 g2
  exact ⟨_, M2, rfl, g1.trans j1, j2, tabIs_mk g3 j3 (g5.mono j1) j5 (by rw [g4, j4]; rfl)⟩

theorem Mul64_ok (M : Mem) : Fs Try.prog 114 [.int .u64 1, .int .u64 160] M (fun v => v = .tuple #[.int .u64 0, .int .u64 160]) := by
  refine fs_enter Try.func114 rfl Try.ntmps114 rfl ?_; intro H
  refine C_seq ?_
  refine C_region (l := [0, 1]) rfl ?_
  iterate 2 refine Y_assign ?_
  refine XD_end ?_
  refine K_then ?_
  refine C_seq ?_
  refine C_region (l := [0, 1, 2]) rfl ?_
  refine Y_move ?_
  refine X_bits rfl rfl rfl rfl rfl rfl rfl ?_
  refine Y_assign ?_
  refine XD_end ?_
  refine K_then ?_
  refine Y_pk [6, 5, 4, 0, 1] ?_
  refine C_seq ?_
  refine C_region (l := [0, 1, 2]) rfl ?_
  refine Y_move ?_
  refine X_shift rfl rfl rfl rfl (by decide) (shr_lit 32 (by decide)) rfl rfl ?_
  refine Y_assign ?_
  refine XD_end ?_
  refine K_then ?_
  refine Y_pk [7, 6, 5, 4, 0, 1] ?_
  refine C_seq ?_
  refine C_region (l := [0, 1, 2]) rfl ?_
  refine Y_move ?_
  refine X_bits rfl rfl rfl rfl rfl rfl rfl ?_
  refine Y_assign ?_
  refine XD_end ?_
  refine K_then ?_
  refine Y_pk [8, 7, 6, 5, 4, 0, 1] ?_
  refine C_seq ?_
  refine C_region (l := [0, 1, 2]) rfl ?_
  refine Y_move ?_
  refine X_shift rfl rfl rfl rfl (by decide) (shr_lit 32 (by decide)) rfl rfl ?_
  refine Y_assign ?_
  refine XD_end ?_
  refine K_then ?_
  refine Y_pk [9, 8, 7, 6, 5, 4, 0, 1] ?_
  refine C_seq ?_
  refine C_region (l := [0, 1, 2, 3]) rfl ?_
  iterate 2 refine Y_move ?_
  refine X_ari rfl rfl rfl rfl rfl (by exact wrap_u64 _) rfl ?_
  refine Y_assign ?_
  refine XD_end ?_
  refine K_then ?_
  refine Y_pk [10, 9, 8, 7, 6, 5, 4, 0, 1] ?_
  refine C_seq ?_
  refine C_region (l := [0, 1, 2, 3, 4, 5, 6]) rfl ?_
  iterate 2 refine Y_move ?_
  refine X_ari rfl rfl rfl rfl rfl (by exact wrap_u64_in (by decide) (by omega)) rfl ?_
  refine Y_move ?_
  refine X_shift rfl rfl rfl rfl (by decide) (shr_lit 32 (by decide)) rfl rfl ?_
  refine X_ari rfl rfl rfl rfl rfl (by exact wrap_u64 _) rfl ?_
  refine Y_assign ?_
  refine XD_end ?_
  refine K_then ?_
  refine Y_pk [11, 9, 7, 6, 5, 4, 0, 1] ?_
  refine C_seq ?_
  refine C_region (l := [0, 1, 2]) rfl ?_
  refine Y_move ?_
  refine X_bits rfl rfl rfl rfl rfl rfl rfl ?_
  refine Y_assign ?_
  refine XD_end ?_
  refine K_then ?_
  refine Y_pk [12, 11, 9, 7, 6, 5, 4, 0, 1] ?_
  refine C_seq ?_
  refine C_region (l := [0, 1, 2]) rfl ?_
  refine Y_move ?_
  refine X_shift rfl rfl rfl rfl (by decide) (shr_lit 32 (by decide)) rfl rfl ?_
  refine Y_assign ?_
  refine XD_end ?_
  refine K_then ?_
  refine Y_pk [13, 12, 9, 7, 6, 5, 4, 0, 1] ?_
  refine C_seq ?_
  refine C_region (l := [0, 1, 2, 3, 4, 5]) rfl ?_
  iterate 3 refine Y_move ?_
  refine X_ari rfl rfl rfl rfl rfl (by exact wrap_u64_in (by decide) (by omega)) rfl ?_
  refine X_ari rfl rfl rfl rfl rfl (by exact wrap_u64 _) rfl ?_
  refine Y_assign ?_
  refine XD_end ?_
  refine K_then ?_
  refine Y_pk [12, 13, 9, 7, 5, 4, 0, 1] ?_
  refine C_seq ?_
  refine C_region (l := [0, 1, 2, 3, 4, 5, 6, 7, 8]) rfl ?_
  iterate 2 refine Y_move ?_
  refine X_ari rfl rfl rfl rfl rfl (by exact wrap_u64_in (by decide) (by omega)) rfl ?_
  refine Y_move ?_
  refine X_ari rfl rfl rfl rfl rfl (by exact wrap_u64 _) rfl ?_
  refine Y_move ?_
  refine X_shift rfl rfl rfl rfl (by decide) (shr_lit 32 (by decide)) rfl rfl ?_
  refine X_ari rfl rfl rfl rfl rfl (by exact wrap_u64 _) rfl ?_
  refine Y_assign ?_
  refine XD_end ?_
  refine K_then ?_
  refine Y_pk [4, 5, 0, 1] ?_
  refine C_seq ?_
  refine C_region (l := [0, 1, 2, 3]) rfl ?_
  iterate 2 refine Y_move ?_
  refine X_ari rfl rfl rfl rfl rfl (by exact wrap_u64_in (by decide) (by omega)) rfl ?_
  refine Y_assign ?_
  refine XD_end ?_
  refine K_then ?_
  refine Y_pk [5, 4] ?_
  refine C_ret ?_
  refine K_end (.inr rfl) (.tmp rfl (.tmp rfl .nil)) (fun w hw => ?_)
  refine ⟨_, rfl, hw.c, ?_⟩
  rfl

theorem Mul_ok (M : Mem) : Fs Try.prog 99 [.int .u64 1, .int .u64 160] M (fun v => v = .tuple #[.int .u64 0, .int .u64 160]) := by
  refine fs_enter Try.func99 rfl Try.ntmps99 rfl ?_; intro H
  refine C_seq ?_
  refine C_region (l := [0, 1]) rfl ?_
  iterate 2 refine Y_assign ?_
  refine XD_end ?_
  refine K_then ?_
  refine C_seq ?_
  refine C_false rfl ?_
  refine C_skip ?_
  refine K_then ?_
  refine C_seq ?_
  refine C_region (l := [0, 1, 2, 3, 4, 5, 6, 7]) rfl ?_
  iterate 2 refine Y_move ?_
  refine X_fs rfl rfl F.ok114 rfl (Mul64_ok M) rfl ?_
  rintro _ rfl
  refine Y_move ?_
  iterate 2 refine Y_extract ?_
  iterate 2 refine Y_assign ?_
  refine XD_end ?_
  refine K_then ?_
  refine Y_pk [9, 8, 5, 4] ?_
  refine C_seq ?_
  refine C_region (l := [0, 1, 2, 3]) rfl ?_
  iterate 2 refine Y_move ?_
  iterate 2 refine Y_assign ?_
  refine XD_end ?_
  refine K_then ?_
  refine Y_pk [5, 4] ?_
  refine C_ret ?_
  refine K_end (.inr rfl) (.tmp rfl (.tmp rfl .nil)) (fun w hw => ?_)
  refine ⟨_, rfl, hw.c, ?_⟩
  rfl

theorem Repeat_ok (M : Mem) (b : Nat) (hs1 : Hp) (ho1 : OSl 25 21 (.slice (some ⟨b, 0, none⟩) 1 1) hs1 [noneP.segs]) : Fh Try.prog 62 [.slice (some ⟨b, 0, none⟩) 1 1, .int .i64 160] M hs1 (fun M' v Hout => M' = M ∧ OSl 25 21 v Hout (List.replicate 160 noneP.segs)) := by
  refine fh_enter Try.func62 rfl Try.ntmps62 rfl ?_; intro H
  refine C_seq ?_
  refine C_region (l := [0]) rfl ?_
  refine Y_assign ?_
  refine XD_end ?_
  refine K_then ?_
  iterate 2 refine C_seq ?_
  refine C_region (l := [0, 1]) rfl ?_
  refine Y_move ?_
  refine Y_cmp ?_
  refine XD_end ?_
  refine K_then ?_
  refine Y_pk [10, 4, 0, 1] ?_
  refine C_cond rfl (fun hc1 => ?_) (fun hc1 => ?_)
  ·replace hc1 := dT hc1
   (exfalso; omega)
  ·replace hc1 := dF hc1
   refine C_skip ?_
   refine K_then ?_
   refine Y_pk [4, 0, 1] ?_
   refine C_seq ?_
   refine C_region (l := [0, 1, 2, 3, 4, 5, 6, 7, 8, 9, 10]) rfl ?_
   refine Y_move ?_
   refine Y_len_sl F.elem26 ?_
   refine X_conv rfl rfl rfl Try.underlying3 Try.underlying99 (by exact wrap_u64_in (by decide) (by omega)) rfl ?_
   refine Y_move ?_
   refine X_conv rfl rfl rfl Try.underlying3 Try.underlying99 (by exact wrap_u64_in (by decide) (by omega)) rfl ?_
   refine X_fs rfl rfl F.ok99 rfl (Mul_ok M) rfl ?_
   rintro _ rfl
   refine Y_move ?_
   iterate 2 refine Y_extract ?_
   iterate 2 refine Y_assign ?_
   refine XD_end ?_
   refine K_then ?_
   refine Y_pk [6, 5, 4, 0] ?_
   iterate 2 refine C_seq ?_
   refine C_region (l := [0, 1, 2, 3, 4, 5]) rfl ?_
   refine Y_move ?_
   refine Y_cmp ?_
   refine Y_move ?_
   refine XD_part 23 rfl (fun hc2 => ?_) (fun hc2 => ?_)
   ·replace hc2 := dT hc2
    (exfalso; omega)
   ·replace hc2 := dF hc2
    refine Y_move ?_
    refine Y_cmp ?_
    refine Y_pick ?_
    refine XD_end ?_
    refine K_then ?_
    refine Y_pk [26, 6, 4, 0] ?_
    refine C_cond rfl (fun hc3 => ?_) (fun hc3 => ?_)
    ·replace hc3 := dT hc3
     (exfalso; omega)
    ·replace hc3 := dF hc3
     refine C_skip ?_
     refine K_then ?_
     refine Y_pk [6, 4, 0] ?_
     refine C_seq ?_
     refine C_region (l := [0, 1, 2, 3]) rfl ?_
     refine Y_move ?_
     refine X_conv rfl rfl rfl Try.underlying99 Try.underlying3 (by exact wrap_in (by decide) (by omega)) rfl ?_
     refine X_makeSliceO (k := 160) (zr := PeerV.zero.segs) rfl rfl rfl rfl F.elem26 F.zero25 rfl (agg_size rfl) rfl (by decide) (by decide) rfl ?_; intro b2 hs2 ho2
     refine Y_assign ?_
     refine XD_end ?_
     refine K_then ?_
     refine Y_pk [7, 4, 0] ?_
     refine C_seq ?_
     refine C_region (l := [0, 1, 2, 3]) rfl ?_
     iterate 2 refine Y_move ?_
     refine X_copyO (k := 0) (b := b2) rfl rfl rfl rfl rfl F.elem26 rfl (by simp) ho2 (by repeat first | exact Rem.here _ | exact Rem.two | apply Rem.skip | apply Rem.over) (OSl.srcAll ho1 (by repeat first | exact Rem.here _ | exact Rem.two | apply Rem.skip | apply Rem.over) (rep_one (PeerV.flat _) 1)) rfl rfl ?_; intro hs3 ho3; rw [rep_first (by decide)] at ho3; replace ho3 : OSl 25 21 (.slice (some ⟨b2, 0, none⟩) 160 160) hs3 (List.replicate 1 noneP.segs ++ List.replicate (160 - 1) PeerV.zero.segs) := (by simpa using ho3)
     refine Y_assign ?_
     refine XD_end ?_
     refine K_then ?_
     refine Y_pk [8, 7, 4] ?_
     refine C_seq ?_
     refine C_block ?_
     refine Y_pk [8, 7, 4] ?_
     refine C_loopO (Hin := hs3) (.succ .zero) (by repeat first | exact Rem.here _ | exact Rem.two | apply Rem.skip | apply Rem.over) (fun (k : Nat) M1 h1 z => M1 = M ∧ z = [(8, .int .i64 (k : Int))] ∧ 1 ≤ k ∧ k ≤ 160 ∧ OSl 25 21 (.slice (some ⟨b2, 0, none⟩) 160 160) h1 (List.replicate k noneP.segs ++ List.replicate (160 - k) PeerV.zero.segs)) (fun k => 160 - k) (1) (⟨rfl, rfl, by omega, by omega, ho3⟩) ?_
     rintro k M1 h1 z hm1 ⟨hM1, rfl, hk1, hk, ho⟩
     subst hM1
     iterate 2 refine C_seq ?_
     refine C_region (l := [0, 1, 2, 3]) rfl ?_
     iterate 2 refine Y_move ?_
     refine Y_len_sl F.elem26 ?_
     refine Y_cmp ?_
     refine XD_end ?_
     refine K_then ?_
     refine C_cond rfl (fun hc4 => ?_) (fun hc4 => ?_)
     ·replace hc4 := dT hc4
      refine C_skip ?_
      refine K_then ?_
      refine C_block ?_
      refine C_region_any (l := [0, 1, 2, 3, 4, 5, 6, 7, 8, 9]) #[0, 0, 0, 6, 0, 0, 48, 126, 255, 511] _ rfl (by kernel_rfl) (by kernel_rfl) St.drawn (fun _ h => h) ?_
      iterate 3 refine Y_move ?_
      refine X_slice rfl rfl rfl (.some (k := k) rfl rfl) .none .none F.elem26 (by simp) (by simp only [Option.getD_none, Option.getD_some]; omega) (by simp only [Option.getD_none, Option.getD_some]; omega) (by simp) (show pieceV (some ⟨b2, 0, none⟩) 21 k 160 160 = .slice (some ⟨b2, 0 + k * 21, none⟩) (160 - k) (160 - k) from pieceV_in (by omega)) rfl ?_
      iterate 2 refine Y_move ?_
      refine X_slice rfl rfl rfl .none (.some (k := k) rfl rfl) .none F.elem26 (by simp) (by simp only [Option.getD_none, Option.getD_some]; omega) (by simp only [Option.getD_none, Option.getD_some]; omega) (by simp) (show pieceV (some ⟨b2, 0, none⟩) 21 0 k 160 = .slice (some ⟨b2, 0, none⟩) k 160 from pieceV_zero) rfl ?_
      have hcut : OSl 25 21 (.slice (some ⟨b2, 0, none⟩) k 160) h1 (List.replicate k noneP.segs) := (by have h9 := OSl.cut (k := k) (rows := (List.replicate k noneP.segs ++ List.replicate (160 - k) PeerV.zero.segs)) (ho.as rfl) (by simp); rw [rep_take] at h9; exact h9)
      refine X_copyO (k := k) (b := b2) (m := min k (160 - k)) rfl rfl rfl rfl rfl F.elem26 (by omega) (by simp) ho (by repeat first | exact Rem.here _ | exact Rem.two | apply Rem.skip | apply Rem.over) (OSl.srcAll hcut (by repeat first | exact Rem.here _ | exact Rem.two | apply Rem.skip | apply Rem.over) (rep_one (PeerV.flat _) k)) (by simp) rfl ?_; intro hs5 ho5; rw [rep_next (by omega) (by omega) (by omega)] at ho5; replace ho5 : OSl 25 21 (.slice (some ⟨b2, 0, none⟩) 160 160) hs5 (List.replicate (k + min k (160 - k)) noneP.segs ++ List.replicate (160 - (k + min k (160 - k))) PeerV.zero.segs) := ho5.as (by simp; omega)
      refine X_ari rfl rfl rfl rfl rfl (by exact wrap_in (by decide) (by omega)) rfl ?_
      refine Y_assign ?_
      refine XD_end ?_
      refine K_out ?_
      refine K_roundO (a' := [(8, _)]) (k + min k (160 - k)) (hs5) (.cons (k := 8) rfl (.cons (k := 7) rfl (.cons (k := 4) rfl (.nil)))) (by exact Mem.le.refl _) (fun w hw => by first | exact hw | exact hw.c) ?_ ?_
      ·exact ⟨rfl, congrArg (fun v => [(8, Value.int .i64 v)]) (by simp), by omega, by omega, ho5⟩
      ·omega
     ·replace hc4 := dF hc4
      refine C_exit ?_
      iterate 2 refine K_exit ?_
      refine K_hit ?_
      refine K_then ?_
      refine Y_pk [7, 4] ?_
      refine C_seq ?_
      refine C_region (l := [0, 1]) rfl ?_
      refine Y_move ?_
      refine Y_assign ?_
      refine XD_end ?_
      refine K_then ?_
      refine Y_pk [4] ?_
      refine C_ret ?_
      refine K_end (.inr rfl) (.tmp rfl .nil) (fun w hw => ?_)
      obtain rfl : k = 160 := by omega
      rw [Nat.sub_self, List.replicate_zero, List.append_nil] at ho
      exact ⟨_, M1, h1, rfl, Mem.le.refl _, hw.c, rfl, ho⟩

end Go.Proofs.Ytbjklbmmchiahaa
/-
  New tables.
-/
set_option linter.unusedSimpArgs false
set_option linter.unusedVariables false
set_option linter.unnecessarySimpa false
set_option maxRecDepth 8000
set_option maxHeartbeats 1000000
namespace Go.Proofs.Ytbjklbmmchiahaa
open Go.Esp
theorem F.ok62 : okFn Try.prog 62 = true := by kernel_rfl

theorem New_ok (M : Mem) (self : PeerV) : Esp.Fn Try.prog 17 [self.enc] M (fun M' v => TabE M' v (newT self)) := by
  obtain ⟨self_addr, self_id⟩ := self
  refine fn_enter Try.func17 rfl Try.ntmps17 rfl ?_; intro H
  refine C_seq ?_
  refine C_region (l := [0, 1, 2]) rfl ?_
  refine Y_box ?_; intro b1
  refine Y_alloc F.zero28 ?_; intro b2
  refine Y_assign ?_
  refine XD_end ?_
  refine K_then ?_
  refine Y_pk [3, 2, 1] ?_
  iterate 2 refine C_seq ?_
  refine C_region (l := [0, 1, 2, 3]) rfl ?_
  refine Y_fieldAddr F.foff25_0 ?_
  refine Y_load F.lay3 ?_
  refine X_fs rfl rfl F.ok60 rfl (is_ok _ _) rfl ?_
  rintro _ rfl
  refine Y_not ?_
  refine XD_end ?_
  refine K_then ?_
  refine Y_pk [7, 3, 2, 1] ?_
  refine C_cond rfl (fun hc3 => ?_) (fun hc3 => ?_)
  ·replace hc3 := nT hc3
   refine C_seq ?_
   refine C_region (l := [0, 1, 2]) rfl ?_
   refine X_build rfl rfl F.bld28 (.nil) rfl rfl ?_
   refine Y_store F.lay28 ?_
   refine Y_assign ?_
   refine XD_end ?_
   refine K_then ?_
   refine Y_pk [3, 2, 1] ?_
   refine C_ret ?_
   refine K_ret ?_
   refine K_end (.inr rfl) (.cell rfl (by repeat first | exact List.Mem.head _ | refine List.Mem.tail _ ?_ | refine List.mem_append_right _ ?_) F.lay28 rfl rfl (.tmp rfl .nil)) (fun w hw => ?_)
   refine ⟨_, M, rfl, Mem.le.refl M, hw.c, ?_⟩
   rw [show newT ⟨self_addr, self_id⟩ = (Tb.zero, 1) from if_neg (by assumption)]
   exact ⟨_, rfl, tabIs_zero⟩
  ·replace hc3 := nF hc3
   refine C_skip ?_
   refine K_then ?_
   refine Y_pk [3, 2, 1] ?_
   refine C_seq ?_
   refine C_region_any (l := [0, 1, 2, 3, 4, 5, 6, 7]) #[0, 0, 2, 6, 14, 31, 63, 127] _ rfl (by kernel_rfl) (by kernel_rfl) St.drawn (fun _ h => h) ?_
   refine Y_load F.lay25 ?_
   refine X_fs rfl rfl F.ok61 rfl (None_ok _) rfl ?_
   rintro _ rfl
   refine XD_is 10 rfl (show _ = aggV [.one (.int .i64 (-1)), idSeg 0] from rfl) ?_
   refine X_fs rfl rfl F.ok61 rfl (None_ok _) rfl ?_
   rintro _ rfl
   refine XD_is 11 rfl (show _ = aggV [.one (.int .i64 (-1)), idSeg 0] from rfl) ?_
   refine X_buildSliceF rfl rfl F.elem26 F.zero25 rfl rfl (.cons rfl (by constructor) .nil) rfl rfl (by simp only [List.map_cons, List.map_nil] <;> rfl) rfl ?_; intro b4 hob5
   refine X_fhR rfl rfl F.ok62 rfl (Repeat_ok M _ _ hob5) (by repeat first | exact Rem.here _ | exact Rem.two | apply Rem.skip | apply Rem.over) (fun _ _ _ hm hw => (hw.lower (by exact hm)).c) (putE_some rfl) ?_
   rintro v9 M1 hs9 hm1 ⟨hM1, ho9⟩; subst M1
   obtain ⟨ad9, cp9, rfl⟩ := ho9.val
   refine X_build rfl rfl F.bld28 (.cons rfl (by constructor) (.cons rfl (by constructor) (.cons rfl (by constructor) .nil))) rfl rfl ?_
   refine Y_store F.lay28 ?_
   refine Y_assign ?_
   refine XD_end ?_
   refine K_then ?_
   refine Y_pk [3, 2] ?_
   refine C_ret ?_
   refine K_end (.inr rfl) (.cell rfl (by repeat first | exact List.Mem.head _ | refine List.Mem.tail _ ?_ | refine List.mem_append_right _ ?_) F.lay28 rfl rfl (.tmp rfl .nil)) (fun w hw => ?_)
   obtain ⟨M9, s1, g1, g2, g3, g4, g5⟩ := OSl.freezeK (f := PeerV.segs) (H := H) (l := List.replicate 160 noneP) (by rw [List.map_replicate]; exact ho9) (hw.c)
   refine ⟨_, M9, rfl, g1, g2, ?_⟩
   rw [show newT ⟨self_addr, self_id⟩ = (⟨⟨self_addr, self_id⟩, noneP, [], List.replicate 160 noneP⟩, 0) from if_pos (by assumption)]
   exact ⟨_, rfl, tabIs_mk (s1 := ⟨none, 0, []⟩) rfl g3 SlK.nil g5 (by rw [g4]; rfl)⟩

theorem rNew_ok (M : Mem) (self : PeerV) : Esp.Fn Try.prog 18 [self.enc] M (fun M' v => TabE M' v (newT self)) := by
  obtain ⟨self_addr, self_id⟩ := self
  refine fn_enter Try.func18 rfl Try.ntmps18 rfl ?_; intro H
  refine C_seq ?_
  refine C_region (l := [0, 1, 2]) rfl ?_
  refine Y_box ?_; intro b1
  refine Y_alloc F.zero28 ?_; intro b2
  refine Y_assign ?_
  refine XD_end ?_
  refine K_then ?_
  refine Y_pk [3, 2, 1] ?_
  iterate 2 refine C_seq ?_
  refine C_region (l := [0, 1, 2, 3, 4, 5, 6, 7]) rfl ?_
  refine Y_fieldAddr F.foff25_0 ?_
  refine Y_load F.lay3 ?_
  refine Y_cmp ?_
  refine Y_move ?_
  refine XD_part 9 rfl (fun hc3 => ?_) (fun hc3 => ?_)
  ·replace hc3 := dT hc3
   iterate 3 refine Y_skip ?_
   refine Y_pick ?_
   refine XD_end ?_
   refine K_then ?_
   refine Y_pk [13, 3, 2, 1] ?_
   refine C_true rfl ?_
   refine C_seq ?_
   refine C_region (l := [0, 1, 2]) rfl ?_
   refine X_build rfl rfl F.bld28 (.nil) rfl rfl ?_
   refine Y_store F.lay28 ?_
   refine Y_assign ?_
   refine XD_end ?_
   refine K_then ?_
   refine Y_pk [3, 2, 1] ?_
   refine C_ret ?_
   refine K_ret ?_
   refine K_end (.inr rfl) (.cell rfl (by repeat first | exact List.Mem.head _ | refine List.Mem.tail _ ?_ | refine List.mem_append_right _ ?_) F.lay28 rfl rfl (.tmp rfl .nil)) (fun w hw => ?_)
   refine ⟨_, M, rfl, Mem.le.refl M, hw.c, ?_⟩
   rw [show newT ⟨self_addr, self_id⟩ = (Tb.zero, 1) from if_neg (by (unfold okAddr; simp only; omega))]
   exact ⟨_, rfl, tabIs_zero⟩
  ·replace hc3 := dF hc3
   refine Y_fieldAddr F.foff25_0 ?_
   refine Y_load F.lay3 ?_
   refine Y_cmp ?_
   refine Y_pick ?_
   refine XD_end ?_
   refine K_then ?_
   refine Y_pk [13, 3, 2, 1] ?_
   refine C_cond rfl (fun hc4 => ?_) (fun hc4 => ?_)
   ·replace hc4 := dT hc4
    refine C_seq ?_
    refine C_region (l := [0, 1, 2]) rfl ?_
    refine X_build rfl rfl F.bld28 (.nil) rfl rfl ?_
    refine Y_store F.lay28 ?_
    refine Y_assign ?_
    refine XD_end ?_
    refine K_then ?_
    refine Y_pk [3, 2, 1] ?_
    refine C_ret ?_
    refine K_ret ?_
    refine K_end (.inr rfl) (.cell rfl (by repeat first | exact List.Mem.head _ | refine List.Mem.tail _ ?_ | refine List.mem_append_right _ ?_) F.lay28 rfl rfl (.tmp rfl .nil)) (fun w hw => ?_)
    refine ⟨_, M, rfl, Mem.le.refl M, hw.c, ?_⟩
    rw [show newT ⟨self_addr, self_id⟩ = (Tb.zero, 1) from if_neg (by (unfold okAddr; simp only; omega))]
    exact ⟨_, rfl, tabIs_zero⟩
   ·replace hc4 := dF hc4
    refine C_skip ?_
    refine K_then ?_
    refine Y_pk [3, 2, 1] ?_
    refine C_seq ?_
    refine C_region_any (l := [0, 1, 2, 3, 4]) #[0, 0, 3, 0, 15] _ rfl (by kernel_rfl) (by kernel_rfl) St.drawn (fun _ h => h) ?_
    refine Y_load F.lay25 ?_
    refine X_fs rfl rfl F.ok43 rfl (rNone_ok _) rfl ?_
    rintro _ rfl
    refine XD_is 16 rfl (show _ = aggV [.one (.int .i64 (-1)), idSeg 0] from rfl) ?_
    refine X_build rfl rfl F.bld28 (.cons rfl (by constructor) (.cons rfl (by constructor) .nil)) rfl rfl ?_
    refine Y_alloc F.zero28 ?_; intro b5
    refine Y_store F.lay28 ?_
    refine XD_end ?_
    refine K_then ?_
    refine Y_pk [4, 3, 2] ?_
    iterate 2 refine C_seq ?_
    refine C_region (l := [0]) rfl ?_
    refine Y_assign ?_
    refine XD_end ?_
    refine K_then ?_
    refine C_block ?_
    refine Y_pk [5, 4, 3, 2] ?_
    refine C_loopO (Hin := [(b5, rowO [.one (.int .i64 self_addr), idSeg self_id, .one (.int .i64 (-1)), idSeg 0, .one (.slice none 0 0), .one (.slice none 0 0)] 28)]) (.succ .zero) (by repeat first | exact Rem.here _ | exact Rem.two | apply Rem.skip | apply Rem.over) (fun (k : Nat) M1 h1 z => ∃ v hs, M1 = M ∧ z = [(5, .int .i64 (k : Int))] ∧ k ≤ 160 ∧ h1 = (b5, rowO [.one (.int .i64 self_addr), idSeg self_id, .one (.int .i64 (-1)), idSeg 0, .one (.slice none 0 0), .one v] 28) :: hs ∧ OSl 25 21 v hs (List.replicate k noneP.segs)) (fun k => 160 - k) (0) (⟨_, [], rfl, rfl, by omega, rfl, OSl.nil⟩) ?_
    rintro k M1 h1 z hm1 ⟨v0, hs0, hM1, rfl, hk, rfl, ho⟩
    subst hM1
    obtain ⟨ad0, cp0, rfl⟩ := ho.val
    iterate 2 refine C_seq ?_
    refine C_region (l := [0, 1]) rfl ?_
    refine Y_move ?_
    refine Y_cmp ?_
    refine XD_end ?_
    refine K_then ?_
    refine C_cond rfl (fun hc6 => ?_) (fun hc6 => ?_)
    ·replace hc6 := dT hc6
     refine C_skip ?_
     refine K_then ?_
     refine C_seq ?_
     refine C_block ?_
     refine C_region_any (l := [0, 1, 2, 3, 4, 5, 6]) #[0, 1, 0, 4, 15, 31, 63] _ rfl (by kernel_rfl) (by kernel_rfl) St.drawn (fun _ h => h) ?_
     refine Y_fieldAddr F.foff28_3 ?_
     refine Y_load F.lay26 ?_
     refine X_fs rfl rfl F.ok43 rfl (rNone_ok _) rfl ?_
     rintro _ rfl
     refine XD_is 24 rfl (show _ = aggV [.one (.int .i64 (-1)), idSeg 0] from rfl) ?_
     refine X_buildSliceF rfl rfl F.elem26 F.zero25 rfl rfl (.cons rfl (by constructor) .nil) rfl rfl (by simp only [List.map_cons, List.map_nil] <;> rfl) rfl ?_; intro b7 hob8
     refine X_append (m := 1000000) rfl rfl rfl rfl rfl F.elem26 F.zero25 (by exact agg_size rfl) rfl (by assumption) (by repeat first | exact Rem.here _ | exact Rem.two | apply Rem.skip | apply Rem.over) (Src.own hob8.lens (by (refine rows_one1 ?_; (repeat (first | exact flat_nil | refine flat_id ?_ | (refine flat_one ?_ ?_; rfl))); done)) rfl (by repeat first | exact List.Mem.head _ | refine List.Mem.tail _ ?_ | refine List.mem_append_right _ ?_)) (by (simp; omega)) (by decide) rfl ?_; intro v11 hs10 ho9; obtain ⟨adv11, cpv11, rfl⟩ := ho9.val
     refine Y_fieldAddr F.foff28_3 ?_
     refine Y_store F.lay26 ?_
     refine XD_end ?_
     refine K_out ?_
     refine K_then ?_
     refine C_region (l := [0, 1, 2]) rfl ?_
     refine Y_move ?_
     refine X_ari rfl rfl rfl rfl rfl (by exact wrap_in (by decide) (by omega)) rfl ?_
     refine Y_assign ?_
     refine XD_end ?_
     refine K_roundO (a' := [(5, _)]) (k + 1) ((b5, rowO [.one (.int .i64 self_addr), idSeg self_id, .one (.int .i64 (-1)), idSeg 0, .one (.slice none 0 0), .one (.slice adv11 (List.replicate k noneP.segs ++ [[.one (.int .i64 (-1)), idSeg 0]]).length cpv11)] 28) :: hs10) (.cons (k := 5) rfl (.cons (k := 4) rfl (.cons (k := 3) rfl (.cons (k := 2) rfl (.nil))))) (by exact Mem.le.refl _) (fun w hw => by first | exact hw | exact hw.c) ?_ ?_
     ·exact ⟨_, _, rfl, rfl, by omega, rfl, by rw [List.replicate_succ']; exact ho9⟩
     ·omega
    ·replace hc6 := dF hc6
     refine C_exit ?_
     iterate 2 refine K_exit ?_
     refine K_hit ?_
     refine K_then ?_
     refine Y_pk [4, 3, 2] ?_
     refine C_seq ?_
     refine C_region (l := [0, 1, 2]) rfl ?_
     refine Y_load F.lay28 ?_
     refine Y_store F.lay28 ?_
     refine Y_assign ?_
     refine XD_end ?_
     refine K_then ?_
     refine Y_pk [3, 2] ?_
     refine C_ret ?_
     refine K_end (.inr rfl) (.cell rfl (by repeat first | exact List.Mem.head _ | refine List.Mem.tail _ ?_ | refine List.mem_append_right _ ?_) F.lay28 rfl rfl (.tmp rfl .nil)) (fun w hw => ?_)
     obtain rfl : k = 160 := by omega
     obtain ⟨M9, s1, g1, g2, g3, g4, g5⟩ := OSl.freezeK (f := PeerV.segs) (H := H) (l := List.replicate 160 noneP) (by rw [List.map_replicate]; exact ho) (hw.c)
     refine ⟨_, M9, rfl, g1, g2, ?_⟩
     rw [show newT ⟨self_addr, self_id⟩ = (⟨⟨self_addr, self_id⟩, noneP, [], List.replicate 160 noneP⟩, 0) from if_pos (by (unfold okAddr; simp only; omega))]
     exact ⟨_, rfl, tabIs_mk (s1 := ⟨none, 0, []⟩) rfl g3 SlK.nil g5 (by rw [g4]; rfl)⟩

end Go.Proofs.Ytbjklbmmchiahaa
/-
  Tables that adopt.
-/
set_option linter.unusedSimpArgs false
set_option linter.unusedVariables false
set_option linter.unnecessarySimpa false
set_option maxRecDepth 8000
set_option maxHeartbeats 1000000
namespace Go.Proofs.Ytbjklbmmchiahaa
open Go.Esp
theorem F.ok16 : okFn Try.prog 16 = true := by kernel_rfl
theorem F.ok31 : okFn Try.prog 31 = true := by kernel_rfl
theorem F.ok32 : okFn Try.prog 32 = true := by kernel_rfl

theorem Adopt_ok (M : Mem) (t : TableV) (first : PeerV) (rest : (Sl PeerV)) (r : Int) (ht0 : TableV.ok M t) (hrest1 : SlK M PeerV.segs 21 rest) : Esp.Fn Try.prog 19 [t.enc, first.enc, Sl.val rest, .int .i64 r] M (fun M' v => TabE M' v (adoptT t.tb first rest.l r)) := by
  obtain ⟨⟨t_self_addr, t_self_id⟩, ⟨t_pred_addr, t_pred_id⟩, ⟨t_succ_a, t_succ_c, t_succ_l⟩, ⟨t_fingers_a, t_fingers_c, t_fingers_l⟩⟩ := t
  obtain ⟨first_addr, first_id⟩ := first
  obtain ⟨rest_a, rest_c, rest_l⟩ := rest
  have k_t_succ : SlK M PeerV.segs 21 ⟨t_succ_a, t_succ_c, t_succ_l⟩ := ht0.h0
  have s_t_succ : SlM M t_succ_a (t_succ_l.map PeerV.segs) 21 := k_t_succ.h1
  have n_t_succ : (t_succ_l.map PeerV.segs).length = t_succ_l.length := List.length_map ..
  have m_t_succ : t_succ_l.length ≤ 9223372036854775807 := k_t_succ.h2
  have c_t_succ : t_succ_l.length ≤ t_succ_c := k_t_succ.h3
  have k_t_fingers : SlK M PeerV.segs 21 ⟨t_fingers_a, t_fingers_c, t_fingers_l⟩ := ht0.h1
  have s_t_fingers : SlM M t_fingers_a (t_fingers_l.map PeerV.segs) 21 := k_t_fingers.h1
  have n_t_fingers : (t_fingers_l.map PeerV.segs).length = t_fingers_l.length := List.length_map ..
  have m_t_fingers : t_fingers_l.length ≤ 9223372036854775807 := k_t_fingers.h2
  have c_t_fingers : t_fingers_l.length ≤ t_fingers_c := k_t_fingers.h3
  have k_rest : SlK M PeerV.segs 21 ⟨rest_a, rest_c, rest_l⟩ := hrest1
  have s_rest : SlM M rest_a (rest_l.map PeerV.segs) 21 := k_rest.h1
  have n_rest : (rest_l.map PeerV.segs).length = rest_l.length := List.length_map ..
  have m_rest : rest_l.length ≤ 9223372036854775807 := k_rest.h2
  have c_rest : rest_l.length ≤ rest_c := k_rest.h3
  refine fn_enter Try.func19 rfl Try.ntmps19 rfl ?_; intro H
  refine C_seq ?_
  refine C_region (l := [0, 1, 2, 3]) rfl ?_
  refine Y_box ?_; intro b1
  refine Y_box ?_; intro b2
  refine Y_alloc F.zero28 ?_; intro b3
  refine Y_assign ?_
  refine XD_end ?_
  refine K_then ?_
  refine Y_pk [9, 8, 5, 4, 2, 3] ?_
  iterate 2 refine C_seq ?_
  refine C_region (l := [0, 1, 2, 3, 4, 5, 6, 7, 8, 9, 10, 11, 12, 13, 14, 15, 16]) rfl ?_
  refine Y_load F.lay28 ?_
  refine X_fs rfl rfl F.ok31 rfl (IsT_ok _ ⟨⟨_, _⟩, ⟨_, _⟩, ⟨_, _, _⟩, ⟨_, _, _⟩⟩ (by assumption)) rfl ?_
  rintro _ rfl
  refine Y_not ?_
  refine Y_move ?_
  refine XD_part 15 rfl (fun hc4 => ?_) (fun hc4 => ?_)
  ·replace hc4 := nT hc4
   iterate 4 refine Y_skip ?_
   refine Y_pick ?_
   refine Y_move ?_
   iterate 2 refine Y_skip ?_
   refine Y_pick ?_
   refine Y_move ?_
   iterate 2 refine Y_skip ?_
   refine Y_pick ?_
   refine XD_end ?_
   refine K_then ?_
   refine Y_pk [28, 9, 8, 5, 4, 2, 3] ?_
   refine C_true rfl ?_
   refine C_seq ?_
   refine C_region (l := [0, 1, 2]) rfl ?_
   refine X_build rfl rfl F.bld28 (.nil) rfl rfl ?_
   refine Y_store F.lay28 ?_
   refine Y_assign ?_
   refine XD_end ?_
   refine K_then ?_
   refine Y_pk [9, 8, 5, 4, 2, 3] ?_
   refine C_ret ?_
   refine K_ret ?_
   refine K_end (.inr rfl) (.cell rfl (by repeat first | exact List.Mem.head _ | refine List.Mem.tail _ ?_ | refine List.mem_append_right _ ?_) F.lay28 rfl rfl (.tmp rfl .nil)) (fun w hw => ?_)
   refine ⟨_, M, rfl, Mem.le.refl M, hw.c, ?_⟩
   rw [show adoptT (TableV.tb ⟨⟨t_self_addr, t_self_id⟩, ⟨t_pred_addr, t_pred_id⟩, ⟨t_succ_a, t_succ_c, t_succ_l⟩, ⟨t_fingers_a, t_fingers_c, t_fingers_l⟩⟩) ⟨first_addr, first_id⟩ rest_l r = (Tb.zero, 1) from if_neg (by rintro ⟨g1, g2, g3, g4⟩; first | exact absurd g1 (by assumption) | exact absurd g2 (by assumption) | omega)]
   exact ⟨_, rfl, tabIs_zero⟩
  ·replace hc4 := nF hc4
   refine Y_load F.lay28 ?_
   refine Y_load F.lay25 ?_
   refine X_fs rfl rfl F.ok63 rfl (other_ok _ ⟨⟨_, _⟩, ⟨_, _⟩, ⟨_, _, _⟩, ⟨_, _, _⟩⟩ ⟨_, _⟩) rfl ?_
   rintro _ rfl
   refine Y_not ?_
   refine Y_pick ?_
   refine Y_move ?_
   refine XD_part 21 rfl (fun hc5 => ?_) (fun hc5 => ?_)
   ·replace hc5 := nT hc5
    simp only [PeerV.eta, TableV.eta, RouteV.eta] at hc5
    iterate 2 refine Y_skip ?_
    refine Y_pick ?_
    refine Y_move ?_
    iterate 2 refine Y_skip ?_
    refine Y_pick ?_
    refine XD_end ?_
    refine K_then ?_
    refine Y_pk [28, 9, 8, 5, 4, 2, 3] ?_
    refine C_true rfl ?_
    refine C_seq ?_
    refine C_region (l := [0, 1, 2]) rfl ?_
    refine X_build rfl rfl F.bld28 (.nil) rfl rfl ?_
    refine Y_store F.lay28 ?_
    refine Y_assign ?_
    refine XD_end ?_
    refine K_then ?_
    refine Y_pk [9, 8, 5, 4, 2, 3] ?_
    refine C_ret ?_
    refine K_ret ?_
    refine K_end (.inr rfl) (.cell rfl (by repeat first | exact List.Mem.head _ | refine List.Mem.tail _ ?_ | refine List.mem_append_right _ ?_) F.lay28 rfl rfl (.tmp rfl .nil)) (fun w hw => ?_)
    refine ⟨_, M, rfl, Mem.le.refl M, hw.c, ?_⟩
    rw [show adoptT (TableV.tb ⟨⟨t_self_addr, t_self_id⟩, ⟨t_pred_addr, t_pred_id⟩, ⟨t_succ_a, t_succ_c, t_succ_l⟩, ⟨t_fingers_a, t_fingers_c, t_fingers_l⟩⟩) ⟨first_addr, first_id⟩ rest_l r = (Tb.zero, 1) from if_neg (by rintro ⟨g1, g2, g3, g4⟩; first | exact absurd g1 (by assumption) | exact absurd g2 (by assumption) | omega)]
    exact ⟨_, rfl, tabIs_zero⟩
   ·replace hc5 := nF hc5
    simp only [PeerV.eta, TableV.eta, RouteV.eta] at hc5
    refine Y_move ?_
    refine Y_cmp ?_
    refine Y_pick ?_
    refine Y_move ?_
    refine XD_part 25 rfl (fun hc6 => ?_) (fun hc6 => ?_)
    ·replace hc6 := dT hc6
     iterate 2 refine Y_skip ?_
     refine Y_pick ?_
     refine XD_end ?_
     refine K_then ?_
     refine Y_pk [28, 9, 8, 5, 4, 2, 3] ?_
     refine C_true rfl ?_
     refine C_seq ?_
     refine C_region (l := [0, 1, 2]) rfl ?_
     refine X_build rfl rfl F.bld28 (.nil) rfl rfl ?_
     refine Y_store F.lay28 ?_
     refine Y_assign ?_
     refine XD_end ?_
     refine K_then ?_
     refine Y_pk [9, 8, 5, 4, 2, 3] ?_
     refine C_ret ?_
     refine K_ret ?_
     refine K_end (.inr rfl) (.cell rfl (by repeat first | exact List.Mem.head _ | refine List.Mem.tail _ ?_ | refine List.mem_append_right _ ?_) F.lay28 rfl rfl (.tmp rfl .nil)) (fun w hw => ?_)
     refine ⟨_, M, rfl, Mem.le.refl M, hw.c, ?_⟩
     rw [show adoptT (TableV.tb ⟨⟨t_self_addr, t_self_id⟩, ⟨t_pred_addr, t_pred_id⟩, ⟨t_succ_a, t_succ_c, t_succ_l⟩, ⟨t_fingers_a, t_fingers_c, t_fingers_l⟩⟩) ⟨first_addr, first_id⟩ rest_l r = (Tb.zero, 1) from if_neg (by rintro ⟨g1, g2, g3, g4⟩; first | exact absurd g1 (by assumption) | exact absurd g2 (by assumption) | omega)]
     exact ⟨_, rfl, tabIs_zero⟩
    ·replace hc6 := dF hc6
     refine Y_move ?_
     refine Y_cmp ?_
     refine Y_pick ?_
     refine XD_end ?_
     refine K_then ?_
     refine Y_pk [28, 9, 8, 5, 4, 2, 3] ?_
     refine C_cond rfl (fun hc7 => ?_) (fun hc7 => ?_)
     ·replace hc7 := dT hc7
      refine C_seq ?_
      refine C_region (l := [0, 1, 2]) rfl ?_
      refine X_build rfl rfl F.bld28 (.nil) rfl rfl ?_
      refine Y_store F.lay28 ?_
      refine Y_assign ?_
      refine XD_end ?_
      refine K_then ?_
      refine Y_pk [9, 8, 5, 4, 2, 3] ?_
      refine C_ret ?_
      refine K_ret ?_
      refine K_end (.inr rfl) (.cell rfl (by repeat first | exact List.Mem.head _ | refine List.Mem.tail _ ?_ | refine List.mem_append_right _ ?_) F.lay28 rfl rfl (.tmp rfl .nil)) (fun w hw => ?_)
      refine ⟨_, M, rfl, Mem.le.refl M, hw.c, ?_⟩
      rw [show adoptT (TableV.tb ⟨⟨t_self_addr, t_self_id⟩, ⟨t_pred_addr, t_pred_id⟩, ⟨t_succ_a, t_succ_c, t_succ_l⟩, ⟨t_fingers_a, t_fingers_c, t_fingers_l⟩⟩) ⟨first_addr, first_id⟩ rest_l r = (Tb.zero, 1) from if_neg (by rintro ⟨g1, g2, g3, g4⟩; first | exact absurd g1 (by assumption) | exact absurd g2 (by assumption) | omega)]
      exact ⟨_, rfl, tabIs_zero⟩
     ·replace hc7 := dF hc7
      refine C_skip ?_
      refine K_then ?_
      refine Y_pk [9, 8, 5, 4, 2, 3] ?_
      refine C_seq ?_
      refine C_region (l := [0, 1, 2, 3]) rfl ?_
      refine Y_load F.lay25 ?_
      refine X_buildSliceF rfl rfl F.elem26 F.zero25 rfl rfl (.cons rfl (by constructor) .nil) rfl rfl (by simp only [List.map_cons, List.map_nil] <;> rfl) rfl ?_; intro b8 hob9
      refine Y_fieldAddr F.foff28_2 ?_
      refine Y_store F.lay26 ?_
      refine XD_end ?_
      refine K_then ?_
      refine Y_pk [9, 8, 4, 2, 3] ?_
      iterate 2 refine C_seq ?_
      refine C_region (l := [0, 1, 2]) rfl ?_
      refine Y_move ?_
      refine Y_len_sl F.elem26 ?_
      refine Y_move ?_
      refine XD_end ?_
      refine K_then ?_
      refine Y_pk [35, 34, 33, 9, 8, 4, 3] ?_
      refine C_block ?_
      refine Y_pk [35, 34, 33, 9, 8, 4, 3] ?_
      refine C_loopO2 (Hin := [(b1, rowO [.one (.int .i64 t_self_addr), idSeg t_self_id, .one (.int .i64 t_pred_addr), idSeg t_pred_id, .one (.slice (some ⟨b8, 0, none⟩) 1 1), .one (.slice t_fingers_a t_fingers_l.length t_fingers_c)] 28)]) (Hin2 := [(b8, _)]) (.succ .zero) (by repeat first | exact Rem.here _ | exact Rem.two | apply Rem.skip | apply Rem.over) (by repeat first | exact Rem.here _ | exact Rem.two | apply Rem.skip | apply Rem.over) (fun (k : Nat) M1 h1 z => ∃ (acc : List PeerV) (v : Value) (hs : Hp), M1 = M ∧ z = [(35, .int .i64 (k : Int))] ∧ k ≤ rest_l.length ∧ h1 = (b1, rowO [.one (.int .i64 t_self_addr), idSeg t_self_id, .one (.int .i64 t_pred_addr), idSeg t_pred_id, .one v, .one (.slice t_fingers_a t_fingers_l.length t_fingers_c)] 28) :: hs ∧ OSl 25 21 v hs (acc.map PeerV.segs) ∧ (acc.length : Int) ≤ r ∧ adoptL ⟨t_self_addr, t_self_id⟩ r [⟨first_addr, first_id⟩] rest_l = adoptL ⟨t_self_addr, t_self_id⟩ r acc (rest_l.drop (k))) (fun k => rest_l.length - k) (0) (⟨[⟨first_addr, first_id⟩], _, _, rfl, rfl, by omega, rfl, hob9, by simp only [List.length_cons, List.length_nil]; omega, by rw [List.drop_zero]⟩) ?_
      rintro k M1 h1 z hm1 ⟨acc, v0, hs0, hM1, rfl, hk, rfl, ho, hr8, hI⟩
      subst hM1
      obtain ⟨ad0, cp0, rfl⟩ := ho.valL
      have hml : (acc.map PeerV.segs).length = acc.length := List.length_map ..
      refine C_seq ?_
      refine C_region (l := [0]) rfl ?_
      refine Y_cmp ?_
      refine XD_end ?_
      refine K_then ?_
      refine C_seq ?_
      refine C_cond rfl (fun hc10 => ?_) (fun hc10 => ?_)
      ·replace hc10 := dT hc10
       refine C_skip ?_
       refine K_then ?_
       refine C_seq ?_
       refine C_block ?_
       refine C_seq ?_
       refine C_region (l := [0, 1, 2, 3]) rfl ?_
       refine X_indexAddr rfl rfl rfl rfl F.elem26 (by rfl) (by omega) (by exact SlM.plain (by assumption) (by (simp; omega))) rfl ?_
       refine X_load_el rfl rfl rfl (by assumption) (by exact row_map (by omega)) F.lay25 rfl rfl rfl ?_
       refine Y_alloc F.zero25 ?_; intro b11
       refine Y_store F.lay25 ?_
       refine XD_end ?_
       refine K_then ?_
       iterate 2 refine C_seq ?_
       refine C_region (l := [0, 1, 2, 3, 4, 5, 6, 7, 8, 9, 10]) rfl ?_
       refine Y_load F.lay28 ?_
       refine Y_load F.lay25 ?_
       refine X_fs rfl rfl F.ok63 rfl (other_ok _ ⟨⟨_, _⟩, ⟨_, _⟩, ⟨_, _, _⟩, ⟨_, _, _⟩⟩ ⟨_, _⟩) rfl ?_
       rintro _ rfl
       refine Y_not ?_
       refine Y_move ?_
       refine XD_part 43 rfl (fun hc12 => ?_) (fun hc12 => ?_)
       ·replace hc12 := nT hc12
        simp only [PeerV.eta, TableV.eta, RouteV.eta] at hc12
        iterate 5 refine Y_skip ?_
        refine Y_pick ?_
        refine XD_end ?_
        refine K_then ?_
        refine C_true rfl ?_
        refine C_exit ?_
        refine K_exit ?_
        refine K_miss (by decide) ?_
        iterate 2 refine K_exit ?_
        refine K_hit ?_
        refine K_then ?_
        refine Y_pk [9, 8, 4] ?_
        refine C_seq ?_
        refine C_region (l := [0, 1, 2]) rfl ?_
        refine Y_load F.lay28 ?_
        refine Y_store F.lay28 ?_
        refine Y_assign ?_
        refine XD_end ?_
        refine K_then ?_
        refine Y_pk [9, 8] ?_
        refine C_ret ?_
        refine K_end (.inr rfl) (.cell rfl (by repeat first | exact List.Mem.head _ | refine List.Mem.tail _ ?_ | refine List.mem_append_right _ ?_) F.lay28 rfl rfl (.tmp rfl .nil)) (fun w hw => ?_)
        have hacc : adoptL ⟨t_self_addr, t_self_id⟩ r [⟨first_addr, first_id⟩] rest_l = acc := by
         rw [hI, List.drop_eq_getElem_cons (by omega : k < rest_l.length)]
         unfold adoptL
         exact if_pos (by exact .inl (by assumption))
        obtain ⟨M9, s1, g1, g2, g3, g4, g5⟩ := OSl.freezeK (f := PeerV.segs) (H := H) (l := acc) ho (hw.c)
        refine ⟨_, M9, rfl, g1, g2, ?_⟩
        rw [show adoptT (TableV.tb ⟨⟨t_self_addr, t_self_id⟩, ⟨t_pred_addr, t_pred_id⟩, ⟨t_succ_a, t_succ_c, t_succ_l⟩, ⟨t_fingers_a, t_fingers_c, t_fingers_l⟩⟩) ⟨first_addr, first_id⟩ rest_l r = ({ (TableV.tb ⟨⟨t_self_addr, t_self_id⟩, ⟨t_pred_addr, t_pred_id⟩, ⟨t_succ_a, t_succ_c, t_succ_l⟩, ⟨t_fingers_a, t_fingers_c, t_fingers_l⟩⟩) with succ := adoptL ⟨t_self_addr, t_self_id⟩ r [⟨first_addr, first_id⟩] rest_l }, 0) from if_pos ⟨by assumption, by assumption, by omega, by omega⟩]
        exact ⟨_, rfl, tabIs_mk g3 (s2 := ⟨t_fingers_a, t_fingers_c, t_fingers_l⟩) rfl g5 (k_t_fingers.mono g1) (by rw [g4, hacc]; rfl)⟩
       ·replace hc12 := nF hc12
        simp only [PeerV.eta, TableV.eta, RouteV.eta] at hc12
        refine Y_fieldAddr F.foff28_2 ?_
        refine Y_load F.lay26 ?_
        refine Y_len_sl F.elem26 ?_
        refine Y_move ?_
        refine Y_cmp ?_
        refine Y_pick ?_
        refine XD_end ?_
        refine K_then ?_
        refine C_cond rfl (fun hc13 => ?_) (fun hc13 => ?_)
        ·replace hc13 := dT hc13
         refine C_exit ?_
         refine K_exit ?_
         refine K_miss (by decide) ?_
         iterate 2 refine K_exit ?_
         refine K_hit ?_
         refine K_then ?_
         refine Y_pk [9, 8, 4] ?_
         refine C_seq ?_
         refine C_region (l := [0, 1, 2]) rfl ?_
         refine Y_load F.lay28 ?_
         refine Y_store F.lay28 ?_
         refine Y_assign ?_
         refine XD_end ?_
         refine K_then ?_
         refine Y_pk [9, 8] ?_
         refine C_ret ?_
         refine K_end (.inr rfl) (.cell rfl (by repeat first | exact List.Mem.head _ | refine List.Mem.tail _ ?_ | refine List.mem_append_right _ ?_) F.lay28 rfl rfl (.tmp rfl .nil)) (fun w hw => ?_)
         have hacc : adoptL ⟨t_self_addr, t_self_id⟩ r [⟨first_addr, first_id⟩] rest_l = acc := by
          rw [hI, List.drop_eq_getElem_cons (by omega : k < rest_l.length)]
          unfold adoptL
          exact if_pos (by exact .inr (by omega))
         obtain ⟨M9, s1, g1, g2, g3, g4, g5⟩ := OSl.freezeK (f := PeerV.segs) (H := H) (l := acc) ho (hw.c)
         refine ⟨_, M9, rfl, g1, g2, ?_⟩
         rw [show adoptT (TableV.tb ⟨⟨t_self_addr, t_self_id⟩, ⟨t_pred_addr, t_pred_id⟩, ⟨t_succ_a, t_succ_c, t_succ_l⟩, ⟨t_fingers_a, t_fingers_c, t_fingers_l⟩⟩) ⟨first_addr, first_id⟩ rest_l r = ({ (TableV.tb ⟨⟨t_self_addr, t_self_id⟩, ⟨t_pred_addr, t_pred_id⟩, ⟨t_succ_a, t_succ_c, t_succ_l⟩, ⟨t_fingers_a, t_fingers_c, t_fingers_l⟩⟩) with succ := adoptL ⟨t_self_addr, t_self_id⟩ r [⟨first_addr, first_id⟩] rest_l }, 0) from if_pos ⟨by assumption, by assumption, by omega, by omega⟩]
         exact ⟨_, rfl, tabIs_mk g3 (s2 := ⟨t_fingers_a, t_fingers_c, t_fingers_l⟩) rfl g5 (k_t_fingers.mono g1) (by rw [g4, hacc]; rfl)⟩
        ·replace hc13 := dF hc13
         refine C_skip ?_
         refine K_then ?_
         refine C_seq ?_
         refine C_region (l := [0, 1, 2, 3, 4, 5]) rfl ?_
         refine Y_fieldAddr F.foff28_2 ?_
         refine Y_load F.lay26 ?_
         refine Y_fieldAddr F.foff25_0 ?_
         refine Y_load F.lay3 ?_
         refine X_fo rfl rfl F.ok64 rfl (has_rd _ hs0 ⟨ad0, cp0, acc⟩ _ (ho.rd _) (by show acc.length ≤ 9223372036854775807; omega)) (by repeat first | exact Rem.here _ | exact Rem.two | apply Rem.skip | apply Rem.over) (putE_some rfl) ?_
         rintro _ M1 _ ⟨hM1, rfl⟩; subst M1
         refine Y_not ?_
         refine XD_end ?_
         refine K_then ?_
         refine C_cond rfl (fun hc14 => ?_) (fun hc14 => ?_)
         ·replace hc14 := nT hc14
          simp only [PeerV.eta, TableV.eta, RouteV.eta] at hc14
          refine C_region (l := [0, 1, 2, 3, 4, 5, 6]) rfl ?_
          refine Y_fieldAddr F.foff28_2 ?_
          refine Y_load F.lay26 ?_
          refine Y_load F.lay25 ?_
          refine X_buildSliceF rfl rfl F.elem26 F.zero25 rfl rfl (.cons rfl (by constructor) .nil) rfl rfl (by simp only [List.map_cons, List.map_nil] <;> rfl) rfl ?_; intro b15 hob16
          refine X_append (m := 1000000) rfl rfl rfl rfl rfl F.elem26 F.zero25 (by exact agg_size rfl) rfl (by assumption) (by repeat first | exact Rem.here _ | exact Rem.two | apply Rem.skip | apply Rem.over) (Src.own hob16.lens (by (refine rows_one1 ?_; (repeat (first | exact flat_nil | refine flat_id ?_ | (refine flat_one ?_ ?_; rfl))); done)) rfl (by repeat first | exact List.Mem.head _ | refine List.Mem.tail _ ?_ | refine List.mem_append_right _ ?_)) (by (simp; omega)) (by decide) rfl ?_; intro v19 hs18 ho17; obtain ⟨adv19, cpv19, rfl⟩ := ho17.valAt (n := acc.length + 1) (by (simp; done))
          refine Y_fieldAddr F.foff28_2 ?_
          refine Y_store F.lay26 ?_
          refine XD_end ?_
          refine K_out ?_
          refine K_then ?_
          refine C_region (l := [0, 1]) rfl ?_
          refine X_ari rfl rfl rfl rfl rfl (by exact wrap_in (by decide) (by omega)) rfl ?_
          refine Y_move ?_
          refine XD_end ?_
          refine K_roundO (a' := [(35, _)]) (k + 1) ((b1, rowO [.one (.int .i64 t_self_addr), idSeg t_self_id, .one (.int .i64 t_pred_addr), idSeg t_pred_id, .one (.slice adv19 (acc.length + 1) cpv19), .one (.slice t_fingers_a t_fingers_l.length t_fingers_c)] 28) :: hs18) (.cons (k := 35) rfl (.cons (k := 34) rfl (.cons (k := 33) rfl (.cons (k := 9) rfl (.cons (k := 8) rfl (.cons (k := 4) rfl (.cons (k := 3) rfl (.nil)))))))) (by exact Mem.le.refl _) (fun w hw => by first | exact hw | exact hw.c) ?_ ?_
          ·refine ⟨acc ++ [rest_l[k]], _, _, rfl, rfl, by omega, rfl, by rw [List.map_append]; exact ho17, by simp only [List.length_append, List.length_cons, List.length_nil]; omega, ?_⟩
           rw [hI, List.drop_eq_getElem_cons (by omega : k < rest_l.length)]
           conv => lhs; unfold adoptL
           rw [if_neg (by rintro (h | h); exact h (by assumption); omega), if_neg (by assumption)]
          ·omega
         ·replace hc14 := nF hc14
          simp only [PeerV.eta, TableV.eta, RouteV.eta] at hc14
          refine C_skip ?_
          refine K_out ?_
          refine K_then ?_
          refine C_region (l := [0, 1]) rfl ?_
          refine X_ari rfl rfl rfl rfl rfl (by exact wrap_in (by decide) (by omega)) rfl ?_
          refine Y_move ?_
          refine XD_end ?_
          refine K_roundO (a' := [(35, _)]) (k + 1) ((b1, rowO [.one (.int .i64 t_self_addr), idSeg t_self_id, .one (.int .i64 t_pred_addr), idSeg t_pred_id, .one (.slice ad0 acc.length cp0), .one (.slice t_fingers_a t_fingers_l.length t_fingers_c)] 28) :: hs0) (.cons (k := 35) rfl (.cons (k := 34) rfl (.cons (k := 33) rfl (.cons (k := 9) rfl (.cons (k := 8) rfl (.cons (k := 4) rfl (.cons (k := 3) rfl (.nil)))))))) (by exact Mem.le.refl _) (fun w hw => by first | exact hw | exact hw.c) ?_ ?_
          ·refine ⟨acc, _, _, rfl, rfl, by omega, rfl, ho, hr8, ?_⟩
           rw [hI, List.drop_eq_getElem_cons (by omega : k < rest_l.length)]
           conv => lhs; unfold adoptL
           rw [if_neg (by rintro (h | h); exact h (by assumption); omega), if_pos (by assumption)]
          ·omega
      ·replace hc10 := dF hc10
       refine C_exit ?_
       iterate 2 refine K_exit ?_
       refine K_hit ?_
       refine K_then ?_
       refine Y_pk [9, 8, 4] ?_
       refine C_seq ?_
       refine C_region (l := [0, 1, 2]) rfl ?_
       refine Y_load F.lay28 ?_
       refine Y_store F.lay28 ?_
       refine Y_assign ?_
       refine XD_end ?_
       refine K_then ?_
       refine Y_pk [9, 8] ?_
       refine C_ret ?_
       refine K_end (.inr rfl) (.cell rfl (by repeat first | exact List.Mem.head _ | refine List.Mem.tail _ ?_ | refine List.mem_append_right _ ?_) F.lay28 rfl rfl (.tmp rfl .nil)) (fun w hw => ?_)
       have hacc : adoptL ⟨t_self_addr, t_self_id⟩ r [⟨first_addr, first_id⟩] rest_l = acc := by
        rw [hI, show k = rest_l.length from by omega, List.drop_length]; simp only [adoptL]
       obtain ⟨M9, s1, g1, g2, g3, g4, g5⟩ := OSl.freezeK (f := PeerV.segs) (H := H) (l := acc) ho (hw.c)
       refine ⟨_, M9, rfl, g1, g2, ?_⟩
       rw [show adoptT (TableV.tb ⟨⟨t_self_addr, t_self_id⟩, ⟨t_pred_addr, t_pred_id⟩, ⟨t_succ_a, t_succ_c, t_succ_l⟩, ⟨t_fingers_a, t_fingers_c, t_fingers_l⟩⟩) ⟨first_addr, first_id⟩ rest_l r = ({ (TableV.tb ⟨⟨t_self_addr, t_self_id⟩, ⟨t_pred_addr, t_pred_id⟩, ⟨t_succ_a, t_succ_c, t_succ_l⟩, ⟨t_fingers_a, t_fingers_c, t_fingers_l⟩⟩) with succ := adoptL ⟨t_self_addr, t_self_id⟩ r [⟨first_addr, first_id⟩] rest_l }, 0) from if_pos ⟨by assumption, by assumption, by omega, by omega⟩]
       exact ⟨_, rfl, tabIs_mk g3 (s2 := ⟨t_fingers_a, t_fingers_c, t_fingers_l⟩) rfl g5 (k_t_fingers.mono g1) (by rw [g4, hacc]; rfl)⟩

theorem rAdopt_ok (M : Mem) (t : TableV) (first : PeerV) (rest : (Sl PeerV)) (r : Int) (ht0 : TableV.ok M t) (hrest1 : SlK M PeerV.segs 21 rest) : Esp.Fn Try.prog 20 [t.enc, first.enc, Sl.val rest, .int .i64 r] M (fun M' v => TabE M' v (adoptT t.tb first rest.l r)) := by
  obtain ⟨⟨t_self_addr, t_self_id⟩, ⟨t_pred_addr, t_pred_id⟩, ⟨t_succ_a, t_succ_c, t_succ_l⟩, ⟨t_fingers_a, t_fingers_c, t_fingers_l⟩⟩ := t
  obtain ⟨first_addr, first_id⟩ := first
  obtain ⟨rest_a, rest_c, rest_l⟩ := rest
  have k_t_succ : SlK M PeerV.segs 21 ⟨t_succ_a, t_succ_c, t_succ_l⟩ := ht0.h0
  have s_t_succ : SlM M t_succ_a (t_succ_l.map PeerV.segs) 21 := k_t_succ.h1
  have n_t_succ : (t_succ_l.map PeerV.segs).length = t_succ_l.length := List.length_map ..
  have m_t_succ : t_succ_l.length ≤ 9223372036854775807 := k_t_succ.h2
  have c_t_succ : t_succ_l.length ≤ t_succ_c := k_t_succ.h3
  have k_t_fingers : SlK M PeerV.segs 21 ⟨t_fingers_a, t_fingers_c, t_fingers_l⟩ := ht0.h1
  have s_t_fingers : SlM M t_fingers_a (t_fingers_l.map PeerV.segs) 21 := k_t_fingers.h1
  have n_t_fingers : (t_fingers_l.map PeerV.segs).length = t_fingers_l.length := List.length_map ..
  have m_t_fingers : t_fingers_l.length ≤ 9223372036854775807 := k_t_fingers.h2
  have c_t_fingers : t_fingers_l.length ≤ t_fingers_c := k_t_fingers.h3
  have k_rest : SlK M PeerV.segs 21 ⟨rest_a, rest_c, rest_l⟩ := hrest1
  have s_rest : SlM M rest_a (rest_l.map PeerV.segs) 21 := k_rest.h1
  have n_rest : (rest_l.map PeerV.segs).length = rest_l.length := List.length_map ..
  have m_rest : rest_l.length ≤ 9223372036854775807 := k_rest.h2
  have c_rest : rest_l.length ≤ rest_c := k_rest.h3
  refine fn_enter Try.func20 rfl Try.ntmps20 rfl ?_; intro H
  refine C_seq ?_
  refine C_region (l := [0, 1, 2, 3]) rfl ?_
  refine Y_box ?_; intro b1
  refine Y_box ?_; intro b2
  refine Y_alloc F.zero28 ?_; intro b3
  refine Y_assign ?_
  refine XD_end ?_
  refine K_then ?_
  refine Y_pk [9, 8, 5, 4, 2, 3] ?_
  iterate 2 refine C_seq ?_
  refine C_region (l := [0, 1, 2, 3, 4, 5, 6, 7, 8, 9, 10, 11, 12, 13, 14, 15, 16]) rfl ?_
  refine Y_load F.lay28 ?_
  refine X_fs rfl rfl F.ok32 rfl (rIsT_ok _ ⟨⟨_, _⟩, ⟨_, _⟩, ⟨_, _, _⟩, ⟨_, _, _⟩⟩ (by assumption)) rfl ?_
  rintro _ rfl
  refine Y_not ?_
  refine Y_move ?_
  refine XD_part 16 rfl (fun hc4 => ?_) (fun hc4 => ?_)
  ·replace hc4 := nT hc4
   iterate 4 refine Y_skip ?_
   refine Y_pick ?_
   refine Y_move ?_
   iterate 2 refine Y_skip ?_
   refine Y_pick ?_
   refine Y_move ?_
   iterate 2 refine Y_skip ?_
   refine Y_pick ?_
   refine XD_end ?_
   refine K_then ?_
   refine Y_pk [29, 9, 8, 5, 4, 2, 3] ?_
   refine C_true rfl ?_
   refine C_seq ?_
   refine C_region (l := [0, 1, 2]) rfl ?_
   refine X_build rfl rfl F.bld28 (.nil) rfl rfl ?_
   refine Y_store F.lay28 ?_
   refine Y_assign ?_
   refine XD_end ?_
   refine K_then ?_
   refine Y_pk [9, 8, 5, 4, 2, 3] ?_
   refine C_ret ?_
   refine K_ret ?_
   refine K_end (.inr rfl) (.cell rfl (by repeat first | exact List.Mem.head _ | refine List.Mem.tail _ ?_ | refine List.mem_append_right _ ?_) F.lay28 rfl rfl (.tmp rfl .nil)) (fun w hw => ?_)
   refine ⟨_, M, rfl, Mem.le.refl M, hw.c, ?_⟩
   rw [show adoptT (TableV.tb ⟨⟨t_self_addr, t_self_id⟩, ⟨t_pred_addr, t_pred_id⟩, ⟨t_succ_a, t_succ_c, t_succ_l⟩, ⟨t_fingers_a, t_fingers_c, t_fingers_l⟩⟩) ⟨first_addr, first_id⟩ rest_l r = (Tb.zero, 1) from if_neg (by rintro ⟨g1, g2, g3, g4⟩; first | exact absurd g1 (by assumption) | exact absurd g2 (by assumption) | omega)]
   exact ⟨_, rfl, tabIs_zero⟩
  ·replace hc4 := nF hc4
   refine Y_load F.lay28 ?_
   refine Y_load F.lay25 ?_
   refine X_fs rfl rfl F.ok65 rfl (rOther_ok _ ⟨⟨_, _⟩, ⟨_, _⟩, ⟨_, _, _⟩, ⟨_, _, _⟩⟩ ⟨_, _⟩) rfl ?_
   rintro _ rfl
   refine Y_not ?_
   refine Y_pick ?_
   refine Y_move ?_
   refine XD_part 22 rfl (fun hc5 => ?_) (fun hc5 => ?_)
   ·replace hc5 := nT hc5
    simp only [PeerV.eta, TableV.eta, RouteV.eta] at hc5
    iterate 2 refine Y_skip ?_
    refine Y_pick ?_
    refine Y_move ?_
    iterate 2 refine Y_skip ?_
    refine Y_pick ?_
    refine XD_end ?_
    refine K_then ?_
    refine Y_pk [29, 9, 8, 5, 4, 2, 3] ?_
    refine C_true rfl ?_
    refine C_seq ?_
    refine C_region (l := [0, 1, 2]) rfl ?_
    refine X_build rfl rfl F.bld28 (.nil) rfl rfl ?_
    refine Y_store F.lay28 ?_
    refine Y_assign ?_
    refine XD_end ?_
    refine K_then ?_
    refine Y_pk [9, 8, 5, 4, 2, 3] ?_
    refine C_ret ?_
    refine K_ret ?_
    refine K_end (.inr rfl) (.cell rfl (by repeat first | exact List.Mem.head _ | refine List.Mem.tail _ ?_ | refine List.mem_append_right _ ?_) F.lay28 rfl rfl (.tmp rfl .nil)) (fun w hw => ?_)
    refine ⟨_, M, rfl, Mem.le.refl M, hw.c, ?_⟩
    rw [show adoptT (TableV.tb ⟨⟨t_self_addr, t_self_id⟩, ⟨t_pred_addr, t_pred_id⟩, ⟨t_succ_a, t_succ_c, t_succ_l⟩, ⟨t_fingers_a, t_fingers_c, t_fingers_l⟩⟩) ⟨first_addr, first_id⟩ rest_l r = (Tb.zero, 1) from if_neg (by rintro ⟨g1, g2, g3, g4⟩; first | exact absurd g1 (by assumption) | exact absurd g2 (by assumption) | omega)]
    exact ⟨_, rfl, tabIs_zero⟩
   ·replace hc5 := nF hc5
    simp only [PeerV.eta, TableV.eta, RouteV.eta] at hc5
    refine Y_move ?_
    refine Y_cmp ?_
    refine Y_pick ?_
    refine Y_move ?_
    refine XD_part 26 rfl (fun hc6 => ?_) (fun hc6 => ?_)
    ·replace hc6 := dT hc6
     iterate 2 refine Y_skip ?_
     refine Y_pick ?_
     refine XD_end ?_
     refine K_then ?_
     refine Y_pk [29, 9, 8, 5, 4, 2, 3] ?_
     refine C_true rfl ?_
     refine C_seq ?_
     refine C_region (l := [0, 1, 2]) rfl ?_
     refine X_build rfl rfl F.bld28 (.nil) rfl rfl ?_
     refine Y_store F.lay28 ?_
     refine Y_assign ?_
     refine XD_end ?_
     refine K_then ?_
     refine Y_pk [9, 8, 5, 4, 2, 3] ?_
     refine C_ret ?_
     refine K_ret ?_
     refine K_end (.inr rfl) (.cell rfl (by repeat first | exact List.Mem.head _ | refine List.Mem.tail _ ?_ | refine List.mem_append_right _ ?_) F.lay28 rfl rfl (.tmp rfl .nil)) (fun w hw => ?_)
     refine ⟨_, M, rfl, Mem.le.refl M, hw.c, ?_⟩
     rw [show adoptT (TableV.tb ⟨⟨t_self_addr, t_self_id⟩, ⟨t_pred_addr, t_pred_id⟩, ⟨t_succ_a, t_succ_c, t_succ_l⟩, ⟨t_fingers_a, t_fingers_c, t_fingers_l⟩⟩) ⟨first_addr, first_id⟩ rest_l r = (Tb.zero, 1) from if_neg (by rintro ⟨g1, g2, g3, g4⟩; first | exact absurd g1 (by assumption) | exact absurd g2 (by assumption) | omega)]
     exact ⟨_, rfl, tabIs_zero⟩
    ·replace hc6 := dF hc6
     refine Y_move ?_
     refine Y_cmp ?_
     refine Y_pick ?_
     refine XD_end ?_
     refine K_then ?_
     refine Y_pk [29, 9, 8, 5, 4, 2, 3] ?_
     refine C_cond rfl (fun hc7 => ?_) (fun hc7 => ?_)
     ·replace hc7 := dT hc7
      refine C_seq ?_
      refine C_region (l := [0, 1, 2]) rfl ?_
      refine X_build rfl rfl F.bld28 (.nil) rfl rfl ?_
      refine Y_store F.lay28 ?_
      refine Y_assign ?_
      refine XD_end ?_
      refine K_then ?_
      refine Y_pk [9, 8, 5, 4, 2, 3] ?_
      refine C_ret ?_
      refine K_ret ?_
      refine K_end (.inr rfl) (.cell rfl (by repeat first | exact List.Mem.head _ | refine List.Mem.tail _ ?_ | refine List.mem_append_right _ ?_) F.lay28 rfl rfl (.tmp rfl .nil)) (fun w hw => ?_)
      refine ⟨_, M, rfl, Mem.le.refl M, hw.c, ?_⟩
      rw [show adoptT (TableV.tb ⟨⟨t_self_addr, t_self_id⟩, ⟨t_pred_addr, t_pred_id⟩, ⟨t_succ_a, t_succ_c, t_succ_l⟩, ⟨t_fingers_a, t_fingers_c, t_fingers_l⟩⟩) ⟨first_addr, first_id⟩ rest_l r = (Tb.zero, 1) from if_neg (by rintro ⟨g1, g2, g3, g4⟩; first | exact absurd g1 (by assumption) | exact absurd g2 (by assumption) | omega)]
      exact ⟨_, rfl, tabIs_zero⟩
     ·replace hc7 := dF hc7
      refine C_skip ?_
      refine K_then ?_
      refine Y_pk [9, 8, 5, 4, 2, 3] ?_
      refine C_seq ?_
      refine C_region (l := [0, 1, 2, 3]) rfl ?_
      refine Y_load F.lay28 ?_
      refine X_fn rfl rfl F.ok16 rfl (Own_ok M ⟨⟨t_self_addr, t_self_id⟩, ⟨t_pred_addr, t_pred_id⟩, ⟨t_succ_a, t_succ_c, t_succ_l⟩, ⟨t_fingers_a, t_fingers_c, t_fingers_l⟩⟩ ht0 (isTb_small (t := ⟨⟨t_self_addr, t_self_id⟩, ⟨t_pred_addr, t_pred_id⟩, ⟨t_succ_a, t_succ_c, t_succ_l⟩, ⟨t_fingers_a, t_fingers_c, t_fingers_l⟩⟩) (by assumption))) rfl ?_
      rintro _ M1 hm1 ⟨⟨⟨oa, oi⟩, ⟨oq, oj⟩, ⟨o1a, o1c, o1l⟩, ⟨o2a, o2c, o2l⟩⟩, rfl, hot, hok⟩
      simp only [TableV.tb, Tb.mk.injEq, PeerV.mk.injEq] at hot
      obtain ⟨⟨rfl, rfl⟩, ⟨rfl, rfl⟩, rfl, rfl⟩ := hot
      refine Y_alloc F.zero28 ?_; intro b8
      refine Y_store F.lay28 ?_
      refine XD_end ?_
      refine K_then ?_
      refine Y_pk [10, 9, 8, 5, 4, 2, 3] ?_
      refine C_seq ?_
      refine C_region (l := [0, 1, 2]) rfl ?_
      refine Y_load F.lay25 ?_
      refine X_buildSliceF rfl rfl F.elem26 F.zero25 rfl rfl (.cons rfl (by constructor) .nil) rfl rfl (by simp only [List.map_cons, List.map_nil] <;> rfl) rfl ?_; intro b9 hob10
      refine Y_assign ?_
      refine XD_end ?_
      refine K_then ?_
      refine Y_pk [11, 10, 9, 8, 4, 2, 3] ?_
      iterate 2 refine C_seq ?_
      refine C_region (l := [0]) rfl ?_
      refine Y_assign ?_
      refine XD_end ?_
      refine K_then ?_
      refine C_block ?_
      refine Y_pk [12, 11, 10, 9, 8, 4, 2, 3] ?_
      refine C_loopO (Hin := [(b9, _)]) (.succ (.succ .zero)) (by repeat first | exact Rem.here _ | exact Rem.two | apply Rem.skip | apply Rem.over) (fun (k : Nat) M2 h1 z => ∃ (acc : List PeerV) (v : Value), M2 = M1 ∧ z = [(12, .int .i64 (k : Int)), (11, v)] ∧ k ≤ rest_l.length ∧ OSl 25 21 v h1 (acc.map PeerV.segs) ∧ (acc.length : Int) ≤ r ∧ adoptL ⟨oa, oi⟩ r [⟨first_addr, first_id⟩] rest_l = adoptL ⟨oa, oi⟩ r acc (rest_l.drop (k))) (fun k => rest_l.length - k) (0) (⟨[⟨first_addr, first_id⟩], _, rfl, rfl, by omega, hob10, by simp only [List.length_cons, List.length_nil]; omega, by rw [List.drop_zero]⟩) ?_
      rintro k M2 h1 z hm2 ⟨acc, v0, hM2, rfl, hk, ho, hr8, hI⟩
      subst hM2
      obtain ⟨ad0, cp0, rfl⟩ := ho.valL
      have hml : (acc.map PeerV.segs).length = acc.length := List.length_map ..
      iterate 2 refine C_seq ?_
      refine C_region_any (l := [0, 1, 2, 3, 4, 5, 6, 7, 8, 9, 10, 11, 12, 13, 14, 15, 16, 17]) #[0, 0, 2, 7, 15, 31, 63, 31, 255, 511, 1023, 2047, 2047, 2047, 14335, 30719, 65535, 131071] _ rfl (by kernel_rfl) (by kernel_rfl) St.drawn (fun _ h => h) ?_
      iterate 2 refine Y_move ?_
      refine Y_len_sl F.elem26 ?_
      refine Y_cmp ?_
      refine Y_move ?_
      refine XD_part 39 rfl (fun hc11 => ?_) (fun hc11 => ?_)
      ·replace hc11 := dT hc11
       refine Y_move ?_
       refine Y_len_sl F.elem26 ?_
       refine Y_move ?_
       refine Y_cmp ?_
       refine Y_pick ?_
       refine Y_move ?_
       refine XD_part 45 rfl (fun hc12 => ?_) (fun hc12 => ?_)
       ·replace hc12 := dT hc12
        refine Y_load F.lay28 ?_
        iterate 2 refine Y_move ?_
        refine X_indexAddr rfl rfl rfl rfl F.elem26 (by rfl) (by omega) (by exact SlM.plain (by assumption) (by (simp; omega))) rfl ?_
        refine X_load_el rfl rfl rfl (by exact SlM.mono (by assumption) (by assumption)) (by exact row_map (by omega)) F.lay25 rfl rfl rfl ?_
        refine X_fs rfl rfl F.ok65 rfl (rOther_ok _ ⟨⟨_, _⟩, ⟨_, _⟩, ⟨_, _, _⟩, ⟨_, _, _⟩⟩ ⟨_, _⟩) rfl ?_
        rintro _ rfl
        refine Y_pick ?_
        refine XD_end ?_
        refine K_then ?_
        refine C_cond rfl (fun hc13 => ?_) (fun hc13 => ?_)
        ·replace hc13 := dT hc13
         simp only [PeerV.eta, TableV.eta, RouteV.eta] at hc13
         refine C_skip ?_
         refine K_then ?_
         refine C_seq ?_
         refine C_block ?_
         refine C_seq ?_
         refine C_region (l := [0, 1, 2, 3, 4, 5, 6, 7]) rfl ?_
         iterate 3 refine Y_move ?_
         refine X_indexAddr rfl rfl rfl rfl F.elem26 (by rfl) (by omega) (by exact SlM.plain (by assumption) (by (simp; omega))) rfl ?_
         refine X_fieldAddr_el rfl rfl rfl (by exact SlM.plain (by assumption) (by (simp; omega))) F.foff25_0 rfl ?_
         refine X_load_el rfl rfl rfl (by exact SlM.mono (by assumption) (by assumption)) (by exact row_map (by omega)) F.lay3 rfl rfl rfl ?_
         refine X_fo rfl rfl F.ok66 rfl (rhas_rd _ h1 ⟨ad0, cp0, acc⟩ _ (ho.rd _) (by show acc.length ≤ 9223372036854775807; omega)) (by repeat first | exact Rem.here _ | exact Rem.two | apply Rem.skip | apply Rem.over) (putE_some rfl) ?_
         rintro _ M1 _ ⟨hM1, rfl⟩; subst M1
         refine Y_not ?_
         refine XD_end ?_
         refine K_then ?_
         refine C_cond rfl (fun hc14 => ?_) (fun hc14 => ?_)
         ·replace hc14 := nT hc14
          simp only [PeerV.eta, TableV.eta, RouteV.eta] at hc14
          refine C_region (l := [0, 1, 2, 3, 4, 5, 6, 7]) rfl ?_
          iterate 3 refine Y_move ?_
          refine X_indexAddr rfl rfl rfl rfl F.elem26 (by rfl) (by omega) (by exact SlM.plain (by assumption) (by (simp; omega))) rfl ?_
          refine X_load_el rfl rfl rfl (by exact SlM.mono (by assumption) (by assumption)) (by exact row_map (by omega)) F.lay25 rfl rfl rfl ?_
          refine X_buildSliceF rfl rfl F.elem26 F.zero25 rfl rfl (.cons rfl (by constructor) .nil) rfl rfl (by simp only [List.map_cons, List.map_nil] <;> rfl) rfl ?_; intro b15 hob16
          refine X_append (m := 1000000) rfl rfl rfl rfl rfl F.elem26 F.zero25 (by exact agg_size rfl) rfl (by assumption) (by repeat first | exact Rem.here _ | exact Rem.two | apply Rem.skip | apply Rem.over) (Src.own hob16.lens (by (refine rows_one1 ?_; (repeat (first | exact flat_nil | refine flat_id ?_ | (refine flat_one ?_ ?_; rfl))); done)) rfl (by repeat first | exact List.Mem.head _ | refine List.Mem.tail _ ?_ | refine List.mem_append_right _ ?_)) (by (simp; omega)) (by decide) rfl ?_; intro v19 hs18 ho17; obtain ⟨adv19, cpv19, rfl⟩ := ho17.valAt (n := acc.length + 1) (by (simp; done))
          refine Y_assign ?_
          refine XD_end ?_
          refine K_out ?_
          refine K_then ?_
          refine C_region (l := [0, 1, 2]) rfl ?_
          refine Y_move ?_
          refine X_ari rfl rfl rfl rfl rfl (by exact wrap_in (by decide) (by omega)) rfl ?_
          refine Y_assign ?_
          refine XD_end ?_
          refine K_roundO (a' := [(12, _), (11, _)]) (k + 1) (hs18) (.cons (k := 12) rfl (.cons (k := 11) rfl (.cons (k := 10) rfl (.cons (k := 9) rfl (.cons (k := 8) rfl (.cons (k := 4) rfl (.cons (k := 2) rfl (.cons (k := 3) rfl (.nil))))))))) (by exact Mem.le.refl _) (fun w hw => by first | exact hw | exact hw.c) ?_ ?_
          ·refine ⟨acc ++ [rest_l[k]], _, rfl, rfl, by omega, by rw [List.map_append]; exact ho17, by simp only [List.length_append, List.length_cons, List.length_nil]; omega, ?_⟩
           rw [hI, List.drop_eq_getElem_cons (by omega : k < rest_l.length)]
           conv => lhs; unfold adoptL
           rw [if_neg (by rintro (h | h); exact h (by assumption); omega), if_neg (by assumption)]
          ·omega
         ·replace hc14 := nF hc14
          simp only [PeerV.eta, TableV.eta, RouteV.eta] at hc14
          refine C_skip ?_
          refine K_out ?_
          refine K_then ?_
          refine C_region (l := [0, 1, 2]) rfl ?_
          refine Y_move ?_
          refine X_ari rfl rfl rfl rfl rfl (by exact wrap_in (by decide) (by omega)) rfl ?_
          refine Y_assign ?_
          refine XD_end ?_
          refine K_roundO (a' := [(12, _), (11, _)]) (k + 1) (h1) (.cons (k := 12) rfl (.cons (k := 11) rfl (.cons (k := 10) rfl (.cons (k := 9) rfl (.cons (k := 8) rfl (.cons (k := 4) rfl (.cons (k := 2) rfl (.cons (k := 3) rfl (.nil))))))))) (by exact Mem.le.refl _) (fun w hw => by first | exact hw | exact hw.c) ?_ ?_
          ·refine ⟨acc, _, rfl, rfl, by omega, ho, hr8, ?_⟩
           rw [hI, List.drop_eq_getElem_cons (by omega : k < rest_l.length)]
           conv => lhs; unfold adoptL
           rw [if_neg (by rintro (h | h); exact h (by assumption); omega), if_pos (by assumption)]
          ·omega
        ·replace hc13 := dF hc13
         simp only [PeerV.eta, TableV.eta, RouteV.eta] at hc13
         refine C_exit ?_
         iterate 2 refine K_exit ?_
         refine K_hit ?_
         refine K_then ?_
         refine Y_pk [11, 10, 9, 8] ?_
         refine C_seq ?_
         refine C_region (l := [0, 1, 2]) rfl ?_
         refine Y_move ?_
         refine Y_fieldAddr F.foff28_2 ?_
         refine Y_store F.lay26 ?_
         refine XD_end ?_
         refine K_then ?_
         refine Y_pk [10, 9, 8] ?_
         refine C_seq ?_
         refine C_region (l := [0, 1, 2]) rfl ?_
         refine Y_load F.lay28 ?_
         refine Y_store F.lay28 ?_
         refine Y_assign ?_
         refine XD_end ?_
         refine K_then ?_
         refine Y_pk [9, 8] ?_
         refine C_ret ?_
         refine K_end (.inr rfl) (.cell rfl (by repeat first | exact List.Mem.head _ | refine List.Mem.tail _ ?_ | refine List.mem_append_right _ ?_) F.lay28 rfl rfl (.tmp rfl .nil)) (fun w hw => ?_)
         have hacc : adoptL ⟨oa, oi⟩ r [⟨first_addr, first_id⟩] rest_l = acc := by
          rw [hI, List.drop_eq_getElem_cons (by omega : k < rest_l.length)]
          unfold adoptL
          exact if_pos (by exact .inl (by assumption))
         obtain ⟨M9, s1, g1, g2, g3, g4, g5⟩ := OSl.freezeK (f := PeerV.segs) (H := H) (l := acc) ho (hw.c)
         refine ⟨_, M9, rfl, hm1.trans g1, g2, ?_⟩
         rw [show adoptT (TableV.tb ⟨⟨oa, oi⟩, ⟨oq, oj⟩, ⟨t_succ_a, t_succ_c, o1l⟩, ⟨t_fingers_a, t_fingers_c, o2l⟩⟩) ⟨first_addr, first_id⟩ rest_l r = ({ (TableV.tb ⟨⟨oa, oi⟩, ⟨oq, oj⟩, ⟨t_succ_a, t_succ_c, o1l⟩, ⟨t_fingers_a, t_fingers_c, o2l⟩⟩) with succ := adoptL ⟨oa, oi⟩ r [⟨first_addr, first_id⟩] rest_l }, 0) from if_pos ⟨by assumption, by assumption, by omega, by omega⟩]
         exact ⟨_, rfl, tabIs_mk g3 (s2 := ⟨o2a, o2c, o2l⟩) rfl g5 (hok.h1.mono g1) (by rw [g4, hacc]; rfl)⟩
       ·replace hc12 := dF hc12
        iterate 6 refine Y_skip ?_
        refine Y_pick ?_
        refine XD_end ?_
        refine K_then ?_
        refine C_false rfl ?_
        refine C_exit ?_
        iterate 2 refine K_exit ?_
        refine K_hit ?_
        refine K_then ?_
        refine Y_pk [11, 10, 9, 8] ?_
        refine C_seq ?_
        refine C_region (l := [0, 1, 2]) rfl ?_
        refine Y_move ?_
        refine Y_fieldAddr F.foff28_2 ?_
        refine Y_store F.lay26 ?_
        refine XD_end ?_
        refine K_then ?_
        refine Y_pk [10, 9, 8] ?_
        refine C_seq ?_
        refine C_region (l := [0, 1, 2]) rfl ?_
        refine Y_load F.lay28 ?_
        refine Y_store F.lay28 ?_
        refine Y_assign ?_
        refine XD_end ?_
        refine K_then ?_
        refine Y_pk [9, 8] ?_
        refine C_ret ?_
        refine K_end (.inr rfl) (.cell rfl (by repeat first | exact List.Mem.head _ | refine List.Mem.tail _ ?_ | refine List.mem_append_right _ ?_) F.lay28 rfl rfl (.tmp rfl .nil)) (fun w hw => ?_)
        have hacc : adoptL ⟨oa, oi⟩ r [⟨first_addr, first_id⟩] rest_l = acc := by
         rw [hI, List.drop_eq_getElem_cons (by omega : k < rest_l.length)]
         unfold adoptL
         exact if_pos (by exact .inr (by omega))
        obtain ⟨M9, s1, g1, g2, g3, g4, g5⟩ := OSl.freezeK (f := PeerV.segs) (H := H) (l := acc) ho (hw.c)
        refine ⟨_, M9, rfl, hm1.trans g1, g2, ?_⟩
        rw [show adoptT (TableV.tb ⟨⟨oa, oi⟩, ⟨oq, oj⟩, ⟨t_succ_a, t_succ_c, o1l⟩, ⟨t_fingers_a, t_fingers_c, o2l⟩⟩) ⟨first_addr, first_id⟩ rest_l r = ({ (TableV.tb ⟨⟨oa, oi⟩, ⟨oq, oj⟩, ⟨t_succ_a, t_succ_c, o1l⟩, ⟨t_fingers_a, t_fingers_c, o2l⟩⟩) with succ := adoptL ⟨oa, oi⟩ r [⟨first_addr, first_id⟩] rest_l }, 0) from if_pos ⟨by assumption, by assumption, by omega, by omega⟩]
        exact ⟨_, rfl, tabIs_mk g3 (s2 := ⟨o2a, o2c, o2l⟩) rfl g5 (hok.h1.mono g1) (by rw [g4, hacc]; rfl)⟩
      ·replace hc11 := dF hc11
       iterate 4 refine Y_skip ?_
       refine Y_pick ?_
       refine Y_move ?_
       iterate 6 refine Y_skip ?_
       refine Y_pick ?_
       refine XD_end ?_
       refine K_then ?_
       refine C_false rfl ?_
       refine C_exit ?_
       iterate 2 refine K_exit ?_
       refine K_hit ?_
       refine K_then ?_
       refine Y_pk [11, 10, 9, 8] ?_
       refine C_seq ?_
       refine C_region (l := [0, 1, 2]) rfl ?_
       refine Y_move ?_
       refine Y_fieldAddr F.foff28_2 ?_
       refine Y_store F.lay26 ?_
       refine XD_end ?_
       refine K_then ?_
       refine Y_pk [10, 9, 8] ?_
       refine C_seq ?_
       refine C_region (l := [0, 1, 2]) rfl ?_
       refine Y_load F.lay28 ?_
       refine Y_store F.lay28 ?_
       refine Y_assign ?_
       refine XD_end ?_
       refine K_then ?_
       refine Y_pk [9, 8] ?_
       refine C_ret ?_
       refine K_end (.inr rfl) (.cell rfl (by repeat first | exact List.Mem.head _ | refine List.Mem.tail _ ?_ | refine List.mem_append_right _ ?_) F.lay28 rfl rfl (.tmp rfl .nil)) (fun w hw => ?_)
       have hacc : adoptL ⟨oa, oi⟩ r [⟨first_addr, first_id⟩] rest_l = acc := by
        rw [hI, show k = rest_l.length from by omega, List.drop_length]; simp only [adoptL]
       obtain ⟨M9, s1, g1, g2, g3, g4, g5⟩ := OSl.freezeK (f := PeerV.segs) (H := H) (l := acc) ho (hw.c)
       refine ⟨_, M9, rfl, hm1.trans g1, g2, ?_⟩
       rw [show adoptT (TableV.tb ⟨⟨oa, oi⟩, ⟨oq, oj⟩, ⟨t_succ_a, t_succ_c, o1l⟩, ⟨t_fingers_a, t_fingers_c, o2l⟩⟩) ⟨first_addr, first_id⟩ rest_l r = ({ (TableV.tb ⟨⟨oa, oi⟩, ⟨oq, oj⟩, ⟨t_succ_a, t_succ_c, o1l⟩, ⟨t_fingers_a, t_fingers_c, o2l⟩⟩) with succ := adoptL ⟨oa, oi⟩ r [⟨first_addr, first_id⟩] rest_l }, 0) from if_pos ⟨by assumption, by assumption, by omega, by omega⟩]
       exact ⟨_, rfl, tabIs_mk g3 (s2 := ⟨o2a, o2c, o2l⟩) rfl g5 (hok.h1.mono g1) (by rw [g4, hacc]; rfl)⟩

end Go.Proofs.Ytbjklbmmchiahaa
/-
  Tables that learn.
-/
set_option linter.unusedSimpArgs false
set_option linter.unusedVariables false
set_option linter.unnecessarySimpa false
set_option maxRecDepth 8000
set_option maxHeartbeats 1000000
namespace Go.Proofs.Ytbjklbmmchiahaa
open Go.Esp


theorem Learn_ok (M : Mem) (t : TableV) (p : PeerV) (ht0 : TableV.ok M t) : Esp.Fn Try.prog 25 [t.enc, p.enc] M (fun M' v => TabIs M' v (learnT t.tb p)) := by
  obtain ⟨⟨t_self_addr, t_self_id⟩, ⟨t_pred_addr, t_pred_id⟩, ⟨t_succ_a, t_succ_c, t_succ_l⟩, ⟨t_fingers_a, t_fingers_c, t_fingers_l⟩⟩ := t
  obtain ⟨p_addr, p_id⟩ := p
  have k_t_succ : SlK M PeerV.segs 21 ⟨t_succ_a, t_succ_c, t_succ_l⟩ := ht0.h0
  have s_t_succ : SlM M t_succ_a (t_succ_l.map PeerV.segs) 21 := k_t_succ.h1
  have n_t_succ : (t_succ_l.map PeerV.segs).length = t_succ_l.length := List.length_map ..
  have m_t_succ : t_succ_l.length ≤ 9223372036854775807 := k_t_succ.h2
  have c_t_succ : t_succ_l.length ≤ t_succ_c := k_t_succ.h3
  have k_t_fingers : SlK M PeerV.segs 21 ⟨t_fingers_a, t_fingers_c, t_fingers_l⟩ := ht0.h1
  have s_t_fingers : SlM M t_fingers_a (t_fingers_l.map PeerV.segs) 21 := k_t_fingers.h1
  have n_t_fingers : (t_fingers_l.map PeerV.segs).length = t_fingers_l.length := List.length_map ..
  have m_t_fingers : t_fingers_l.length ≤ 9223372036854775807 := k_t_fingers.h2
  have c_t_fingers : t_fingers_l.length ≤ t_fingers_c := k_t_fingers.h3
  refine fn_enter Try.func25 rfl Try.ntmps25 rfl ?_; intro H
  refine C_seq ?_
  refine C_region (l := [0, 1, 2]) rfl ?_
  refine Y_box ?_; intro b1
  refine Y_box ?_; intro b2
  refine Y_alloc F.zero28 ?_; intro b3
  refine XD_end ?_
  refine K_then ?_
  refine Y_pk [4, 3, 2] ?_
  refine C_seq ?_
  refine C_block ?_
  refine C_seq ?_
  iterate 2 refine C_block ?_
  refine C_seq ?_
  refine C_block ?_
  iterate 3 refine C_seq ?_
  refine C_region (l := [0, 1, 2, 3, 4, 5, 6, 7, 8, 9]) rfl ?_
  refine Y_load F.lay28 ?_
  refine X_fs rfl rfl F.ok31 rfl (IsT_ok _ ⟨⟨_, _⟩, ⟨_, _⟩, ⟨_, _, _⟩, ⟨_, _, _⟩⟩ (by assumption)) rfl ?_
  rintro _ rfl
  refine Y_not ?_
  refine Y_move ?_
  refine XD_part 9 rfl (fun hc4 => ?_) (fun hc4 => ?_)
  ·replace hc4 := nT hc4
   iterate 4 refine Y_skip ?_
   refine Y_pick ?_
   refine Y_assign ?_
   refine XD_end ?_
   refine K_then ?_
   refine Y_pk [5, 4, 3, 2] ?_
   refine C_true rfl ?_
   refine C_exit ?_
   iterate 2 refine K_exit ?_
   refine K_hit ?_
   refine K_then ?_
   refine Y_pk [4, 3, 2] ?_
   refine C_exit ?_
   iterate 2 refine K_miss (by decide) ?_
   refine K_exit ?_
   refine K_hit ?_
   refine K_then ?_
   refine Y_pk [4, 2] ?_
   refine C_seq ?_
   refine C_region (l := [0, 1]) rfl ?_
   refine Y_load F.lay28 ?_
   refine Y_store F.lay28 ?_
   refine XD_end ?_
   refine K_then ?_
   refine Y_pk [4] ?_
   refine C_ret ?_
   refine K_end (.inr rfl) (.cell rfl (by repeat first | exact List.Mem.head _ | refine List.Mem.tail _ ?_ | refine List.mem_append_right _ ?_) F.lay28 rfl rfl .nil) (fun w hw => ?_)
   refine ⟨_, M, rfl, Mem.le.refl M, hw.c, ?_⟩
   clear hw
   exact tabIs_mk (s1 := ⟨t_succ_a, t_succ_c, t_succ_l⟩) (s2 := ⟨t_fingers_a, t_fingers_c, t_fingers_l⟩) rfl rfl k_t_succ k_t_fingers (by unfold learnT; rw [if_neg (by rintro ⟨g1, g2, g3⟩; first | exact absurd g1 (by assumption) | exact absurd g2 (by assumption) | (rcases g3 with g3 | g3; exact absurd g3 (by assumption); exact absurd g3 (by assumption)))]; rfl)
  ·replace hc4 := nF hc4
   refine Y_load F.lay28 ?_
   refine Y_load F.lay25 ?_
   refine X_fs rfl rfl F.ok63 rfl (other_ok _ ⟨⟨_, _⟩, ⟨_, _⟩, ⟨_, _, _⟩, ⟨_, _, _⟩⟩ ⟨_, _⟩) rfl ?_
   rintro _ rfl
   refine Y_not ?_
   refine Y_pick ?_
   refine Y_assign ?_
   refine XD_end ?_
   refine K_then ?_
   refine Y_pk [5, 4, 3, 2] ?_
   refine C_cond rfl (fun hc5 => ?_) (fun hc5 => ?_)
   ·replace hc5 := nT hc5
    simp only [PeerV.eta, TableV.eta, RouteV.eta] at hc5
    refine C_exit ?_
    iterate 2 refine K_exit ?_
    refine K_hit ?_
    refine K_then ?_
    refine Y_pk [4, 3, 2] ?_
    refine C_exit ?_
    iterate 2 refine K_miss (by decide) ?_
    refine K_exit ?_
    refine K_hit ?_
    refine K_then ?_
    refine Y_pk [4, 2] ?_
    refine C_seq ?_
    refine C_region (l := [0, 1]) rfl ?_
    refine Y_load F.lay28 ?_
    refine Y_store F.lay28 ?_
    refine XD_end ?_
    refine K_then ?_
    refine Y_pk [4] ?_
    refine C_ret ?_
    refine K_end (.inr rfl) (.cell rfl (by repeat first | exact List.Mem.head _ | refine List.Mem.tail _ ?_ | refine List.mem_append_right _ ?_) F.lay28 rfl rfl .nil) (fun w hw => ?_)
    refine ⟨_, M, rfl, Mem.le.refl M, hw.c, ?_⟩
    clear hw
    exact tabIs_mk (s1 := ⟨t_succ_a, t_succ_c, t_succ_l⟩) (s2 := ⟨t_fingers_a, t_fingers_c, t_fingers_l⟩) rfl rfl k_t_succ k_t_fingers (by unfold learnT; rw [if_neg (by rintro ⟨g1, g2, g3⟩; first | exact absurd g1 (by assumption) | exact absurd g2 (by assumption) | (rcases g3 with g3 | g3; exact absurd g3 (by assumption); exact absurd g3 (by assumption)))]; rfl)
   ·replace hc5 := nF hc5
    simp only [PeerV.eta, TableV.eta, RouteV.eta] at hc5
    refine C_skip ?_
    refine K_then ?_
    refine Y_pk [4, 3, 2] ?_
    iterate 2 refine C_seq ?_
    refine C_region_any (l := [0, 1, 2, 3, 4]) #[0, 1, 0, 7, 15] _ rfl (by kernel_rfl) (by kernel_rfl) St.drawn (fun _ h => h) ?_
    refine Y_fieldAddr F.foff28_1 ?_
    refine Y_load F.lay25 ?_
    refine X_fs rfl rfl F.ok61 rfl (None_ok _) rfl ?_
    rintro _ rfl
    refine XD_is 18 rfl (show _ = aggV [.one (.int .i64 (-1)), idSeg 0] from rfl) ?_
    refine X_same (m := 20) rfl rfl rfl rfl rfl (by constructor) (by constructor) F.lay25 F.kinds25 rfl F.guard25 (by exact FitPeerV (⟨_, _⟩)) (by exact FitPeerV (⟨_, _⟩)) rfl rfl rfl ?_; intro c6 he7
    replace he7 : c6 = true ↔ Segs.cells _ = Segs.cells _ := he7
    obtain rfl := eqD he7 (PeerV.inj (x := ⟨_, _⟩) (y := ⟨_, _⟩)); clear he7
    refine Y_assign ?_
    refine XD_end ?_
    refine K_then ?_
    refine Y_pk [15, 4, 3, 2] ?_
    refine C_cond rfl (fun hc8 => ?_) (fun hc8 => ?_)
    ·replace hc8 := dT hc8
     refine C_exit ?_
     iterate 2 refine K_exit ?_
     refine K_miss (by decide) ?_
     refine K_exit ?_
     refine K_hit ?_
     refine K_out ?_
     refine K_then ?_
     refine Y_pk [4, 3, 2] ?_
     refine C_seq ?_
     refine C_region (l := [0, 1, 2]) rfl ?_
     refine Y_load F.lay25 ?_
     refine Y_fieldAddr F.foff28_1 ?_
     refine Y_store F.lay25 ?_
     refine XD_end ?_
     refine K_then ?_
     refine Y_pk [4, 2] ?_
     refine C_exit ?_
     refine K_hit ?_
     refine K_then ?_
     refine C_seq ?_
     refine C_region (l := [0, 1]) rfl ?_
     refine Y_load F.lay28 ?_
     refine Y_store F.lay28 ?_
     refine XD_end ?_
     refine K_then ?_
     refine Y_pk [4] ?_
     refine C_ret ?_
     refine K_end (.inr rfl) (.cell rfl (by repeat first | exact List.Mem.head _ | refine List.Mem.tail _ ?_ | refine List.mem_append_right _ ?_) F.lay28 rfl rfl .nil) (fun w hw => ?_)
     refine ⟨_, M, rfl, Mem.le.refl M, hw.c, ?_⟩
     clear hw
     exact tabIs_mk (s1 := ⟨t_succ_a, t_succ_c, t_succ_l⟩) (s2 := ⟨t_fingers_a, t_fingers_c, t_fingers_l⟩) rfl rfl k_t_succ k_t_fingers (by unfold learnT; rw [if_pos ⟨by assumption, by assumption, by first | exact .inl (by assumption) | exact .inr (by assumption)⟩]; rfl)
    ·replace hc8 := dF hc8
     refine C_skip ?_
     refine K_then ?_
     refine Y_pk [4, 3, 2] ?_
     refine C_seq ?_
     refine C_region (l := [0, 1, 2, 3, 4, 5, 6, 7, 8, 9]) rfl ?_
     refine Y_fieldAddr F.foff28_1 ?_
     refine Y_fieldAddr F.foff25_1 ?_
     refine Y_load F.lay23 ?_
     refine Y_fieldAddr F.foff25_1 ?_
     refine Y_load F.lay23 ?_
     refine Y_fieldAddr F.foff28_0 ?_
     refine Y_fieldAddr F.foff25_1 ?_
     refine Y_load F.lay23 ?_
     refine X_fs rfl rfl F.ok42 rfl (Open_ok _ _ _ _) rfl ?_
     rintro _ rfl
     refine Y_assign ?_
     refine XD_end ?_
     refine K_then ?_
     refine Y_pk [20, 4, 3, 2] ?_
     refine C_cond rfl (fun hc9 => ?_) (fun hc9 => ?_)
     ·replace hc9 := dT hc9
      refine C_exit ?_
      refine K_exit ?_
      refine K_miss (by decide) ?_
      refine K_exit ?_
      refine K_miss (by decide) ?_
      refine K_hit ?_
      refine K_then ?_
      refine Y_pk [4, 3, 2] ?_
      refine C_seq ?_
      refine C_region (l := [0, 1, 2]) rfl ?_
      refine Y_load F.lay25 ?_
      refine Y_fieldAddr F.foff28_1 ?_
      refine Y_store F.lay25 ?_
      refine XD_end ?_
      refine K_then ?_
      refine Y_pk [4, 2] ?_
      refine C_exit ?_
      refine K_hit ?_
      refine K_then ?_
      refine C_seq ?_
      refine C_region (l := [0, 1]) rfl ?_
      refine Y_load F.lay28 ?_
      refine Y_store F.lay28 ?_
      refine XD_end ?_
      refine K_then ?_
      refine Y_pk [4] ?_
      refine C_ret ?_
      refine K_end (.inr rfl) (.cell rfl (by repeat first | exact List.Mem.head _ | refine List.Mem.tail _ ?_ | refine List.mem_append_right _ ?_) F.lay28 rfl rfl .nil) (fun w hw => ?_)
      refine ⟨_, M, rfl, Mem.le.refl M, hw.c, ?_⟩
      clear hw
      exact tabIs_mk (s1 := ⟨t_succ_a, t_succ_c, t_succ_l⟩) (s2 := ⟨t_fingers_a, t_fingers_c, t_fingers_l⟩) rfl rfl k_t_succ k_t_fingers (by unfold learnT; rw [if_pos ⟨by assumption, by assumption, by first | exact .inl (by assumption) | exact .inr (by assumption)⟩]; rfl)
     ·replace hc9 := dF hc9
      refine C_skip ?_
      refine K_then ?_
      refine Y_pk [4, 3, 2] ?_
      refine C_exit ?_
      refine K_miss (by decide) ?_
      refine K_exit ?_
      iterate 2 refine K_miss (by decide) ?_
      refine K_exit ?_
      refine K_hit ?_
      refine K_then ?_
      refine Y_pk [4, 2] ?_
      refine C_seq ?_
      refine C_region (l := [0, 1]) rfl ?_
      refine Y_load F.lay28 ?_
      refine Y_store F.lay28 ?_
      refine XD_end ?_
      refine K_then ?_
      refine Y_pk [4] ?_
      refine C_ret ?_
      refine K_end (.inr rfl) (.cell rfl (by repeat first | exact List.Mem.head _ | refine List.Mem.tail _ ?_ | refine List.mem_append_right _ ?_) F.lay28 rfl rfl .nil) (fun w hw => ?_)
      refine ⟨_, M, rfl, Mem.le.refl M, hw.c, ?_⟩
      clear hw
      exact tabIs_mk (s1 := ⟨t_succ_a, t_succ_c, t_succ_l⟩) (s2 := ⟨t_fingers_a, t_fingers_c, t_fingers_l⟩) rfl rfl k_t_succ k_t_fingers (by unfold learnT; rw [if_neg (by rintro ⟨g1, g2, g3⟩; first | exact absurd g1 (by assumption) | exact absurd g2 (by assumption) | (rcases g3 with g3 | g3; exact absurd g3 (by assumption); exact absurd g3 (by assumption)))]; rfl)

theorem rLearn_ok (M : Mem) (t : TableV) (p : PeerV) (ht0 : TableV.ok M t) (hbig : t.succ.l.length ≤ 40 ∧ t.fingers.l.length ≤ 200) : Esp.Fn Try.prog 26 [t.enc, p.enc] M (fun M' v => TabIs M' v (learnT t.tb p)) := by
  obtain ⟨⟨t_self_addr, t_self_id⟩, ⟨t_pred_addr, t_pred_id⟩, ⟨t_succ_a, t_succ_c, t_succ_l⟩, ⟨t_fingers_a, t_fingers_c, t_fingers_l⟩⟩ := t
  obtain ⟨p_addr, p_id⟩ := p
  have k_t_succ : SlK M PeerV.segs 21 ⟨t_succ_a, t_succ_c, t_succ_l⟩ := ht0.h0
  have s_t_succ : SlM M t_succ_a (t_succ_l.map PeerV.segs) 21 := k_t_succ.h1
  have n_t_succ : (t_succ_l.map PeerV.segs).length = t_succ_l.length := List.length_map ..
  have m_t_succ : t_succ_l.length ≤ 9223372036854775807 := k_t_succ.h2
  have c_t_succ : t_succ_l.length ≤ t_succ_c := k_t_succ.h3
  have k_t_fingers : SlK M PeerV.segs 21 ⟨t_fingers_a, t_fingers_c, t_fingers_l⟩ := ht0.h1
  have s_t_fingers : SlM M t_fingers_a (t_fingers_l.map PeerV.segs) 21 := k_t_fingers.h1
  have n_t_fingers : (t_fingers_l.map PeerV.segs).length = t_fingers_l.length := List.length_map ..
  have m_t_fingers : t_fingers_l.length ≤ 9223372036854775807 := k_t_fingers.h2
  have c_t_fingers : t_fingers_l.length ≤ t_fingers_c := k_t_fingers.h3
  simp only at hbig
  refine fn_enter Try.func26 rfl Try.ntmps26 rfl ?_; intro H
  refine C_seq ?_
  refine C_region (l := [0, 1, 2]) rfl ?_
  refine Y_box ?_; intro b1
  refine Y_box ?_; intro b2
  refine Y_alloc F.zero28 ?_; intro b3
  refine XD_end ?_
  refine K_then ?_
  refine Y_pk [4, 3, 2] ?_
  refine C_seq ?_
  refine C_region (l := [0, 1, 2, 3]) rfl ?_
  refine Y_load F.lay28 ?_
  refine X_fn rfl rfl F.ok16 rfl (Own_ok M ⟨⟨t_self_addr, t_self_id⟩, ⟨t_pred_addr, t_pred_id⟩, ⟨t_succ_a, t_succ_c, t_succ_l⟩, ⟨t_fingers_a, t_fingers_c, t_fingers_l⟩⟩ ht0 hbig) rfl ?_
  rintro _ M1 hm1 ⟨⟨⟨oa, oi⟩, ⟨oq, oj⟩, ⟨o1a, o1c, o1l⟩, ⟨o2a, o2c, o2l⟩⟩, rfl, hot, hok⟩
  simp only [TableV.tb, Tb.mk.injEq, PeerV.mk.injEq] at hot
  obtain ⟨⟨rfl, rfl⟩, ⟨rfl, rfl⟩, rfl, rfl⟩ := hot
  refine Y_alloc F.zero28 ?_; intro b4
  refine Y_store F.lay28 ?_
  refine XD_end ?_
  refine K_then ?_
  refine Y_pk [5, 4, 3, 2] ?_
  iterate 2 refine C_seq ?_
  refine C_region_any (l := [0, 1, 2, 3, 4, 5, 6, 7, 8, 9, 10, 11, 12, 13, 14, 15, 16, 17, 18, 19, 20, 21, 22, 23]) #[0, 1, 3, 7, 7, 31, 63, 127, 255, 511, 255, 2047, 4095, 8191, 16383, 32767, 8191, 73727, 8191, 270335, 794623, 2097151, 4194303, 8388607] _ rfl (by kernel_rfl) (by kernel_rfl) St.drawn (fun _ h => h) ?_
  refine Y_load F.lay28 ?_
  refine X_fs rfl rfl F.ok32 rfl (rIsT_ok _ ⟨⟨_, _⟩, ⟨_, _⟩, ⟨_, _, _⟩, ⟨_, _, _⟩⟩ (by exact TableV.ok.mono (by assumption) (by assumption))) rfl ?_
  rintro _ rfl
  refine Y_move ?_
  refine XD_part 10 rfl (fun hc5 => ?_) (fun hc5 => ?_)
  ·replace hc5 := dT hc5
   refine Y_load F.lay28 ?_
   refine Y_load F.lay25 ?_
   refine X_fs rfl rfl F.ok65 rfl (rOther_ok _ ⟨⟨_, _⟩, ⟨_, _⟩, ⟨_, _, _⟩, ⟨_, _, _⟩⟩ ⟨_, _⟩) rfl ?_
   rintro _ rfl
   refine Y_pick ?_
   refine Y_move ?_
   refine XD_part 15 rfl (fun hc6 => ?_) (fun hc6 => ?_)
   ·replace hc6 := dT hc6
    simp only [PeerV.eta, TableV.eta, RouteV.eta] at hc6
    refine Y_fieldAddr F.foff28_1 ?_
    refine Y_load F.lay25 ?_
    refine X_fs rfl rfl F.ok43 rfl (rNone_ok _) rfl ?_
    rintro _ rfl
    refine XD_is 18 rfl (show _ = aggV [.one (.int .i64 (-1)), idSeg 0] from rfl) ?_
    refine X_same (m := 20) rfl rfl rfl rfl rfl (by constructor) (by constructor) F.lay25 F.kinds25 rfl F.guard25 (by exact FitPeerV (⟨_, _⟩)) (by exact FitPeerV (⟨_, _⟩)) rfl rfl rfl ?_; intro c7 he8
    replace he8 : c7 = true ↔ Segs.cells _ = Segs.cells _ := he8
    obtain rfl := eqD he8 (PeerV.inj (x := ⟨_, _⟩) (y := ⟨_, _⟩)); clear he8
    refine Y_move ?_
    refine XD_part 20 rfl (fun hc9 => ?_) (fun hc9 => ?_)
    ·replace hc9 := dT hc9
     iterate 9 refine Y_skip ?_
     iterate 2 refine Y_pick ?_
     refine XD_end ?_
     refine K_then ?_
     refine Y_pk [31, 5, 4, 3] ?_
     refine C_true rfl ?_
     refine C_region (l := [0, 1, 2]) rfl ?_
     refine Y_load F.lay25 ?_
     refine Y_fieldAddr F.foff28_1 ?_
     refine Y_store F.lay25 ?_
     refine XD_end ?_
     refine K_then ?_
     refine Y_pk [5, 4] ?_
     refine C_seq ?_
     refine C_region (l := [0, 1]) rfl ?_
     refine Y_load F.lay28 ?_
     refine Y_store F.lay28 ?_
     refine XD_end ?_
     refine K_then ?_
     refine Y_pk [4] ?_
     refine C_ret ?_
     refine K_end (.inr rfl) (.cell rfl (by repeat first | exact List.Mem.head _ | refine List.Mem.tail _ ?_ | refine List.mem_append_right _ ?_) F.lay28 rfl rfl .nil) (fun w hw => ?_)
     refine ⟨_, M1, rfl, hm1, hw.c, ?_⟩
     clear hw
     exact tabIs_mk (s1 := ⟨o1a, o1c, o1l⟩) (s2 := ⟨o2a, o2c, o2l⟩) rfl rfl hok.h0 hok.h1 (by unfold learnT; rw [if_pos ⟨by assumption, by assumption, by first | exact .inl (by assumption) | exact .inr (by assumption)⟩]; rfl)
    ·replace hc9 := dF hc9
     refine Y_fieldAddr F.foff28_1 ?_
     refine Y_fieldAddr F.foff25_1 ?_
     refine Y_load F.lay23 ?_
     refine Y_fieldAddr F.foff25_1 ?_
     refine Y_load F.lay23 ?_
     refine Y_fieldAddr F.foff28_0 ?_
     refine Y_fieldAddr F.foff25_1 ?_
     refine Y_load F.lay23 ?_
     refine X_fs rfl rfl F.ok74 rfl (rOpen_ok _ _ _ _) rfl ?_
     rintro _ rfl
     iterate 2 refine Y_pick ?_
     refine XD_end ?_
     refine K_then ?_
     refine Y_pk [31, 5, 4, 3] ?_
     refine C_cond rfl (fun hc10 => ?_) (fun hc10 => ?_)
     ·replace hc10 := dT hc10
      refine C_region (l := [0, 1, 2]) rfl ?_
      refine Y_load F.lay25 ?_
      refine Y_fieldAddr F.foff28_1 ?_
      refine Y_store F.lay25 ?_
      refine XD_end ?_
      refine K_then ?_
      refine Y_pk [5, 4] ?_
      refine C_seq ?_
      refine C_region (l := [0, 1]) rfl ?_
      refine Y_load F.lay28 ?_
      refine Y_store F.lay28 ?_
      refine XD_end ?_
      refine K_then ?_
      refine Y_pk [4] ?_
      refine C_ret ?_
      refine K_end (.inr rfl) (.cell rfl (by repeat first | exact List.Mem.head _ | refine List.Mem.tail _ ?_ | refine List.mem_append_right _ ?_) F.lay28 rfl rfl .nil) (fun w hw => ?_)
      refine ⟨_, M1, rfl, hm1, hw.c, ?_⟩
      clear hw
      exact tabIs_mk (s1 := ⟨o1a, o1c, o1l⟩) (s2 := ⟨o2a, o2c, o2l⟩) rfl rfl hok.h0 hok.h1 (by unfold learnT; rw [if_pos ⟨by assumption, by assumption, by first | exact .inl (by assumption) | exact .inr (by assumption)⟩]; rfl)
     ·replace hc10 := dF hc10
      refine C_skip ?_
      refine K_then ?_
      refine Y_pk [5, 4] ?_
      refine C_seq ?_
      refine C_region (l := [0, 1]) rfl ?_
      refine Y_load F.lay28 ?_
      refine Y_store F.lay28 ?_
      refine XD_end ?_
      refine K_then ?_
      refine Y_pk [4] ?_
      refine C_ret ?_
      refine K_end (.inr rfl) (.cell rfl (by repeat first | exact List.Mem.head _ | refine List.Mem.tail _ ?_ | refine List.mem_append_right _ ?_) F.lay28 rfl rfl .nil) (fun w hw => ?_)
      refine ⟨_, M1, rfl, hm1, hw.c, ?_⟩
      clear hw
      exact tabIs_mk (s1 := ⟨o1a, o1c, o1l⟩) (s2 := ⟨o2a, o2c, o2l⟩) rfl rfl hok.h0 hok.h1 (by unfold learnT; rw [if_neg (by rintro ⟨g1, g2, g3⟩; first | exact absurd g1 (by assumption) | exact absurd g2 (by assumption) | (rcases g3 with g3 | g3; exact absurd g3 (by assumption); exact absurd g3 (by assumption)))]; rfl)
   ·replace hc6 := dF hc6
    simp only [PeerV.eta, TableV.eta, RouteV.eta] at hc6
    iterate 15 refine Y_skip ?_
    refine Y_pick ?_
    refine XD_end ?_
    refine K_then ?_
    refine Y_pk [31, 5, 4, 3] ?_
    refine C_false rfl ?_
    refine C_skip ?_
    refine K_then ?_
    refine Y_pk [5, 4] ?_
    refine C_seq ?_
    refine C_region (l := [0, 1]) rfl ?_
    refine Y_load F.lay28 ?_
    refine Y_store F.lay28 ?_
    refine XD_end ?_
    refine K_then ?_
    refine Y_pk [4] ?_
    refine C_ret ?_
    refine K_end (.inr rfl) (.cell rfl (by repeat first | exact List.Mem.head _ | refine List.Mem.tail _ ?_ | refine List.mem_append_right _ ?_) F.lay28 rfl rfl .nil) (fun w hw => ?_)
    refine ⟨_, M1, rfl, hm1, hw.c, ?_⟩
    clear hw
    exact tabIs_mk (s1 := ⟨o1a, o1c, o1l⟩) (s2 := ⟨o2a, o2c, o2l⟩) rfl rfl hok.h0 hok.h1 (by unfold learnT; rw [if_neg (by rintro ⟨g1, g2, g3⟩; first | exact absurd g1 (by assumption) | exact absurd g2 (by assumption) | (rcases g3 with g3 | g3; exact absurd g3 (by assumption); exact absurd g3 (by assumption)))]; rfl)
  ·replace hc5 := dF hc5
   iterate 3 refine Y_skip ?_
   refine Y_pick ?_
   refine Y_move ?_
   iterate 15 refine Y_skip ?_
   refine Y_pick ?_
   refine XD_end ?_
   refine K_then ?_
   refine Y_pk [31, 5, 4, 3] ?_
   refine C_false rfl ?_
   refine C_skip ?_
   refine K_then ?_
   refine Y_pk [5, 4] ?_
   refine C_seq ?_
   refine C_region (l := [0, 1]) rfl ?_
   refine Y_load F.lay28 ?_
   refine Y_store F.lay28 ?_
   refine XD_end ?_
   refine K_then ?_
   refine Y_pk [4] ?_
   refine C_ret ?_
   refine K_end (.inr rfl) (.cell rfl (by repeat first | exact List.Mem.head _ | refine List.Mem.tail _ ?_ | refine List.mem_append_right _ ?_) F.lay28 rfl rfl .nil) (fun w hw => ?_)
   refine ⟨_, M1, rfl, hm1, hw.c, ?_⟩
   clear hw
   exact tabIs_mk (s1 := ⟨o1a, o1c, o1l⟩) (s2 := ⟨o2a, o2c, o2l⟩) rfl rfl hok.h0 hok.h1 (by unfold learnT; rw [if_neg (by rintro ⟨g1, g2, g3⟩; first | exact absurd g1 (by assumption) | exact absurd g2 (by assumption) | (rcases g3 with g3 | g3; exact absurd g3 (by assumption); exact absurd g3 (by assumption)))]; rfl)

end Go.Proofs.Ytbjklbmmchiahaa
/-
  Some of a row gone.
-/
set_option linter.unusedSimpArgs false
set_option linter.unusedVariables false
set_option linter.unnecessarySimpa false
set_option maxRecDepth 8000
set_option maxHeartbeats 1000000
namespace Go.Proofs.Ytbjklbmmchiahaa
open Go.Esp


theorem DeleteFP_no (M : Mem) (Hc : Hp) (a : Option Addr) (c : Nat) (l : List PeerV) (hs : Hp) (ho : OSl 25 21 (.slice a l.length c) hs (l.map PeerV.segs)) (bl : l.length ≤ 1000000) (g : FuncId) (caps : List Value) (p : PeerV → Bool) (hok : okFn Try.prog g = true) (hc : ∀ x : PeerV, Fo Try.prog g ([x.enc] ++ caps) M Hc (fun M' v => M' = M ∧ v = .bool (p x))) (h : idxF p l = -1) : Fh Try.prog 87 [.slice a l.length c, .func (.func g) #[] caps.toArray] M (hs ++ Hc) (fun M' v Hout => M' = M ∧ ∃ hs', Hout = hs' ++ Hc ∧ OSl 25 21 v hs' ((kept p l).map PeerV.segs)) := by
  refine fh_enterF (fun H => hs ++ (Hc ++ H)) (fun _ => List.append_assoc _ _ _) Try.func87 rfl Try.ntmps87 rfl ?_; intro H
  refine C_seq ?_
  refine C_region (l := [0]) rfl ?_
  refine Y_assign ?_
  refine XD_end ?_
  refine K_then ?_
  refine C_seq ?_
  refine C_region (l := [0, 1, 2, 3]) rfl ?_
  iterate 2 refine Y_move ?_
  refine X_fo rfl rfl F.ok103 rfl (IndexFP_rd M (hs ++ Hc) ⟨a, c, l⟩ g caps p ((ho.rd M).app Hc) (by show l.length ≤ 9223372036854775807; omega) hok (fun x _ => ((hc x).frame hs).perm List.perm_append_comm)) (by repeat first | exact Rem.here _ | exact Rem.two | apply Rem.skip | apply Rem.over) (putE_some rfl) ?_
  rintro _ M1 _ ⟨hM1, rfl⟩; subst M1
  rw [h]
  refine Y_assign ?_
  refine XD_end ?_
  refine K_then ?_
  refine Y_pk [5, 4, 0, 1] ?_
  iterate 2 refine C_seq ?_
  refine C_region (l := [0, 1]) rfl ?_
  refine Y_move ?_
  refine Y_cmp ?_
  refine XD_end ?_
  refine K_then ?_
  refine Y_pk [12, 5, 4, 0, 1] ?_
  refine C_cond rfl (fun hc1 => ?_) (fun hc1 => ?_)
  ·replace hc1 := dT hc1
   simp only [PeerV.eta, TableV.eta, RouteV.eta] at hc1
   refine C_seq ?_
   refine C_region (l := [0, 1]) rfl ?_
   refine Y_move ?_
   refine Y_assign ?_
   refine XD_end ?_
   refine K_then ?_
   refine Y_pk [4, 5, 0, 1] ?_
   refine C_ret ?_
   refine K_ret ?_
   refine K_end (.inr rfl) (.tmp rfl .nil) (fun w hw => ?_)
   exact ⟨_, M, hs ++ Hc, rfl, Mem.le.refl M, hw.c, rfl, hs, rfl, by rw [kept_none h]; exact ho⟩
  ·replace hc1 := dF hc1
   simp only [PeerV.eta, TableV.eta, RouteV.eta] at hc1
   (exfalso; simp [eqX] at hc1; done)

theorem DeleteFP_yes (M : Mem) (Hc : Hp) (b : Nat) (c : Nat) (l : List PeerV) (hs : Hp) (ho : OSl 25 21 (.slice (some ⟨b, 0, none⟩) l.length c) hs (l.map PeerV.segs)) (bl : l.length ≤ 1000000) (g : FuncId) (caps : List Value) (p : PeerV → Bool) (hok : okFn Try.prog g = true) (hc : ∀ x : PeerV, Fo Try.prog g ([x.enc] ++ caps) M Hc (fun M' v => M' = M ∧ v = .bool (p x))) (i0 : Nat) (h : idxF p l = (i0 : Nat)) (hi0 : i0 < l.length) (hk0 : kept p (l.take (i0 + 1)) = l.take i0) : Fh Try.prog 87 [.slice (some ⟨b, 0, none⟩) l.length c, .func (.func g) #[] caps.toArray] M (hs ++ Hc) (fun M' v Hout => M' = M ∧ ∃ hs', Hout = hs' ++ Hc ∧ OSl 25 21 v hs' ((kept p l).map PeerV.segs)) := by
  refine fh_enterF (fun H => hs ++ (Hc ++ H)) (fun _ => List.append_assoc _ _ _) Try.func87 rfl Try.ntmps87 rfl ?_; intro H
  refine C_seq ?_
  refine C_region (l := [0]) rfl ?_
  refine Y_assign ?_
  refine XD_end ?_
  refine K_then ?_
  refine C_seq ?_
  refine C_region (l := [0, 1, 2, 3]) rfl ?_
  iterate 2 refine Y_move ?_
  refine X_fo rfl rfl F.ok103 rfl (IndexFP_rd M (hs ++ Hc) ⟨some ⟨b, 0, none⟩, c, l⟩ g caps p ((ho.rd M).app Hc) (by show l.length ≤ 9223372036854775807; omega) hok (fun x _ => ((hc x).frame hs).perm List.perm_append_comm)) (by repeat first | exact Rem.here _ | exact Rem.two | apply Rem.skip | apply Rem.over) (putE_some rfl) ?_
  rintro _ M1 _ ⟨hM1, rfl⟩; subst M1
  rw [h]
  refine Y_assign ?_
  refine XD_end ?_
  refine K_then ?_
  refine Y_pk [5, 4, 0, 1] ?_
  iterate 2 refine C_seq ?_
  refine C_region (l := [0, 1]) rfl ?_
  refine Y_move ?_
  refine Y_cmp ?_
  refine XD_end ?_
  refine K_then ?_
  refine Y_pk [12, 5, 4, 0, 1] ?_
  refine C_cond rfl (fun hc1 => ?_) (fun hc1 => ?_)
  ·skip
   replace hc1 := dT hc1
   (exfalso; omega)
  ·skip
   replace hc1 := dF hc1
   refine C_skip ?_
   refine K_then ?_
   refine Y_pk [5, 4, 0, 1] ?_
   iterate 2 refine C_seq ?_
   refine C_region (l := [0, 1, 2]) rfl ?_
   refine Y_move ?_
   refine X_ari rfl rfl rfl rfl rfl (by exact wrap_in (by decide) (by omega)) rfl ?_
   refine Y_assign ?_
   refine XD_end ?_
   refine K_then ?_
   refine Y_pk [6, 5, 4, 0, 1] ?_
   refine C_block ?_
   refine Y_pk [5, 6, 4, 0, 1] ?_
   refine C_loopO (Hin := hs) (.succ (.succ .zero)) (by repeat first | exact Rem.here _ | exact Rem.two | apply Rem.skip | apply Rem.over) (fun (j : Nat) M1 h1 z => ∃ (i : Nat) (w : List PeerV), M1 = M ∧ z = [(5, .int .i64 (i : Int)), (6, .int .i64 (j : Int))] ∧ i < j ∧ j ≤ l.length ∧ w.length = l.length ∧ w.take i = kept p (l.take j) ∧ w.drop j = l.drop j ∧ i = (kept p (l.take j)).length ∧ OSl 25 21 (.slice (some ⟨b, 0, none⟩) l.length c) h1 (w.map PeerV.segs)) (fun j => l.length - j) (i0 + 1) (⟨i0, l, rfl, rfl, by omega, by omega, rfl, hk0.symm, rfl, by rw [hk0]; simp; omega, ho⟩) ?_
   rintro j M1 h1 z hm1 ⟨i, w, hM1, rfl, hij, hj, hwl, hw1, hw2, hi9, ho1⟩
   subst hM1
   have hnw : (w.map PeerV.segs).length = w.length := List.length_map ..
   iterate 2 refine C_seq ?_
   refine C_region (l := [0, 1, 2, 3]) rfl ?_
   iterate 2 refine Y_move ?_
   refine Y_len_sl F.elem26 ?_
   refine Y_cmp ?_
   refine XD_end ?_
   refine K_then ?_
   refine C_cond rfl (fun hc2 => ?_) (fun hc2 => ?_)
   ·skip
    replace hc2 := dT hc2
    refine C_skip ?_
    refine K_then ?_
    refine C_seq ?_
    refine C_block ?_
    refine C_seq ?_
    refine C_region (l := [0, 1, 2, 3, 4, 5]) rfl ?_
    iterate 2 refine Y_move ?_
    refine X_indexAddr rfl rfl rfl rfl F.elem26 (by rfl) (by omega) (by exact ⟨_, _, rfl⟩) rfl ?_
    refine X_load_osl rfl rfl rfl (by assumption) (by repeat first | exact Rem.here _ | exact Rem.two | apply Rem.skip | apply Rem.over) (by exact row_map (by omega)) F.lay25 rfl rfl rfl ?_
    refine Y_alloc F.zero25 ?_; intro b3
    refine Y_store F.lay25 ?_
    refine XD_end ?_
    refine K_then ?_
    refine C_seq ?_
    refine C_region (l := [0, 1, 2, 3]) rfl ?_
    refine Y_move ?_
    refine Y_load F.lay25 ?_
    refine X_foV rfl rfl rfl hok rfl rfl (hc w[j]) (by repeat first | exact Rem.here _ | exact Rem.two | apply Rem.skip | apply Rem.over) (putE_some rfl) ?_
    rintro _ M1 _ ⟨hM1, rfl⟩; subst M1
    refine Y_not ?_
    refine XD_end ?_
    refine K_then ?_
    refine C_cond rfl (fun hc4 => ?_) (fun hc4 => ?_)
    ·simp only [Bool.not_eq_true', Bool.not_eq_false'] at hc4
     have hP := hc4
     refine C_seq ?_
     refine C_region (l := [0, 1, 2, 3, 4]) rfl ?_
     iterate 2 refine Y_move ?_
     refine Y_load F.lay25 ?_
     refine X_indexAddr rfl rfl rfl rfl F.elem26 (by rfl) (by omega) (by exact ⟨_, _, rfl⟩) rfl ?_
     refine X_storeO (b := b) (j := i) rfl rfl rfl rfl (by constructor) (flat_one rfl (flat_id flat_nil)) F.lay25 rfl rfl ho1 (by repeat first | exact Rem.here _ | exact Rem.two | apply Rem.skip | apply Rem.over) (by omega) ?_; intro hs7 ho7
     replace ho7 : OSl 25 21 (.slice (some ⟨b, 0, none⟩) l.length c) hs7 ((w.set i w[j]).map PeerV.segs) := by rw [List.map_set]; exact ho7.as (by simp; omega)
     refine XD_end ?_
     refine K_then ?_
     refine C_region (l := [0, 1, 2]) rfl ?_
     refine Y_move ?_
     refine X_ari rfl rfl rfl rfl rfl (by exact wrap_in (by decide) (by omega)) rfl ?_
     refine Y_assign ?_
     refine XD_end ?_
     refine K_out ?_
     refine K_then ?_
     refine C_region (l := [0, 1, 2]) rfl ?_
     refine Y_move ?_
     refine X_ari rfl rfl rfl rfl rfl (by exact wrap_in (by decide) (by omega)) rfl ?_
     refine Y_assign ?_
     refine XD_end ?_
     refine K_roundO (a' := [(5, _), (6, _)]) (j + 1) (hs7) (.cons (k := 5) rfl (.cons (k := 6) rfl (.cons (k := 4) rfl (.cons (k := 0) rfl (.cons (k := 1) rfl (.nil)))))) (by exact Mem.le.refl _) (fun w hw => by first | exact hw | exact hw.c) ?_ ?_
     ·have hd9 := drop_at hwl (by omega : j < l.length) hw2
      have hp9 : p l[j] = false := by rw [← hd9]; simpa using hP
      obtain ⟨e1, e2, e3⟩ := keep_put hwl hij (by omega : j < l.length) hw1 hw2
      exact ⟨i + 1, w.set i l[j], rfl, rfl, by omega, by omega, e1, by rw [e2, filt_step (by omega : j < l.length), hp9]; rfl, e3, by rw [filt_step (by omega : j < l.length), hp9]; simp; omega, by rw [← hd9]; exact ho7⟩
     ·omega
    ·simp only [Bool.not_eq_true', Bool.not_eq_false'] at hc4
     have hP := hc4
     refine C_skip ?_
     refine K_out ?_
     refine K_then ?_
     refine C_region (l := [0, 1, 2]) rfl ?_
     refine Y_move ?_
     refine X_ari rfl rfl rfl rfl rfl (by exact wrap_in (by decide) (by omega)) rfl ?_
     refine Y_assign ?_
     refine XD_end ?_
     refine K_roundO (a' := [(5, _), (6, _)]) (j + 1) (h1) (.cons (k := 5) rfl (.cons (k := 6) rfl (.cons (k := 4) rfl (.cons (k := 0) rfl (.cons (k := 1) rfl (.nil)))))) (by exact Mem.le.refl _) (fun w hw => by first | exact hw | exact hw.c) ?_ ?_
     ·have hd9 := drop_at hwl (by omega : j < l.length) hw2
      have hp9 : p l[j] = true := by rw [← hd9]; simpa using hP
      exact ⟨i, w, rfl, rfl, by omega, by omega, hwl, by rw [hw1, filt_step (by omega : j < l.length), hp9]; rfl, by have := congrArg (List.drop 1) hw2; simpa [List.drop_drop] using this, by rw [filt_step (by omega : j < l.length), hp9]; simpa using hi9, ho1⟩
     ·omega
   ·skip
    replace hc2 := dF hc2
    refine C_exit ?_
    iterate 2 refine K_exit ?_
    refine K_hit ?_
    refine K_then ?_
    refine Y_pk [5, 4, 0] ?_
    refine C_seq ?_
    refine C_region (l := [0, 1, 2, 3]) rfl ?_
    iterate 2 refine Y_move ?_
    obtain rfl : j = l.length := by omega
    rw [List.take_length] at hw1 hi9
    have hcc := ho1.caps
    refine X_slice rfl rfl rfl (.some (k := i) rfl rfl) .none .none F.elem26 (by simp) (by simp only [Option.getD_none, Option.getD_some]; omega) (by simp only [Option.getD_none, Option.getD_some]; omega) (by simp) (show pieceV (some ⟨b, 0, none⟩) 21 i l.length c = .slice (some ⟨b, 0 + i * 21, none⟩) (l.length - i) (c - i) from pieceV_in (by omega)) rfl ?_
    have hcut : OSl 25 21 (.slice (some ⟨b, 0, none⟩) ((kept p l).map PeerV.segs).length c) h1 ((kept p l).map PeerV.segs) := (by have h9 := OSl.cut (k := i) (ho1.as rfl) (by omega); rw [← List.map_take, hw1] at h9; exact h9.as rfl)
    have hkl : ((kept p l).map PeerV.segs).length = i := by simp; omega
    refine X_clear_own rfl rfl rfl rfl rfl F.elem26 F.zero25 (agg_size rfl) (flat_all (flat_one rfl (flat_id flat_nil))) hcut (by repeat first | exact Rem.here _ | exact Rem.two | apply Rem.skip | apply Rem.over) (by omega) (by omega) putE_none ?_; intro hs8 ho8
    refine XD_end ?_
    refine K_then ?_
    refine Y_pk [5, 4, 0] ?_
    refine C_seq ?_
    refine C_region (l := [0, 1, 2, 3]) rfl ?_
    iterate 2 refine Y_move ?_
    refine X_slice rfl rfl rfl .none (.some (k := i) rfl rfl) .none F.elem26 (by simp) (by simp only [Option.getD_none, Option.getD_some]; omega) (by simp only [Option.getD_none, Option.getD_some]; omega) (by simp) (show pieceV (some ⟨b, 0, none⟩) 21 0 i c = .slice (some ⟨b, 0, none⟩) i c from pieceV_zero) rfl ?_
    refine Y_assign ?_
    refine XD_end ?_
    refine K_then ?_
    refine Y_pk [4] ?_
    refine C_ret ?_
    refine K_end (.inr rfl) (.tmp rfl .nil) (fun w hw => ?_)
    exact ⟨_, _, hs8 ++ Hc, rfl, Mem.le.refl _, hw.c, rfl, hs8, rfl, ho8.as (by omega)⟩

theorem DeleteFP_ok (M : Mem) (Hc : Hp) (a : Option Addr) (c : Nat) (l : List PeerV) (hs : Hp) (ho : OSl 25 21 (.slice a l.length c) hs (l.map PeerV.segs)) (bl : l.length ≤ 1000000) (g : FuncId) (caps : List Value) (p : PeerV → Bool) (hok : okFn Try.prog g = true) (hc : ∀ x : PeerV, Fo Try.prog g ([x.enc] ++ caps) M Hc (fun M' v => M' = M ∧ v = .bool (p x))) : Fh Try.prog 87 [.slice a l.length c, .func (.func g) #[] caps.toArray] M (hs ++ Hc) (fun M' v Hout => M' = M ∧ ∃ hs', Hout = hs' ++ Hc ∧ OSl 25 21 v hs' ((kept p l).map PeerV.segs)) := by
  by_cases h : idxF p l = -1
  ·exact DeleteFP_no M Hc a c l hs ho bl g caps p hok hc h
  ·obtain ⟨i0, h1, h2, h3, h4⟩ := idxF_some h
   obtain ⟨b, rfl⟩ := ho.someB (by omega)
   exact DeleteFP_yes M Hc b c l hs ho bl g caps p hok hc i0 h1 h2 h3

end Go.Proofs.Ytbjklbmmchiahaa
/-
  What is forgotten.
-/
set_option linter.unusedSimpArgs false
set_option linter.unusedVariables false
set_option linter.unnecessarySimpa false
set_option maxRecDepth 8000
set_option maxHeartbeats 1000000
namespace Go.Proofs.Ytbjklbmmchiahaa
open Go.Esp
theorem F.ok67 : okFn Try.prog 67 = true := by kernel_rfl
theorem F.ok86 : okFn Try.prog 86 = true := by kernel_rfl
theorem F.ok87 : okFn Try.prog 87 = true := by kernel_rfl

theorem gone_ok (M : Mem) (b : Nat) (a : Int) (p : PeerV) : Fo Try.prog 86 ([p.enc] ++ [.pointer (some ⟨b, 0, none⟩)]) M [(b, rowO [.one (.int .i64 a)] 3)] (fun M' v => M' = M ∧ v = .bool (decide (p.addr = a))) := by
  obtain ⟨p_addr, p_id⟩ := p
  refine fo_enter Try.func86 rfl Try.ntmps86 rfl ?_; intro H
  refine C_seq ?_
  refine C_region (l := [0, 1]) rfl ?_
  refine Y_box ?_; intro b1
  refine Y_assign ?_
  refine XD_end ?_
  refine K_then ?_
  refine Y_pk [3, 2, 1] ?_
  refine C_seq ?_
  refine C_region (l := [0, 1, 2, 3, 4]) rfl ?_
  refine Y_fieldAddr F.foff25_0 ?_
  iterate 2 refine Y_load F.lay3 ?_
  refine Y_cmp ?_
  refine Y_assign ?_
  refine XD_end ?_
  refine K_then ?_
  refine Y_pk [3] ?_
  refine C_ret ?_
  refine K_end (.inr rfl) (.tmp rfl .nil) (fun w hw => ?_)
  refine ⟨_, M, rfl, Mem.le.refl M, hw.c, rfl, ?_⟩
  clear hw
  rfl

theorem Forget_ok (M : Mem) (t : TableV) (addr : Int) (ht0 : TableV.ok M t) (hbig : t.succ.l.length ≤ 40 ∧ t.fingers.l.length ≤ 200) : Esp.Fn Try.prog 40 [t.enc, .int .i64 addr] M (fun M' v => TabIs M' v (forgetT t.tb addr)) := by
  obtain ⟨⟨t_self_addr, t_self_id⟩, ⟨t_pred_addr, t_pred_id⟩, ⟨t_succ_a, t_succ_c, t_succ_l⟩, ⟨t_fingers_a, t_fingers_c, t_fingers_l⟩⟩ := t
  have k_t_succ : SlK M PeerV.segs 21 ⟨t_succ_a, t_succ_c, t_succ_l⟩ := ht0.h0
  have s_t_succ : SlM M t_succ_a (t_succ_l.map PeerV.segs) 21 := k_t_succ.h1
  have n_t_succ : (t_succ_l.map PeerV.segs).length = t_succ_l.length := List.length_map ..
  have m_t_succ : t_succ_l.length ≤ 9223372036854775807 := k_t_succ.h2
  have c_t_succ : t_succ_l.length ≤ t_succ_c := k_t_succ.h3
  have k_t_fingers : SlK M PeerV.segs 21 ⟨t_fingers_a, t_fingers_c, t_fingers_l⟩ := ht0.h1
  have s_t_fingers : SlM M t_fingers_a (t_fingers_l.map PeerV.segs) 21 := k_t_fingers.h1
  have n_t_fingers : (t_fingers_l.map PeerV.segs).length = t_fingers_l.length := List.length_map ..
  have m_t_fingers : t_fingers_l.length ≤ 9223372036854775807 := k_t_fingers.h2
  have c_t_fingers : t_fingers_l.length ≤ t_fingers_c := k_t_fingers.h3
  simp only at hbig
  refine fn_enter Try.func40 rfl Try.ntmps40 rfl ?_; intro H
  refine C_seq ?_
  refine C_region (l := [0, 1, 2]) rfl ?_
  refine Y_box ?_; intro b1
  refine Y_box ?_; intro b2
  refine Y_alloc F.zero28 ?_; intro b3
  refine XD_end ?_
  refine K_then ?_
  refine Y_pk [4, 3, 2] ?_
  refine C_seq ?_
  refine C_region (l := [0, 1]) rfl ?_
  refine X_makeFunc rfl rfl rfl rfl rfl ?_
  refine Y_assign ?_
  refine XD_end ?_
  refine K_then ?_
  refine Y_pk [5, 4, 2] ?_
  iterate 2 refine C_seq ?_
  refine C_region (l := [0, 1, 2, 3]) rfl ?_
  refine Y_move ?_
  refine Y_fieldAddr F.foff28_1 ?_
  refine Y_load F.lay25 ?_
  refine X_foV rfl rfl rfl F.ok86 rfl rfl (gone_ok _ b2 addr ⟨t_pred_addr, t_pred_id⟩) (by repeat first | exact Rem.here _ | exact Rem.two | apply Rem.skip | apply Rem.over) (putE_some rfl) ?_
  rintro _ M1 _ ⟨hM1, rfl⟩; subst M1
  refine XD_end ?_
  refine K_then ?_
  refine Y_pk [12, 5, 4, 2] ?_
  refine C_cond rfl (fun hc4 => ?_) (fun hc4 => ?_)
  ·replace hc4 := dT hc4
   simp only [PeerV.eta, TableV.eta, RouteV.eta] at hc4
   refine C_region (l := [0, 1, 2]) rfl ?_
   refine X_fs rfl rfl F.ok61 rfl (None_ok _) rfl ?_
   rintro _ rfl
   refine XD_is 13 rfl (show _ = aggV [.one (.int .i64 (-1)), idSeg 0] from rfl) ?_
   refine Y_fieldAddr F.foff28_1 ?_
   refine Y_store F.lay25 ?_
   refine XD_end ?_
   refine K_then ?_
   refine Y_pk [5, 4, 2] ?_
   refine C_seq ?_
   refine C_region (l := [0, 1, 2, 3, 4, 5, 6]) rfl ?_
   refine Y_fieldAddr F.foff28_2 ?_
   refine Y_load F.lay26 ?_
   refine X_fhR rfl rfl F.ok67 rfl (CloneP_ok M t_succ_a t_succ_c t_succ_l k_t_succ (by omega)) (by repeat first | exact Rem.here _ | exact Rem.two | apply Rem.skip | apply Rem.over) (fun _ _ _ hm hw => (hw.lower (by exact hm)).c) (putE_some rfl) ?_
   rintro v8 M1 hs8 hm1 ⟨hM1, ho8⟩; subst M1
   obtain ⟨ad8, cp8, rfl⟩ := ho8.valL
   refine Y_move ?_
   refine X_fhR2 rfl rfl F.ok87 rfl (DeleteFP_ok M [(b2, _)] ad8 cp8 t_succ_l hs8 ho8 (by omega) 86 [_] (fun p => decide (p.addr = addr)) F.ok86 (fun x => gone_ok M b2 addr x)) (by repeat first | exact Rem.here _ | exact Rem.two | apply Rem.skip | apply Rem.over) (by repeat first | exact Rem.here _ | exact Rem.two | apply Rem.skip | apply Rem.over) (by rintro v M9 _ w hm ⟨rfl, hs9, rfl, _⟩ hw; exact hw.c) (putE_some rfl) ?_
   rintro v9 M1 _ hm1 ⟨hM1, hs9, rfl, ho9⟩; subst M1
   obtain ⟨ad9, cp9, rfl⟩ := ho9.valL
   simp only [List.append_assoc, List.cons_append, List.nil_append]
   refine Y_fieldAddr F.foff28_2 ?_
   refine Y_store F.lay26 ?_
   refine XD_end ?_
   refine K_then ?_
   refine Y_pk [5, 4, 2] ?_
   refine C_seq ?_
   refine C_region (l := [0, 1, 2, 3, 4]) rfl ?_
   refine Y_fieldAddr F.foff28_3 ?_
   refine Y_load F.lay26 ?_
   refine X_fhR rfl rfl F.ok67 rfl (CloneP_ok M t_fingers_a t_fingers_c t_fingers_l k_t_fingers (by omega)) (by repeat first | exact Rem.here _ | exact Rem.two | apply Rem.skip | apply Rem.over) (fun _ _ _ hm hw => (hw.lower (by exact hm)).c) (putE_some rfl) ?_
   rintro v7 M1 hs7 hm1 ⟨hM1, ho7⟩; subst M1
   obtain ⟨ad7, cp7, rfl⟩ := ho7.valL
   refine Y_fieldAddr F.foff28_3 ?_
   refine Y_store F.lay26 ?_
   refine XD_end ?_
   refine K_then ?_
   refine Y_pk [5, 4, 2] ?_
   iterate 2 refine C_seq ?_
   refine C_region (l := [0, 1, 2, 3]) rfl ?_
   refine Y_fieldAddr F.foff28_3 ?_
   refine Y_load F.lay26 ?_
   refine Y_len_sl F.elem26 ?_
   refine Y_move ?_
   refine XD_end ?_
   refine K_then ?_
   refine Y_pk [28, 27, 26, 5, 4, 2] ?_
   refine C_block ?_
   refine Y_pk [28, 27, 26, 5, 4, 2] ?_
   refine C_loopO (Hin := hs7) (.succ .zero) (by repeat first | exact Rem.here _ | exact Rem.two | apply Rem.skip | apply Rem.over) (fun (k : Nat) M1 h1 z => ∃ (w : List PeerV), M1 = M ∧ z = [(28, .int .i64 (k : Int))] ∧ k ≤ t_fingers_l.length ∧ w.length = t_fingers_l.length ∧ w.take k = (t_fingers_l.take k).map (gone1 addr) ∧ w.drop k = t_fingers_l.drop k ∧ OSl 25 21 (.slice ad7 t_fingers_l.length cp7) h1 (w.map PeerV.segs)) (fun k => t_fingers_l.length - k) (0) (⟨t_fingers_l, rfl, rfl, by omega, rfl, rfl, rfl, ho7⟩) ?_
   rintro k M1 h1 z hm1 ⟨w, hM1, rfl, hk, hwl, hw1, hw2, ho1⟩
   subst hM1
   have hnw : (w.map PeerV.segs).length = w.length := List.length_map ..
   refine C_seq ?_
   refine C_region (l := [0]) rfl ?_
   refine Y_cmp ?_
   refine XD_end ?_
   refine K_then ?_
   refine C_seq ?_
   refine C_cond rfl (fun hc5 => ?_) (fun hc5 => ?_)
   ·replace hc5 := dT hc5
    refine C_skip ?_
    refine K_then ?_
    refine C_seq ?_
    refine C_block ?_
    refine C_seq ?_
    refine C_region (l := [0, 1, 2, 3, 4, 5]) rfl ?_
    refine Y_move ?_
    refine X_indexAddr rfl rfl rfl rfl F.elem26 (by rfl) (by omega) (by exact OSl.plain (by assumption) (by (simp; omega))) rfl ?_
    refine X_load_osl rfl rfl rfl (by assumption) (by repeat first | exact Rem.here _ | exact Rem.two | apply Rem.skip | apply Rem.over) (by exact row_map (by omega)) F.lay25 rfl rfl rfl ?_
    refine Y_alloc F.zero25 ?_; intro b6
    refine Y_assign ?_
    refine Y_store F.lay25 ?_
    refine XD_end ?_
    refine K_then ?_
    refine C_seq ?_
    refine C_region (l := [0, 1, 2]) rfl ?_
    refine Y_move ?_
    refine Y_load F.lay25 ?_
    refine X_foV rfl rfl rfl F.ok86 rfl rfl (gone_ok _ b2 addr w[k]) (by repeat first | exact Rem.here _ | exact Rem.two | apply Rem.skip | apply Rem.over) (putE_some rfl) ?_
    rintro _ M1 _ ⟨hM1, rfl⟩; subst M1
    refine XD_end ?_
    refine K_then ?_
    refine C_cond rfl (fun hc7 => ?_) (fun hc7 => ?_)
    ·replace hc7 := dT hc7
     refine C_region_any (l := [0, 1, 2, 3, 4, 5]) #[0, 1, 0, 0, 15, 31] _ rfl (by kernel_rfl) (by kernel_rfl) St.drawn (fun _ h => h) ?_
     refine Y_fieldAddr F.foff28_3 ?_
     refine Y_load F.lay26 ?_
     refine Y_move ?_
     refine X_fs rfl rfl F.ok61 rfl (None_ok _) rfl ?_
     rintro _ rfl
     refine XD_is 39 rfl (show _ = aggV [.one (.int .i64 (-1)), idSeg 0] from rfl) ?_
     refine X_indexAddr rfl rfl rfl rfl F.elem26 (by rfl) (by omega) (by exact OSl.plain (by assumption) (by (simp; omega))) rfl ?_
     obtain ⟨b6, rfl⟩ := ho1.someB (by omega)
     refine X_storeO (b := b6) (j := k) rfl rfl rfl rfl (by constructor) (flat_one rfl (flat_id flat_nil)) F.lay25 rfl rfl ho1 (by repeat first | exact Rem.here _ | exact Rem.two | apply Rem.skip | apply Rem.over) (by omega) ?_; intro hs6 ho6
     replace ho6 : OSl 25 21 (.slice (some ⟨b6, 0, none⟩) t_fingers_l.length cp7) hs6 ((w.set k noneP).map PeerV.segs) := by rw [List.map_set]; exact ho6.as (by simp; omega)
     refine XD_end ?_
     refine K_out ?_
     refine K_then ?_
     refine C_region (l := [0, 1]) rfl ?_
     refine X_ari rfl rfl rfl rfl rfl (by exact wrap_in (by decide) (by omega)) rfl ?_
     refine Y_move ?_
     refine XD_end ?_
     refine K_roundO (a' := [(28, _)]) (k + 1) (hs6) (.cons (k := 28) rfl (.cons (k := 27) rfl (.cons (k := 26) rfl (.cons (k := 5) rfl (.cons (k := 4) rfl (.cons (k := 2) rfl (.nil))))))) (by exact Mem.le.refl _) (fun w hw => by first | exact hw | exact hw.c) ?_ ?_
     ·have hd9 := drop_at hwl (by omega : k < t_fingers_l.length) hw2
      obtain ⟨e1, e2, e3⟩ := turn_step (f := gone1 addr) (x := noneP) hwl (by omega : k < t_fingers_l.length) hw1 hw2 (by unfold gone1; rw [if_pos (by rw [← hd9]; assumption)])
      exact ⟨w.set k noneP, rfl, rfl, by omega, e1, e2, e3, ho6⟩
     ·omega
    ·replace hc7 := dF hc7
     refine C_skip ?_
     refine K_out ?_
     refine K_then ?_
     refine C_region (l := [0, 1]) rfl ?_
     refine X_ari rfl rfl rfl rfl rfl (by exact wrap_in (by decide) (by omega)) rfl ?_
     refine Y_move ?_
     refine XD_end ?_
     refine K_roundO (a' := [(28, _)]) (k + 1) (h1) (.cons (k := 28) rfl (.cons (k := 27) rfl (.cons (k := 26) rfl (.cons (k := 5) rfl (.cons (k := 4) rfl (.cons (k := 2) rfl (.nil))))))) (by exact Mem.le.refl _) (fun w hw => by first | exact hw | exact hw.c) ?_ ?_
     ·have hd9 := drop_at hwl (by omega : k < t_fingers_l.length) hw2
      obtain ⟨e2, e3⟩ := turn_stay (f := gone1 addr) hwl (by omega : k < t_fingers_l.length) hw1 hw2 (by unfold gone1; rw [if_neg (by rw [← hd9]; assumption)])
      exact ⟨w, rfl, rfl, by omega, hwl, e2, e3, ho1⟩
     ·omega
   ·replace hc5 := dF hc5
    refine C_exit ?_
    iterate 2 refine K_exit ?_
    refine K_hit ?_
    refine K_then ?_
    refine Y_pk [4, 2] ?_
    refine C_seq ?_
    refine C_region (l := [0, 1]) rfl ?_
    refine Y_load F.lay28 ?_
    refine Y_store F.lay28 ?_
    refine XD_end ?_
    refine K_then ?_
    refine Y_pk [4] ?_
    refine C_ret ?_
    refine K_end (.inr rfl) (.cell rfl (by repeat first | exact List.Mem.head _ | refine List.Mem.tail _ ?_ | refine List.mem_append_right _ ?_) F.lay28 rfl rfl .nil) (fun w hw => ?_)
    obtain rfl : k = t_fingers_l.length := by omega
    rw [List.take_length, List.take_of_length_le (by omega)] at hw1
    subst hw1
    obtain ⟨M9, s1, g1, g2, g3, g4, g5⟩ := OSl.freezeK (f := PeerV.segs) (H := h1 ++ H) ho9 (hw.c)
    obtain ⟨M8, s2, j1, j2, j3, j4, j5⟩ := OSl.freezeK (f := PeerV.segs) ho1 g2
    exact ⟨_, M8, rfl, g1.trans j1, j2, tabIs_mk g3 j3 (g5.mono j1) j5 (by rw [g4, j4, kept_ne]; unfold forgetT TableV.tb; simp only; rw [if_pos (by assumption)]; rfl)⟩
  ·replace hc4 := dF hc4
   simp only [PeerV.eta, TableV.eta, RouteV.eta] at hc4
   refine C_skip ?_
   refine K_then ?_
   refine Y_pk [5, 4, 2] ?_
   refine C_seq ?_
   refine C_region (l := [0, 1, 2, 3, 4, 5, 6]) rfl ?_
   refine Y_fieldAddr F.foff28_2 ?_
   refine Y_load F.lay26 ?_
   refine X_fhR rfl rfl F.ok67 rfl (CloneP_ok M t_succ_a t_succ_c t_succ_l k_t_succ (by omega)) (by repeat first | exact Rem.here _ | exact Rem.two | apply Rem.skip | apply Rem.over) (fun _ _ _ hm hw => (hw.lower (by exact hm)).c) (putE_some rfl) ?_
   rintro v8 M1 hs8 hm1 ⟨hM1, ho8⟩; subst M1
   obtain ⟨ad8, cp8, rfl⟩ := ho8.valL
   refine Y_move ?_
   refine X_fhR2 rfl rfl F.ok87 rfl (DeleteFP_ok M [(b2, _)] ad8 cp8 t_succ_l hs8 ho8 (by omega) 86 [_] (fun p => decide (p.addr = addr)) F.ok86 (fun x => gone_ok M b2 addr x)) (by repeat first | exact Rem.here _ | exact Rem.two | apply Rem.skip | apply Rem.over) (by repeat first | exact Rem.here _ | exact Rem.two | apply Rem.skip | apply Rem.over) (by rintro v M9 _ w hm ⟨rfl, hs9, rfl, _⟩ hw; exact hw.c) (putE_some rfl) ?_
   rintro v9 M1 _ hm1 ⟨hM1, hs9, rfl, ho9⟩; subst M1
   obtain ⟨ad9, cp9, rfl⟩ := ho9.valL
   simp only [List.append_assoc, List.cons_append, List.nil_append]
   refine Y_fieldAddr F.foff28_2 ?_
   refine Y_store F.lay26 ?_
   refine XD_end ?_
   refine K_then ?_
   refine Y_pk [5, 4, 2] ?_
   refine C_seq ?_
   refine C_region (l := [0, 1, 2, 3, 4]) rfl ?_
   refine Y_fieldAddr F.foff28_3 ?_
   refine Y_load F.lay26 ?_
   refine X_fhR rfl rfl F.ok67 rfl (CloneP_ok M t_fingers_a t_fingers_c t_fingers_l k_t_fingers (by omega)) (by repeat first | exact Rem.here _ | exact Rem.two | apply Rem.skip | apply Rem.over) (fun _ _ _ hm hw => (hw.lower (by exact hm)).c) (putE_some rfl) ?_
   rintro v7 M1 hs7 hm1 ⟨hM1, ho7⟩; subst M1
   obtain ⟨ad7, cp7, rfl⟩ := ho7.valL
   refine Y_fieldAddr F.foff28_3 ?_
   refine Y_store F.lay26 ?_
   refine XD_end ?_
   refine K_then ?_
   refine Y_pk [5, 4, 2] ?_
   iterate 2 refine C_seq ?_
   refine C_region (l := [0, 1, 2, 3]) rfl ?_
   refine Y_fieldAddr F.foff28_3 ?_
   refine Y_load F.lay26 ?_
   refine Y_len_sl F.elem26 ?_
   refine Y_move ?_
   refine XD_end ?_
   refine K_then ?_
   refine Y_pk [28, 27, 26, 5, 4, 2] ?_
   refine C_block ?_
   refine Y_pk [28, 27, 26, 5, 4, 2] ?_
   refine C_loopO (Hin := hs7) (.succ .zero) (by repeat first | exact Rem.here _ | exact Rem.two | apply Rem.skip | apply Rem.over) (fun (k : Nat) M1 h1 z => ∃ (w : List PeerV), M1 = M ∧ z = [(28, .int .i64 (k : Int))] ∧ k ≤ t_fingers_l.length ∧ w.length = t_fingers_l.length ∧ w.take k = (t_fingers_l.take k).map (gone1 addr) ∧ w.drop k = t_fingers_l.drop k ∧ OSl 25 21 (.slice ad7 t_fingers_l.length cp7) h1 (w.map PeerV.segs)) (fun k => t_fingers_l.length - k) (0) (⟨t_fingers_l, rfl, rfl, by omega, rfl, rfl, rfl, ho7⟩) ?_
   rintro k M1 h1 z hm1 ⟨w, hM1, rfl, hk, hwl, hw1, hw2, ho1⟩
   subst hM1
   have hnw : (w.map PeerV.segs).length = w.length := List.length_map ..
   refine C_seq ?_
   refine C_region (l := [0]) rfl ?_
   refine Y_cmp ?_
   refine XD_end ?_
   refine K_then ?_
   refine C_seq ?_
   refine C_cond rfl (fun hc8 => ?_) (fun hc8 => ?_)
   ·replace hc8 := dT hc8
    refine C_skip ?_
    refine K_then ?_
    refine C_seq ?_
    refine C_block ?_
    refine C_seq ?_
    refine C_region (l := [0, 1, 2, 3, 4, 5]) rfl ?_
    refine Y_move ?_
    refine X_indexAddr rfl rfl rfl rfl F.elem26 (by rfl) (by omega) (by exact OSl.plain (by assumption) (by (simp; omega))) rfl ?_
    refine X_load_osl rfl rfl rfl (by assumption) (by repeat first | exact Rem.here _ | exact Rem.two | apply Rem.skip | apply Rem.over) (by exact row_map (by omega)) F.lay25 rfl rfl rfl ?_
    refine Y_alloc F.zero25 ?_; intro b9
    refine Y_assign ?_
    refine Y_store F.lay25 ?_
    refine XD_end ?_
    refine K_then ?_
    refine C_seq ?_
    refine C_region (l := [0, 1, 2]) rfl ?_
    refine Y_move ?_
    refine Y_load F.lay25 ?_
    refine X_foV rfl rfl rfl F.ok86 rfl rfl (gone_ok _ b2 addr w[k]) (by repeat first | exact Rem.here _ | exact Rem.two | apply Rem.skip | apply Rem.over) (putE_some rfl) ?_
    rintro _ M1 _ ⟨hM1, rfl⟩; subst M1
    refine XD_end ?_
    refine K_then ?_
    refine C_cond rfl (fun hc10 => ?_) (fun hc10 => ?_)
    ·replace hc10 := dT hc10
     refine C_region_any (l := [0, 1, 2, 3, 4, 5]) #[0, 1, 0, 0, 15, 31] _ rfl (by kernel_rfl) (by kernel_rfl) St.drawn (fun _ h => h) ?_
     refine Y_fieldAddr F.foff28_3 ?_
     refine Y_load F.lay26 ?_
     refine Y_move ?_
     refine X_fs rfl rfl F.ok61 rfl (None_ok _) rfl ?_
     rintro _ rfl
     refine XD_is 39 rfl (show _ = aggV [.one (.int .i64 (-1)), idSeg 0] from rfl) ?_
     refine X_indexAddr rfl rfl rfl rfl F.elem26 (by rfl) (by omega) (by exact OSl.plain (by assumption) (by (simp; omega))) rfl ?_
     obtain ⟨b6, rfl⟩ := ho1.someB (by omega)
     refine X_storeO (b := b6) (j := k) rfl rfl rfl rfl (by constructor) (flat_one rfl (flat_id flat_nil)) F.lay25 rfl rfl ho1 (by repeat first | exact Rem.here _ | exact Rem.two | apply Rem.skip | apply Rem.over) (by omega) ?_; intro hs6 ho6
     replace ho6 : OSl 25 21 (.slice (some ⟨b6, 0, none⟩) t_fingers_l.length cp7) hs6 ((w.set k noneP).map PeerV.segs) := by rw [List.map_set]; exact ho6.as (by simp; omega)
     refine XD_end ?_
     refine K_out ?_
     refine K_then ?_
     refine C_region (l := [0, 1]) rfl ?_
     refine X_ari rfl rfl rfl rfl rfl (by exact wrap_in (by decide) (by omega)) rfl ?_
     refine Y_move ?_
     refine XD_end ?_
     refine K_roundO (a' := [(28, _)]) (k + 1) (hs6) (.cons (k := 28) rfl (.cons (k := 27) rfl (.cons (k := 26) rfl (.cons (k := 5) rfl (.cons (k := 4) rfl (.cons (k := 2) rfl (.nil))))))) (by exact Mem.le.refl _) (fun w hw => by first | exact hw | exact hw.c) ?_ ?_
     ·have hd9 := drop_at hwl (by omega : k < t_fingers_l.length) hw2
      obtain ⟨e1, e2, e3⟩ := turn_step (f := gone1 addr) (x := noneP) hwl (by omega : k < t_fingers_l.length) hw1 hw2 (by unfold gone1; rw [if_pos (by rw [← hd9]; assumption)])
      exact ⟨w.set k noneP, rfl, rfl, by omega, e1, e2, e3, ho6⟩
     ·omega
    ·replace hc10 := dF hc10
     refine C_skip ?_
     refine K_out ?_
     refine K_then ?_
     refine C_region (l := [0, 1]) rfl ?_
     refine X_ari rfl rfl rfl rfl rfl (by exact wrap_in (by decide) (by omega)) rfl ?_
     refine Y_move ?_
     refine XD_end ?_
     refine K_roundO (a' := [(28, _)]) (k + 1) (h1) (.cons (k := 28) rfl (.cons (k := 27) rfl (.cons (k := 26) rfl (.cons (k := 5) rfl (.cons (k := 4) rfl (.cons (k := 2) rfl (.nil))))))) (by exact Mem.le.refl _) (fun w hw => by first | exact hw | exact hw.c) ?_ ?_
     ·have hd9 := drop_at hwl (by omega : k < t_fingers_l.length) hw2
      obtain ⟨e2, e3⟩ := turn_stay (f := gone1 addr) hwl (by omega : k < t_fingers_l.length) hw1 hw2 (by unfold gone1; rw [if_neg (by rw [← hd9]; assumption)])
      exact ⟨w, rfl, rfl, by omega, hwl, e2, e3, ho1⟩
     ·omega
   ·replace hc8 := dF hc8
    refine C_exit ?_
    iterate 2 refine K_exit ?_
    refine K_hit ?_
    refine K_then ?_
    refine Y_pk [4, 2] ?_
    refine C_seq ?_
    refine C_region (l := [0, 1]) rfl ?_
    refine Y_load F.lay28 ?_
    refine Y_store F.lay28 ?_
    refine XD_end ?_
    refine K_then ?_
    refine Y_pk [4] ?_
    refine C_ret ?_
    refine K_end (.inr rfl) (.cell rfl (by repeat first | exact List.Mem.head _ | refine List.Mem.tail _ ?_ | refine List.mem_append_right _ ?_) F.lay28 rfl rfl .nil) (fun w hw => ?_)
    obtain rfl : k = t_fingers_l.length := by omega
    rw [List.take_length, List.take_of_length_le (by omega)] at hw1
    subst hw1
    obtain ⟨M9, s1, g1, g2, g3, g4, g5⟩ := OSl.freezeK (f := PeerV.segs) (H := h1 ++ H) ho9 (hw.c)
    obtain ⟨M8, s2, j1, j2, j3, j4, j5⟩ := OSl.freezeK (f := PeerV.segs) ho1 g2
    exact ⟨_, M8, rfl, g1.trans j1, j2, tabIs_mk g3 j3 (g5.mono j1) j5 (by rw [g4, j4, kept_ne]; unfold forgetT TableV.tb; simp only; rw [if_neg (by assumption)]; rfl)⟩

end Go.Proofs.Ytbjklbmmchiahaa
/-
  What is forgotten, by the document; what is done.
-/
set_option linter.unusedSimpArgs false
set_option linter.unusedVariables false
set_option linter.unnecessarySimpa false
set_option maxRecDepth 8000
set_option maxHeartbeats 1000000
namespace Go.Proofs.Ytbjklbmmchiahaa
open Go.Esp
theorem F.ok45 : okFn Try.prog 45 = true := by kernel_rfl
theorem F.ok70 : okFn Try.prog 70 = true := by kernel_rfl

theorem rForget_ok (M : Mem) (t : TableV) (addr : Int) (ht0 : TableV.ok M t) (hbig : t.succ.l.length ≤ 40 ∧ t.fingers.l.length ≤ 200) : Esp.Fn Try.prog 41 [t.enc, .int .i64 addr] M (fun M' v => TabIs M' v (forgetT t.tb addr)) := by
  obtain ⟨⟨t_self_addr, t_self_id⟩, ⟨t_pred_addr, t_pred_id⟩, ⟨t_succ_a, t_succ_c, t_succ_l⟩, ⟨t_fingers_a, t_fingers_c, t_fingers_l⟩⟩ := t
  have k_t_succ : SlK M PeerV.segs 21 ⟨t_succ_a, t_succ_c, t_succ_l⟩ := ht0.h0
  have s_t_succ : SlM M t_succ_a (t_succ_l.map PeerV.segs) 21 := k_t_succ.h1
  have n_t_succ : (t_succ_l.map PeerV.segs).length = t_succ_l.length := List.length_map ..
  have m_t_succ : t_succ_l.length ≤ 9223372036854775807 := k_t_succ.h2
  have c_t_succ : t_succ_l.length ≤ t_succ_c := k_t_succ.h3
  have k_t_fingers : SlK M PeerV.segs 21 ⟨t_fingers_a, t_fingers_c, t_fingers_l⟩ := ht0.h1
  have s_t_fingers : SlM M t_fingers_a (t_fingers_l.map PeerV.segs) 21 := k_t_fingers.h1
  have n_t_fingers : (t_fingers_l.map PeerV.segs).length = t_fingers_l.length := List.length_map ..
  have m_t_fingers : t_fingers_l.length ≤ 9223372036854775807 := k_t_fingers.h2
  have c_t_fingers : t_fingers_l.length ≤ t_fingers_c := k_t_fingers.h3
  simp only at hbig
  refine fn_enter Try.func41 rfl Try.ntmps41 rfl ?_; intro H
  refine C_seq ?_
  refine C_region (l := [0, 1]) rfl ?_
  refine Y_box ?_; intro b1
  refine Y_alloc F.zero28 ?_; intro b2
  refine XD_end ?_
  refine K_then ?_
  refine Y_pk [4, 2, 1] ?_
  refine C_seq ?_
  refine C_region (l := [0, 1, 2, 3, 4, 5, 6]) rfl ?_
  refine Y_fieldAddr F.foff28_0 ?_
  refine Y_load F.lay25 ?_
  refine Y_fieldAddr F.foff28_1 ?_
  refine Y_load F.lay25 ?_
  refine X_build rfl rfl F.bld28 (.cons rfl (by constructor) (.cons rfl (by constructor) .nil)) rfl rfl ?_
  refine Y_alloc F.zero28 ?_; intro b3
  refine Y_store F.lay28 ?_
  refine XD_end ?_
  refine K_then ?_
  refine Y_pk [5, 4, 2, 1] ?_
  iterate 2 refine C_seq ?_
  refine C_region (l := [0, 1, 2, 3, 4]) rfl ?_
  refine Y_fieldAddr F.foff28_1 ?_
  refine Y_fieldAddr F.foff25_0 ?_
  refine Y_load F.lay3 ?_
  refine Y_move ?_
  refine Y_cmp ?_
  refine XD_end ?_
  refine K_then ?_
  refine Y_pk [17, 5, 4, 2, 1] ?_
  refine C_cond rfl (fun hc4 => ?_) (fun hc4 => ?_)
  ·replace hc4 := dT hc4
   refine C_region (l := [0, 1, 2]) rfl ?_
   refine X_fs rfl rfl F.ok43 rfl (rNone_ok _) rfl ?_
   rintro _ rfl
   refine XD_is 18 rfl (show _ = aggV [.one (.int .i64 (-1)), idSeg 0] from rfl) ?_
   refine Y_fieldAddr F.foff28_1 ?_
   refine Y_store F.lay25 ?_
   refine XD_end ?_
   refine K_then ?_
   refine Y_pk [5, 4, 2, 1] ?_
   iterate 2 refine C_seq ?_
   refine C_region (l := [0]) rfl ?_
   refine Y_assign ?_
   refine XD_end ?_
   refine K_then ?_
   refine C_block ?_
   refine Y_pk [6, 5, 4, 2, 1] ?_
   refine C_loopO (Hin := [(b3, rowO [.one (.int .i64 t_self_addr), idSeg t_self_id, .one (.int .i64 (-1)), idSeg 0, .one (.slice none 0 0), .one (.slice none 0 0)] 28)]) (.succ .zero) (by repeat first | exact Rem.here _ | exact Rem.two | apply Rem.skip | apply Rem.over) (fun (k : Nat) M1 h1 z => ∃ (acc : List PeerV) (v : Value) (hs : Hp), M1 = M ∧ z = [(6, .int .i64 (k : Int))] ∧ k ≤ t_succ_l.length ∧ h1 = (b3, rowO [.one (.int .i64 t_self_addr), idSeg t_self_id, .one (.int .i64 (-1)), idSeg 0, .one v, .one (.slice none 0 0)] 28) :: hs ∧ OSl 25 21 v hs (acc.map PeerV.segs) ∧ acc.length ≤ k ∧ acc = kept (fun p => decide (p.addr = addr)) (t_succ_l.take k)) (fun k => t_succ_l.length - k) (0) (⟨[], _, [], rfl, rfl, by omega, rfl, OSl.nil, by simp, rfl⟩) ?_
   rintro k M1 h1 z hm1 ⟨acc, v0, hs0, hM1, rfl, hk, rfl, ho, hal, hacc⟩
   subst hM1
   obtain ⟨ad0, cp0, rfl⟩ := ho.valL
   have hml : (acc.map PeerV.segs).length = acc.length := List.length_map ..
   iterate 2 refine C_seq ?_
   refine C_region (l := [0, 1, 2, 3, 4]) rfl ?_
   refine Y_move ?_
   refine Y_fieldAddr F.foff28_2 ?_
   refine Y_load F.lay26 ?_
   refine Y_len_sl F.elem26 ?_
   refine Y_cmp ?_
   refine XD_end ?_
   refine K_then ?_
   refine C_cond rfl (fun hc5 => ?_) (fun hc5 => ?_)
   ·replace hc5 := dT hc5
    refine C_skip ?_
    refine K_then ?_
    refine C_seq ?_
    refine C_block ?_
    refine C_seq ?_
    refine C_region (l := [0, 1, 2, 3, 4, 5, 6, 7]) rfl ?_
    refine Y_fieldAddr F.foff28_2 ?_
    refine Y_load F.lay26 ?_
    refine Y_move ?_
    refine X_indexAddr rfl rfl rfl rfl F.elem26 (by rfl) (by omega) (by exact SlM.plain (by assumption) (by (simp; omega))) rfl ?_
    refine X_fieldAddr_el rfl rfl rfl (by exact SlM.plain (by assumption) (by (simp; omega))) F.foff25_0 rfl ?_
    refine X_load_el rfl rfl rfl (by assumption) (by exact row_map (by omega)) F.lay3 rfl rfl rfl ?_
    refine Y_move ?_
    refine Y_cmp ?_
    refine XD_end ?_
    refine K_then ?_
    refine C_cond rfl (fun hc6 => ?_) (fun hc6 => ?_)
    ·replace hc6 := nT hc6
     refine C_region_any (l := [0, 1, 2, 3, 4, 5, 6, 7, 8, 9, 10]) #[0, 1, 0, 4, 0, 28, 60, 124, 255, 511, 1023] _ rfl (by kernel_rfl) (by kernel_rfl) St.drawn (fun _ h => h) ?_
     refine Y_fieldAddr F.foff28_2 ?_
     refine Y_load F.lay26 ?_
     refine Y_fieldAddr F.foff28_2 ?_
     refine Y_load F.lay26 ?_
     refine Y_move ?_
     refine X_indexAddr rfl rfl rfl rfl F.elem26 (by rfl) (by omega) (by exact SlM.plain (by assumption) (by (simp; omega))) rfl ?_
     refine X_load_el rfl rfl rfl (by assumption) (by exact row_map (by omega)) F.lay25 rfl rfl rfl ?_
     refine X_buildSliceF rfl rfl F.elem26 F.zero25 rfl rfl (.cons rfl (by constructor) .nil) rfl rfl (by simp only [List.map_cons, List.map_nil] <;> rfl) rfl ?_; intro b7 hob8
     refine X_append (m := 1000000) rfl rfl rfl rfl rfl F.elem26 F.zero25 (by exact agg_size rfl) rfl (by assumption) (by repeat first | exact Rem.here _ | exact Rem.two | apply Rem.skip | apply Rem.over) (Src.own hob8.lens (by (refine rows_one1 ?_; (repeat (first | exact flat_nil | refine flat_id ?_ | (refine flat_one ?_ ?_; rfl))); done)) rfl (by repeat first | exact List.Mem.head _ | refine List.Mem.tail _ ?_ | refine List.mem_append_right _ ?_)) (by (simp; omega)) (by decide) rfl ?_; intro v11 hs10 ho9; obtain ⟨adv11, cpv11, rfl⟩ := ho9.valAt (n := acc.length + 1) (by (simp; done))
     refine Y_fieldAddr F.foff28_2 ?_
     refine Y_store F.lay26 ?_
     refine XD_end ?_
     refine K_out ?_
     refine K_then ?_
     refine C_region (l := [0, 1, 2]) rfl ?_
     refine Y_move ?_
     refine X_ari rfl rfl rfl rfl rfl (by exact wrap_in (by decide) (by omega)) rfl ?_
     refine Y_assign ?_
     refine XD_end ?_
     refine K_roundO (a' := [(6, _)]) (k + 1) ((b3, rowO [.one (.int .i64 t_self_addr), idSeg t_self_id, .one (.int .i64 (-1)), idSeg 0, .one (.slice adv11 (acc.length + 1) cpv11), .one (.slice none 0 0)] 28) :: hs10) (.cons (k := 6) rfl (.cons (k := 5) rfl (.cons (k := 4) rfl (.cons (k := 2) rfl (.cons (k := 1) rfl (.nil)))))) (by exact Mem.le.refl _) (fun w hw => by first | exact hw | exact hw.c) ?_ ?_
     ·refine ⟨acc ++ [t_succ_l[k]], _, _, rfl, rfl, by omega, rfl, by rw [List.map_append]; exact ho9, by simp only [List.length_append, List.length_cons, List.length_nil]; omega, ?_⟩
      rw [filt_step (by omega : k < t_succ_l.length), ← hacc, decide_eq_false (by assumption)]; rfl
     ·omega
    ·replace hc6 := nF hc6
     refine C_skip ?_
     refine K_out ?_
     refine K_then ?_
     refine C_region (l := [0, 1, 2]) rfl ?_
     refine Y_move ?_
     refine X_ari rfl rfl rfl rfl rfl (by exact wrap_in (by decide) (by omega)) rfl ?_
     refine Y_assign ?_
     refine XD_end ?_
     refine K_roundO (a' := [(6, _)]) (k + 1) ((b3, rowO [.one (.int .i64 t_self_addr), idSeg t_self_id, .one (.int .i64 (-1)), idSeg 0, .one (.slice ad0 acc.length cp0), .one (.slice none 0 0)] 28) :: hs0) (.cons (k := 6) rfl (.cons (k := 5) rfl (.cons (k := 4) rfl (.cons (k := 2) rfl (.cons (k := 1) rfl (.nil)))))) (by exact Mem.le.refl _) (fun w hw => by first | exact hw | exact hw.c) ?_ ?_
     ·refine ⟨acc, _, _, rfl, rfl, by omega, rfl, ho, by omega, ?_⟩
      rw [filt_step (by omega : k < t_succ_l.length), ← hacc, if_pos (by simp_all)]
     ·omega
   ·replace hc5 := dF hc5
    refine C_exit ?_
    iterate 2 refine K_exit ?_
    refine K_hit ?_
    refine K_then ?_
    refine Y_pk [5, 4, 2, 1] ?_
    iterate 2 refine C_seq ?_
    refine C_region (l := [0]) rfl ?_
    refine Y_assign ?_
    refine XD_end ?_
    refine K_then ?_
    refine C_block ?_
    refine Y_pk [7, 5, 4, 2, 1] ?_
    refine C_loopO (Hin := (b3, rowO [.one (.int .i64 t_self_addr), idSeg t_self_id, .one (.int .i64 (-1)), idSeg 0, .one (.slice ad0 acc.length cp0), .one (.slice none 0 0)] 28) :: hs0) (.succ .zero) (by repeat first | exact Rem.here _ | exact Rem.two | apply Rem.skip | apply Rem.over) (fun (k : Nat) M9 h1 z => ∃ (acc2 : List PeerV) (v : Value) (hs : Hp), M9 = M1 ∧ z = [(7, .int .i64 (k : Int))] ∧ k ≤ t_fingers_l.length ∧ h1 = (b3, rowO [.one (.int .i64 t_self_addr), idSeg t_self_id, .one (.int .i64 (-1)), idSeg 0, .one (.slice ad0 acc.length cp0), .one v] 28) :: (hs ++ hs0) ∧ OSl 25 21 v hs (acc2.map PeerV.segs) ∧ acc2.length = k ∧ acc2 = (t_fingers_l.take k).map (gone1 addr)) (fun k => t_fingers_l.length - k) (0) (⟨[], _, [], rfl, rfl, by omega, rfl, OSl.nil, rfl, rfl⟩) ?_
    rintro k2 M2 h2 z hm2 ⟨acc2, v2, hs2, hM2, rfl, hk2, rfl, ho2, hal2, hacc2⟩
    subst hM2
    obtain ⟨ad2, cp2, rfl⟩ := ho2.valL
    have hml2 : (acc2.map PeerV.segs).length = acc2.length := List.length_map ..
    simp only [List.append_assoc, List.cons_append, List.nil_append]
    iterate 2 refine C_seq ?_
    refine C_region (l := [0, 1, 2, 3, 4]) rfl ?_
    refine Y_move ?_
    refine Y_fieldAddr F.foff28_3 ?_
    refine Y_load F.lay26 ?_
    refine Y_len_sl F.elem26 ?_
    refine Y_cmp ?_
    refine XD_end ?_
    refine K_then ?_
    refine C_cond rfl (fun hc12 => ?_) (fun hc12 => ?_)
    ·replace hc12 := dT hc12
     refine C_skip ?_
     refine K_then ?_
     refine C_seq ?_
     refine C_block ?_
     refine C_seq ?_
     refine C_region (l := [0, 1, 2, 3, 4, 5, 6, 7]) rfl ?_
     refine Y_fieldAddr F.foff28_3 ?_
     refine Y_load F.lay26 ?_
     refine Y_move ?_
     refine X_indexAddr rfl rfl rfl rfl F.elem26 (by rfl) (by omega) (by exact SlM.plain (by assumption) (by (simp; omega))) rfl ?_
     refine X_fieldAddr_el rfl rfl rfl (by exact SlM.plain (by assumption) (by (simp; omega))) F.foff25_0 rfl ?_
     refine X_load_el rfl rfl rfl (by assumption) (by exact row_map (by omega)) F.lay3 rfl rfl rfl ?_
     refine Y_move ?_
     refine Y_cmp ?_
     refine XD_end ?_
     refine K_then ?_
     refine C_cond rfl (fun hc13 => ?_) (fun hc13 => ?_)
     ·replace hc13 := dT hc13
      refine C_region_any (l := [0, 1, 2, 3, 4, 5, 6]) #[0, 1, 0, 4, 15, 31, 63] _ rfl (by kernel_rfl) (by kernel_rfl) St.drawn (fun _ h => h) ?_
      refine Y_fieldAddr F.foff28_3 ?_
      refine Y_load F.lay26 ?_
      refine X_fs rfl rfl F.ok43 rfl (rNone_ok _) rfl ?_
      rintro _ rfl
      refine XD_is 62 rfl (show _ = aggV [.one (.int .i64 (-1)), idSeg 0] from rfl) ?_
      refine X_buildSliceF rfl rfl F.elem26 F.zero25 rfl rfl (.cons rfl (by constructor) .nil) rfl rfl (by simp only [List.map_cons, List.map_nil] <;> rfl) rfl ?_; intro b14 hob15
      refine X_append (m := 1000000) rfl rfl rfl rfl rfl F.elem26 F.zero25 (by exact agg_size rfl) rfl (by assumption) (by repeat first | exact Rem.here _ | exact Rem.two | apply Rem.skip | apply Rem.over) (Src.own hob15.lens (by (refine rows_one1 ?_; (repeat (first | exact flat_nil | refine flat_id ?_ | (refine flat_one ?_ ?_; rfl))); done)) rfl (by repeat first | exact List.Mem.head _ | refine List.Mem.tail _ ?_ | refine List.mem_append_right _ ?_)) (by (simp; omega)) (by decide) rfl ?_; intro v18 hs17 ho16; obtain ⟨adv18, cpv18, rfl⟩ := ho16.valAt (n := acc2.length + 1) (by (simp; done))
      refine Y_fieldAddr F.foff28_3 ?_
      refine Y_store F.lay26 ?_
      refine XD_end ?_
      refine K_out ?_
      refine K_then ?_
      refine C_region (l := [0, 1, 2]) rfl ?_
      refine Y_move ?_
      refine X_ari rfl rfl rfl rfl rfl (by exact wrap_in (by decide) (by omega)) rfl ?_
      refine Y_assign ?_
      refine XD_end ?_
      refine K_roundO (a' := [(7, _)]) (k2 + 1) ((b3, rowO [.one (.int .i64 t_self_addr), idSeg t_self_id, .one (.int .i64 (-1)), idSeg 0, .one (.slice ad0 acc.length cp0), .one (.slice adv18 (acc2.length + 1) cpv18)] 28) :: (hs17 ++ hs0)) (.cons (k := 7) rfl (.cons (k := 5) rfl (.cons (k := 4) rfl (.cons (k := 2) rfl (.cons (k := 1) rfl (.nil)))))) (by exact Mem.le.refl _) (fun w hw => by first | exact hw | exact hw.c) ?_ ?_
      ·refine ⟨acc2 ++ [noneP], _, _, rfl, rfl, by omega, rfl, by rw [List.map_append]; exact ho16, by simp only [List.length_append, List.length_cons, List.length_nil]; omega, ?_⟩
       rw [List.take_add_one, List.getElem?_eq_getElem (by omega : k2 < t_fingers_l.length), List.map_append, ← hacc2]; unfold gone1; simp only [Option.toList_some, List.map_cons, List.map_nil]; rw [if_pos (by simp_all)]
      ·omega
     ·replace hc13 := dF hc13
      refine C_region_any (l := [0, 1, 2, 3, 4, 5, 6, 7, 8, 9, 10]) #[0, 1, 0, 4, 0, 28, 60, 124, 255, 511, 1023] _ rfl (by kernel_rfl) (by kernel_rfl) St.drawn (fun _ h => h) ?_
      refine Y_fieldAddr F.foff28_3 ?_
      refine Y_load F.lay26 ?_
      refine Y_fieldAddr F.foff28_3 ?_
      refine Y_load F.lay26 ?_
      refine Y_move ?_
      refine X_indexAddr rfl rfl rfl rfl F.elem26 (by rfl) (by omega) (by exact SlM.plain (by assumption) (by (simp; omega))) rfl ?_
      refine X_load_el rfl rfl rfl (by assumption) (by exact row_map (by omega)) F.lay25 rfl rfl rfl ?_
      refine X_buildSliceF rfl rfl F.elem26 F.zero25 rfl rfl (.cons rfl (by constructor) .nil) rfl rfl (by simp only [List.map_cons, List.map_nil] <;> rfl) rfl ?_; intro b19 hob20
      refine X_append (m := 1000000) rfl rfl rfl rfl rfl F.elem26 F.zero25 (by exact agg_size rfl) rfl (by assumption) (by repeat first | exact Rem.here _ | exact Rem.two | apply Rem.skip | apply Rem.over) (Src.own hob20.lens (by (refine rows_one1 ?_; (repeat (first | exact flat_nil | refine flat_id ?_ | (refine flat_one ?_ ?_; rfl))); done)) rfl (by repeat first | exact List.Mem.head _ | refine List.Mem.tail _ ?_ | refine List.mem_append_right _ ?_)) (by (simp; omega)) (by decide) rfl ?_; intro v23 hs22 ho21; obtain ⟨adv23, cpv23, rfl⟩ := ho21.valAt (n := acc2.length + 1) (by (simp; done))
      refine Y_fieldAddr F.foff28_3 ?_
      refine Y_store F.lay26 ?_
      refine XD_end ?_
      refine K_out ?_
      refine K_then ?_
      refine C_region (l := [0, 1, 2]) rfl ?_
      refine Y_move ?_
      refine X_ari rfl rfl rfl rfl rfl (by exact wrap_in (by decide) (by omega)) rfl ?_
      refine Y_assign ?_
      refine XD_end ?_
      refine K_roundO (a' := [(7, _)]) (k2 + 1) ((b3, rowO [.one (.int .i64 t_self_addr), idSeg t_self_id, .one (.int .i64 (-1)), idSeg 0, .one (.slice ad0 acc.length cp0), .one (.slice adv23 (acc2.length + 1) cpv23)] 28) :: (hs22 ++ hs0)) (.cons (k := 7) rfl (.cons (k := 5) rfl (.cons (k := 4) rfl (.cons (k := 2) rfl (.cons (k := 1) rfl (.nil)))))) (by exact Mem.le.refl _) (fun w hw => by first | exact hw | exact hw.c) ?_ ?_
      ·refine ⟨acc2 ++ [t_fingers_l[k2]], _, _, rfl, rfl, by omega, rfl, by rw [List.map_append]; exact ho21, by simp only [List.length_append, List.length_cons, List.length_nil]; omega, ?_⟩
       rw [List.take_add_one, List.getElem?_eq_getElem (by omega : k2 < t_fingers_l.length), List.map_append, ← hacc2]; unfold gone1; simp only [Option.toList_some, List.map_cons, List.map_nil]; rw [if_neg (by simp_all)]
      ·omega
    ·replace hc12 := dF hc12
     refine C_exit ?_
     iterate 2 refine K_exit ?_
     refine K_hit ?_
     refine K_then ?_
     refine Y_pk [5, 4] ?_
     refine C_seq ?_
     refine C_region (l := [0, 1]) rfl ?_
     refine Y_load F.lay28 ?_
     refine Y_store F.lay28 ?_
     refine XD_end ?_
     refine K_then ?_
     refine Y_pk [4] ?_
     refine C_ret ?_
     refine K_end (.inr rfl) (.cell rfl (by repeat first | exact List.Mem.head _ | refine List.Mem.tail _ ?_ | refine List.mem_append_right _ ?_) F.lay28 rfl rfl .nil) (fun w hw => ?_)
     obtain rfl : k = t_succ_l.length := by omega
     obtain rfl : k2 = t_fingers_l.length := by omega
     rw [List.take_length] at hacc hacc2
     subst hacc hacc2
     obtain ⟨M9, s1, g1, g2, g3, g4, g5⟩ := OSl.freezeK (f := PeerV.segs) (H := hs2 ++ H) ho (hw.c)
     obtain ⟨M8, s2, j1, j2, j3, j4, j5⟩ := OSl.freezeK (f := PeerV.segs) ho2 g2
     exact ⟨_, M8, rfl, g1.trans j1, j2, tabIs_mk g3 j3 (g5.mono j1) j5 (by rw [g4, j4, kept_ne]; unfold forgetT TableV.tb; simp only; rw [if_pos (by assumption)]; rfl)⟩
  ·replace hc4 := dF hc4
   refine C_skip ?_
   refine K_then ?_
   refine Y_pk [5, 4, 2, 1] ?_
   iterate 2 refine C_seq ?_
   refine C_region (l := [0]) rfl ?_
   refine Y_assign ?_
   refine XD_end ?_
   refine K_then ?_
   refine C_block ?_
   refine Y_pk [6, 5, 4, 2, 1] ?_
   refine C_loopO (Hin := [(b3, rowO [.one (.int .i64 t_self_addr), idSeg t_self_id, .one (.int .i64 t_pred_addr), idSeg t_pred_id, .one (.slice none 0 0), .one (.slice none 0 0)] 28)]) (.succ .zero) (by repeat first | exact Rem.here _ | exact Rem.two | apply Rem.skip | apply Rem.over) (fun (k : Nat) M1 h1 z => ∃ (acc : List PeerV) (v : Value) (hs : Hp), M1 = M ∧ z = [(6, .int .i64 (k : Int))] ∧ k ≤ t_succ_l.length ∧ h1 = (b3, rowO [.one (.int .i64 t_self_addr), idSeg t_self_id, .one (.int .i64 t_pred_addr), idSeg t_pred_id, .one v, .one (.slice none 0 0)] 28) :: hs ∧ OSl 25 21 v hs (acc.map PeerV.segs) ∧ acc.length ≤ k ∧ acc = kept (fun p => decide (p.addr = addr)) (t_succ_l.take k)) (fun k => t_succ_l.length - k) (0) (⟨[], _, [], rfl, rfl, by omega, rfl, OSl.nil, by simp, rfl⟩) ?_
   rintro k M1 h1 z hm1 ⟨acc, v0, hs0, hM1, rfl, hk, rfl, ho, hal, hacc⟩
   subst hM1
   obtain ⟨ad0, cp0, rfl⟩ := ho.valL
   have hml : (acc.map PeerV.segs).length = acc.length := List.length_map ..
   iterate 2 refine C_seq ?_
   refine C_region (l := [0, 1, 2, 3, 4]) rfl ?_
   refine Y_move ?_
   refine Y_fieldAddr F.foff28_2 ?_
   refine Y_load F.lay26 ?_
   refine Y_len_sl F.elem26 ?_
   refine Y_cmp ?_
   refine XD_end ?_
   refine K_then ?_
   refine C_cond rfl (fun hc24 => ?_) (fun hc24 => ?_)
   ·replace hc24 := dT hc24
    refine C_skip ?_
    refine K_then ?_
    refine C_seq ?_
    refine C_block ?_
    refine C_seq ?_
    refine C_region (l := [0, 1, 2, 3, 4, 5, 6, 7]) rfl ?_
    refine Y_fieldAddr F.foff28_2 ?_
    refine Y_load F.lay26 ?_
    refine Y_move ?_
    refine X_indexAddr rfl rfl rfl rfl F.elem26 (by rfl) (by omega) (by exact SlM.plain (by assumption) (by (simp; omega))) rfl ?_
    refine X_fieldAddr_el rfl rfl rfl (by exact SlM.plain (by assumption) (by (simp; omega))) F.foff25_0 rfl ?_
    refine X_load_el rfl rfl rfl (by assumption) (by exact row_map (by omega)) F.lay3 rfl rfl rfl ?_
    refine Y_move ?_
    refine Y_cmp ?_
    refine XD_end ?_
    refine K_then ?_
    refine C_cond rfl (fun hc25 => ?_) (fun hc25 => ?_)
    ·replace hc25 := nT hc25
     refine C_region_any (l := [0, 1, 2, 3, 4, 5, 6, 7, 8, 9, 10]) #[0, 1, 0, 4, 0, 28, 60, 124, 255, 511, 1023] _ rfl (by kernel_rfl) (by kernel_rfl) St.drawn (fun _ h => h) ?_
     refine Y_fieldAddr F.foff28_2 ?_
     refine Y_load F.lay26 ?_
     refine Y_fieldAddr F.foff28_2 ?_
     refine Y_load F.lay26 ?_
     refine Y_move ?_
     refine X_indexAddr rfl rfl rfl rfl F.elem26 (by rfl) (by omega) (by exact SlM.plain (by assumption) (by (simp; omega))) rfl ?_
     refine X_load_el rfl rfl rfl (by assumption) (by exact row_map (by omega)) F.lay25 rfl rfl rfl ?_
     refine X_buildSliceF rfl rfl F.elem26 F.zero25 rfl rfl (.cons rfl (by constructor) .nil) rfl rfl (by simp only [List.map_cons, List.map_nil] <;> rfl) rfl ?_; intro b26 hob27
     refine X_append (m := 1000000) rfl rfl rfl rfl rfl F.elem26 F.zero25 (by exact agg_size rfl) rfl (by assumption) (by repeat first | exact Rem.here _ | exact Rem.two | apply Rem.skip | apply Rem.over) (Src.own hob27.lens (by (refine rows_one1 ?_; (repeat (first | exact flat_nil | refine flat_id ?_ | (refine flat_one ?_ ?_; rfl))); done)) rfl (by repeat first | exact List.Mem.head _ | refine List.Mem.tail _ ?_ | refine List.mem_append_right _ ?_)) (by (simp; omega)) (by decide) rfl ?_; intro v30 hs29 ho28; obtain ⟨adv30, cpv30, rfl⟩ := ho28.valAt (n := acc.length + 1) (by (simp; done))
     refine Y_fieldAddr F.foff28_2 ?_
     refine Y_store F.lay26 ?_
     refine XD_end ?_
     refine K_out ?_
     refine K_then ?_
     refine C_region (l := [0, 1, 2]) rfl ?_
     refine Y_move ?_
     refine X_ari rfl rfl rfl rfl rfl (by exact wrap_in (by decide) (by omega)) rfl ?_
     refine Y_assign ?_
     refine XD_end ?_
     refine K_roundO (a' := [(6, _)]) (k + 1) ((b3, rowO [.one (.int .i64 t_self_addr), idSeg t_self_id, .one (.int .i64 t_pred_addr), idSeg t_pred_id, .one (.slice adv30 (acc.length + 1) cpv30), .one (.slice none 0 0)] 28) :: hs29) (.cons (k := 6) rfl (.cons (k := 5) rfl (.cons (k := 4) rfl (.cons (k := 2) rfl (.cons (k := 1) rfl (.nil)))))) (by exact Mem.le.refl _) (fun w hw => by first | exact hw | exact hw.c) ?_ ?_
     ·refine ⟨acc ++ [t_succ_l[k]], _, _, rfl, rfl, by omega, rfl, by rw [List.map_append]; exact ho28, by simp only [List.length_append, List.length_cons, List.length_nil]; omega, ?_⟩
      rw [filt_step (by omega : k < t_succ_l.length), ← hacc, decide_eq_false (by assumption)]; rfl
     ·omega
    ·replace hc25 := nF hc25
     refine C_skip ?_
     refine K_out ?_
     refine K_then ?_
     refine C_region (l := [0, 1, 2]) rfl ?_
     refine Y_move ?_
     refine X_ari rfl rfl rfl rfl rfl (by exact wrap_in (by decide) (by omega)) rfl ?_
     refine Y_assign ?_
     refine XD_end ?_
     refine K_roundO (a' := [(6, _)]) (k + 1) ((b3, rowO [.one (.int .i64 t_self_addr), idSeg t_self_id, .one (.int .i64 t_pred_addr), idSeg t_pred_id, .one (.slice ad0 acc.length cp0), .one (.slice none 0 0)] 28) :: hs0) (.cons (k := 6) rfl (.cons (k := 5) rfl (.cons (k := 4) rfl (.cons (k := 2) rfl (.cons (k := 1) rfl (.nil)))))) (by exact Mem.le.refl _) (fun w hw => by first | exact hw | exact hw.c) ?_ ?_
     ·refine ⟨acc, _, _, rfl, rfl, by omega, rfl, ho, by omega, ?_⟩
      rw [filt_step (by omega : k < t_succ_l.length), ← hacc, if_pos (by simp_all)]
     ·omega
   ·replace hc24 := dF hc24
    refine C_exit ?_
    iterate 2 refine K_exit ?_
    refine K_hit ?_
    refine K_then ?_
    refine Y_pk [5, 4, 2, 1] ?_
    iterate 2 refine C_seq ?_
    refine C_region (l := [0]) rfl ?_
    refine Y_assign ?_
    refine XD_end ?_
    refine K_then ?_
    refine C_block ?_
    refine Y_pk [7, 5, 4, 2, 1] ?_
    refine C_loopO (Hin := (b3, rowO [.one (.int .i64 t_self_addr), idSeg t_self_id, .one (.int .i64 t_pred_addr), idSeg t_pred_id, .one (.slice ad0 acc.length cp0), .one (.slice none 0 0)] 28) :: hs0) (.succ .zero) (by repeat first | exact Rem.here _ | exact Rem.two | apply Rem.skip | apply Rem.over) (fun (k : Nat) M9 h1 z => ∃ (acc2 : List PeerV) (v : Value) (hs : Hp), M9 = M1 ∧ z = [(7, .int .i64 (k : Int))] ∧ k ≤ t_fingers_l.length ∧ h1 = (b3, rowO [.one (.int .i64 t_self_addr), idSeg t_self_id, .one (.int .i64 t_pred_addr), idSeg t_pred_id, .one (.slice ad0 acc.length cp0), .one v] 28) :: (hs ++ hs0) ∧ OSl 25 21 v hs (acc2.map PeerV.segs) ∧ acc2.length = k ∧ acc2 = (t_fingers_l.take k).map (gone1 addr)) (fun k => t_fingers_l.length - k) (0) (⟨[], _, [], rfl, rfl, by omega, rfl, OSl.nil, rfl, rfl⟩) ?_
    rintro k2 M2 h2 z hm2 ⟨acc2, v2, hs2, hM2, rfl, hk2, rfl, ho2, hal2, hacc2⟩
    subst hM2
    obtain ⟨ad2, cp2, rfl⟩ := ho2.valL
    have hml2 : (acc2.map PeerV.segs).length = acc2.length := List.length_map ..
    simp only [List.append_assoc, List.cons_append, List.nil_append]
    iterate 2 refine C_seq ?_
    refine C_region (l := [0, 1, 2, 3, 4]) rfl ?_
    refine Y_move ?_
    refine Y_fieldAddr F.foff28_3 ?_
    refine Y_load F.lay26 ?_
    refine Y_len_sl F.elem26 ?_
    refine Y_cmp ?_
    refine XD_end ?_
    refine K_then ?_
    refine C_cond rfl (fun hc31 => ?_) (fun hc31 => ?_)
    ·replace hc31 := dT hc31
     refine C_skip ?_
     refine K_then ?_
     refine C_seq ?_
     refine C_block ?_
     refine C_seq ?_
     refine C_region (l := [0, 1, 2, 3, 4, 5, 6, 7]) rfl ?_
     refine Y_fieldAddr F.foff28_3 ?_
     refine Y_load F.lay26 ?_
     refine Y_move ?_
     refine X_indexAddr rfl rfl rfl rfl F.elem26 (by rfl) (by omega) (by exact SlM.plain (by assumption) (by (simp; omega))) rfl ?_
     refine X_fieldAddr_el rfl rfl rfl (by exact SlM.plain (by assumption) (by (simp; omega))) F.foff25_0 rfl ?_
     refine X_load_el rfl rfl rfl (by assumption) (by exact row_map (by omega)) F.lay3 rfl rfl rfl ?_
     refine Y_move ?_
     refine Y_cmp ?_
     refine XD_end ?_
     refine K_then ?_
     refine C_cond rfl (fun hc32 => ?_) (fun hc32 => ?_)
     ·replace hc32 := dT hc32
      refine C_region_any (l := [0, 1, 2, 3, 4, 5, 6]) #[0, 1, 0, 4, 15, 31, 63] _ rfl (by kernel_rfl) (by kernel_rfl) St.drawn (fun _ h => h) ?_
      refine Y_fieldAddr F.foff28_3 ?_
      refine Y_load F.lay26 ?_
      refine X_fs rfl rfl F.ok43 rfl (rNone_ok _) rfl ?_
      rintro _ rfl
      refine XD_is 62 rfl (show _ = aggV [.one (.int .i64 (-1)), idSeg 0] from rfl) ?_
      refine X_buildSliceF rfl rfl F.elem26 F.zero25 rfl rfl (.cons rfl (by constructor) .nil) rfl rfl (by simp only [List.map_cons, List.map_nil] <;> rfl) rfl ?_; intro b33 hob34
      refine X_append (m := 1000000) rfl rfl rfl rfl rfl F.elem26 F.zero25 (by exact agg_size rfl) rfl (by assumption) (by repeat first | exact Rem.here _ | exact Rem.two | apply Rem.skip | apply Rem.over) (Src.own hob34.lens (by (refine rows_one1 ?_; (repeat (first | exact flat_nil | refine flat_id ?_ | (refine flat_one ?_ ?_; rfl))); done)) rfl (by repeat first | exact List.Mem.head _ | refine List.Mem.tail _ ?_ | refine List.mem_append_right _ ?_)) (by (simp; omega)) (by decide) rfl ?_; intro v37 hs36 ho35; obtain ⟨adv37, cpv37, rfl⟩ := ho35.valAt (n := acc2.length + 1) (by (simp; done))
      refine Y_fieldAddr F.foff28_3 ?_
      refine Y_store F.lay26 ?_
      refine XD_end ?_
      refine K_out ?_
      refine K_then ?_
      refine C_region (l := [0, 1, 2]) rfl ?_
      refine Y_move ?_
      refine X_ari rfl rfl rfl rfl rfl (by exact wrap_in (by decide) (by omega)) rfl ?_
      refine Y_assign ?_
      refine XD_end ?_
      refine K_roundO (a' := [(7, _)]) (k2 + 1) ((b3, rowO [.one (.int .i64 t_self_addr), idSeg t_self_id, .one (.int .i64 t_pred_addr), idSeg t_pred_id, .one (.slice ad0 acc.length cp0), .one (.slice adv37 (acc2.length + 1) cpv37)] 28) :: (hs36 ++ hs0)) (.cons (k := 7) rfl (.cons (k := 5) rfl (.cons (k := 4) rfl (.cons (k := 2) rfl (.cons (k := 1) rfl (.nil)))))) (by exact Mem.le.refl _) (fun w hw => by first | exact hw | exact hw.c) ?_ ?_
      ·refine ⟨acc2 ++ [noneP], _, _, rfl, rfl, by omega, rfl, by rw [List.map_append]; exact ho35, by simp only [List.length_append, List.length_cons, List.length_nil]; omega, ?_⟩
       rw [List.take_add_one, List.getElem?_eq_getElem (by omega : k2 < t_fingers_l.length), List.map_append, ← hacc2]; unfold gone1; simp only [Option.toList_some, List.map_cons, List.map_nil]; rw [if_pos (by simp_all)]
      ·omega
     ·replace hc32 := dF hc32
      refine C_region_any (l := [0, 1, 2, 3, 4, 5, 6, 7, 8, 9, 10]) #[0, 1, 0, 4, 0, 28, 60, 124, 255, 511, 1023] _ rfl (by kernel_rfl) (by kernel_rfl) St.drawn (fun _ h => h) ?_
      refine Y_fieldAddr F.foff28_3 ?_
      refine Y_load F.lay26 ?_
      refine Y_fieldAddr F.foff28_3 ?_
      refine Y_load F.lay26 ?_
      refine Y_move ?_
      refine X_indexAddr rfl rfl rfl rfl F.elem26 (by rfl) (by omega) (by exact SlM.plain (by assumption) (by (simp; omega))) rfl ?_
      refine X_load_el rfl rfl rfl (by assumption) (by exact row_map (by omega)) F.lay25 rfl rfl rfl ?_
      refine X_buildSliceF rfl rfl F.elem26 F.zero25 rfl rfl (.cons rfl (by constructor) .nil) rfl rfl (by simp only [List.map_cons, List.map_nil] <;> rfl) rfl ?_; intro b38 hob39
      refine X_append (m := 1000000) rfl rfl rfl rfl rfl F.elem26 F.zero25 (by exact agg_size rfl) rfl (by assumption) (by repeat first | exact Rem.here _ | exact Rem.two | apply Rem.skip | apply Rem.over) (Src.own hob39.lens (by (refine rows_one1 ?_; (repeat (first | exact flat_nil | refine flat_id ?_ | (refine flat_one ?_ ?_; rfl))); done)) rfl (by repeat first | exact List.Mem.head _ | refine List.Mem.tail _ ?_ | refine List.mem_append_right _ ?_)) (by (simp; omega)) (by decide) rfl ?_; intro v42 hs41 ho40; obtain ⟨adv42, cpv42, rfl⟩ := ho40.valAt (n := acc2.length + 1) (by (simp; done))
      refine Y_fieldAddr F.foff28_3 ?_
      refine Y_store F.lay26 ?_
      refine XD_end ?_
      refine K_out ?_
      refine K_then ?_
      refine C_region (l := [0, 1, 2]) rfl ?_
      refine Y_move ?_
      refine X_ari rfl rfl rfl rfl rfl (by exact wrap_in (by decide) (by omega)) rfl ?_
      refine Y_assign ?_
      refine XD_end ?_
      refine K_roundO (a' := [(7, _)]) (k2 + 1) ((b3, rowO [.one (.int .i64 t_self_addr), idSeg t_self_id, .one (.int .i64 t_pred_addr), idSeg t_pred_id, .one (.slice ad0 acc.length cp0), .one (.slice adv42 (acc2.length + 1) cpv42)] 28) :: (hs41 ++ hs0)) (.cons (k := 7) rfl (.cons (k := 5) rfl (.cons (k := 4) rfl (.cons (k := 2) rfl (.cons (k := 1) rfl (.nil)))))) (by exact Mem.le.refl _) (fun w hw => by first | exact hw | exact hw.c) ?_ ?_
      ·refine ⟨acc2 ++ [t_fingers_l[k2]], _, _, rfl, rfl, by omega, rfl, by rw [List.map_append]; exact ho40, by simp only [List.length_append, List.length_cons, List.length_nil]; omega, ?_⟩
       rw [List.take_add_one, List.getElem?_eq_getElem (by omega : k2 < t_fingers_l.length), List.map_append, ← hacc2]; unfold gone1; simp only [Option.toList_some, List.map_cons, List.map_nil]; rw [if_neg (by simp_all)]
      ·omega
    ·replace hc31 := dF hc31
     refine C_exit ?_
     iterate 2 refine K_exit ?_
     refine K_hit ?_
     refine K_then ?_
     refine Y_pk [5, 4] ?_
     refine C_seq ?_
     refine C_region (l := [0, 1]) rfl ?_
     refine Y_load F.lay28 ?_
     refine Y_store F.lay28 ?_
     refine XD_end ?_
     refine K_then ?_
     refine Y_pk [4] ?_
     refine C_ret ?_
     refine K_end (.inr rfl) (.cell rfl (by repeat first | exact List.Mem.head _ | refine List.Mem.tail _ ?_ | refine List.mem_append_right _ ?_) F.lay28 rfl rfl .nil) (fun w hw => ?_)
     obtain rfl : k = t_succ_l.length := by omega
     obtain rfl : k2 = t_fingers_l.length := by omega
     rw [List.take_length] at hacc hacc2
     subst hacc hacc2
     obtain ⟨M9, s1, g1, g2, g3, g4, g5⟩ := OSl.freezeK (f := PeerV.segs) (H := hs2 ++ H) ho (hw.c)
     obtain ⟨M8, s2, j1, j2, j3, j4, j5⟩ := OSl.freezeK (f := PeerV.segs) ho2 g2
     exact ⟨_, M8, rfl, g1.trans j1, j2, tabIs_mk g3 j3 (g5.mono j1) j5 (by rw [g4, j4, kept_ne]; unfold forgetT TableV.tb; simp only; rw [if_neg (by assumption)]; rfl)⟩

theorem Done_ok (M : Mem) (t : TableV) (id : Plc) (ht0 : TableV.ok M t) : Fs Try.prog 29 [t.enc, aggV [idSeg id]] M (fun v => v =  (ofPB (doneT t.tb id))) := by
  obtain ⟨⟨t_self_addr, t_self_id⟩, ⟨t_pred_addr, t_pred_id⟩, ⟨t_succ_a, t_succ_c, t_succ_l⟩, ⟨t_fingers_a, t_fingers_c, t_fingers_l⟩⟩ := t
  have k_t_succ : SlK M PeerV.segs 21 ⟨t_succ_a, t_succ_c, t_succ_l⟩ := ht0.h0
  have s_t_succ : SlM M t_succ_a (t_succ_l.map PeerV.segs) 21 := k_t_succ.h1
  have n_t_succ : (t_succ_l.map PeerV.segs).length = t_succ_l.length := List.length_map ..
  have m_t_succ : t_succ_l.length ≤ 9223372036854775807 := k_t_succ.h2
  have c_t_succ : t_succ_l.length ≤ t_succ_c := k_t_succ.h3
  have k_t_fingers : SlK M PeerV.segs 21 ⟨t_fingers_a, t_fingers_c, t_fingers_l⟩ := ht0.h1
  have s_t_fingers : SlM M t_fingers_a (t_fingers_l.map PeerV.segs) 21 := k_t_fingers.h1
  have n_t_fingers : (t_fingers_l.map PeerV.segs).length = t_fingers_l.length := List.length_map ..
  have m_t_fingers : t_fingers_l.length ≤ 9223372036854775807 := k_t_fingers.h2
  have c_t_fingers : t_fingers_l.length ≤ t_fingers_c := k_t_fingers.h3
  refine fs_enter Try.func29 rfl Try.ntmps29 rfl ?_; intro H
  refine C_seq ?_
  refine C_region (l := [0, 1, 2, 3]) rfl ?_
  refine Y_box ?_; intro b1
  refine Y_box ?_; intro b2
  refine Y_alloc F.zero25 ?_; intro b3
  refine Y_assign ?_
  refine XD_end ?_
  refine K_then ?_
  refine Y_pk [5, 4, 3, 2] ?_
  refine C_seq ?_
  refine C_region (l := [0, 1, 2, 3]) rfl ?_
  refine Y_load F.lay28 ?_
  refine X_fs rfl rfl F.ok33 rfl (First_ok _ ⟨⟨_, _⟩, ⟨_, _⟩, ⟨_, _, _⟩, ⟨_, _, _⟩⟩ (by assumption)) rfl ?_
  rintro _ rfl
  refine Y_alloc F.zero25 ?_; intro b4
  refine Y_store F.lay25 ?_
  refine XD_end ?_
  refine K_then ?_
  refine Y_pk [6, 5, 4, 3, 2] ?_
  refine C_seq ?_
  refine C_region_any (l := [0, 1, 2, 3, 4, 5, 6, 7, 8, 9]) #[0, 0, 2, 6, 0, 0, 32, 126, 255, 511] _ rfl (by kernel_rfl) (by kernel_rfl) St.drawn (fun _ h => h) ?_
  refine Y_load F.lay25 ?_
  refine Y_fieldAddr F.foff28_0 ?_
  refine Y_fieldAddr F.foff25_1 ?_
  iterate 2 refine Y_load F.lay23 ?_
  refine Y_fieldAddr F.foff25_1 ?_
  refine Y_load F.lay23 ?_
  refine X_fs rfl rfl F.ok45 rfl (Half_ok _ _ _ _) rfl ?_
  rintro _ rfl
  refine Y_store F.lay25 ?_
  refine Y_assign ?_
  refine XD_end ?_
  refine K_then ?_
  refine Y_pk [5, 4] ?_
  refine C_ret ?_
  refine K_end (.inr rfl) (.cell rfl (by repeat first | exact List.Mem.head _ | refine List.Mem.tail _ ?_ | refine List.mem_append_right _ ?_) F.lay25 rfl rfl (.tmp rfl .nil)) (fun w hw => ?_)
  refine ⟨_, rfl, (hw.c), ?_⟩
  clear hw
  rfl

theorem rDone_ok (M : Mem) (t : TableV) (id : Plc) (ht0 : TableV.ok M t) : Fs Try.prog 30 [t.enc, aggV [idSeg id]] M (fun v => v =  (ofPB (doneT t.tb id))) := by
  obtain ⟨⟨t_self_addr, t_self_id⟩, ⟨t_pred_addr, t_pred_id⟩, ⟨t_succ_a, t_succ_c, t_succ_l⟩, ⟨t_fingers_a, t_fingers_c, t_fingers_l⟩⟩ := t
  have k_t_succ : SlK M PeerV.segs 21 ⟨t_succ_a, t_succ_c, t_succ_l⟩ := ht0.h0
  have s_t_succ : SlM M t_succ_a (t_succ_l.map PeerV.segs) 21 := k_t_succ.h1
  have n_t_succ : (t_succ_l.map PeerV.segs).length = t_succ_l.length := List.length_map ..
  have m_t_succ : t_succ_l.length ≤ 9223372036854775807 := k_t_succ.h2
  have c_t_succ : t_succ_l.length ≤ t_succ_c := k_t_succ.h3
  have k_t_fingers : SlK M PeerV.segs 21 ⟨t_fingers_a, t_fingers_c, t_fingers_l⟩ := ht0.h1
  have s_t_fingers : SlM M t_fingers_a (t_fingers_l.map PeerV.segs) 21 := k_t_fingers.h1
  have n_t_fingers : (t_fingers_l.map PeerV.segs).length = t_fingers_l.length := List.length_map ..
  have m_t_fingers : t_fingers_l.length ≤ 9223372036854775807 := k_t_fingers.h2
  have c_t_fingers : t_fingers_l.length ≤ t_fingers_c := k_t_fingers.h3
  refine fs_enter Try.func30 rfl Try.ntmps30 rfl ?_; intro H
  refine C_seq ?_
  refine C_region (l := [0, 1, 2, 3]) rfl ?_
  refine Y_box ?_; intro b1
  refine Y_box ?_; intro b2
  refine Y_alloc F.zero25 ?_; intro b3
  refine Y_assign ?_
  refine XD_end ?_
  refine K_then ?_
  refine Y_pk [5, 4, 3, 2] ?_
  refine C_seq ?_
  refine C_region (l := [0, 1, 2, 3]) rfl ?_
  refine Y_load F.lay28 ?_
  refine X_fs rfl rfl F.ok34 rfl (rFirst_ok _ ⟨⟨_, _⟩, ⟨_, _⟩, ⟨_, _, _⟩, ⟨_, _, _⟩⟩ (by assumption)) rfl ?_
  rintro _ rfl
  refine Y_alloc F.zero25 ?_; intro b4
  refine Y_store F.lay25 ?_
  refine XD_end ?_
  refine K_then ?_
  refine Y_pk [6, 5, 4, 3, 2] ?_
  refine C_seq ?_
  refine C_region_any (l := [0, 1, 2, 3, 4, 5, 6, 7, 8, 9]) #[0, 0, 2, 6, 0, 0, 32, 126, 255, 511] _ rfl (by kernel_rfl) (by kernel_rfl) St.drawn (fun _ h => h) ?_
  refine Y_load F.lay25 ?_
  refine Y_fieldAddr F.foff28_0 ?_
  refine Y_fieldAddr F.foff25_1 ?_
  iterate 2 refine Y_load F.lay23 ?_
  refine Y_fieldAddr F.foff25_1 ?_
  refine Y_load F.lay23 ?_
  refine X_fs rfl rfl F.ok70 rfl (rHalf_ok _ _ _ _) rfl ?_
  rintro _ rfl
  refine Y_store F.lay25 ?_
  refine Y_assign ?_
  refine XD_end ?_
  refine K_then ?_
  refine Y_pk [5, 4] ?_
  refine C_ret ?_
  refine K_end (.inr rfl) (.cell rfl (by repeat first | exact List.Mem.head _ | refine List.Mem.tail _ ?_ | refine List.mem_append_right _ ?_) F.lay25 rfl rfl (.tmp rfl .nil)) (fun w hw => ?_)
  refine ⟨_, rfl, (hw.c), ?_⟩
  clear hw
  rfl

end Go.Proofs.Ytbjklbmmchiahaa
/-
  Fingers that are pointed, in plain Lean.
-/
set_option linter.unusedSimpArgs false
set_option linter.unusedVariables false
set_option linter.unnecessarySimpa false
namespace Go.Esp
theorem K_endM0 {P : Program} {e : Env} {M : Mem} {H : Hp} {n : Nat} {fn : Func} {R : Ending → World → Prop} {x : Exit} {vs : List Value} (hx : x = .normal ∨ x = .ret) (hr : Res P e H fn.results.toList vs) (h : ∀ w, St M H w → R (.returned (resV vs)) w) :
    K ⟨n, [], none, []⟩ (bodyPostM (Fr none) 0 P fn R) x (St M H) e := K_endM (Ds := []) (Hd := []) hx hr (fun _ hw => hw) (by simp) (by simp) h
section
variable {P : Program} {n : Sh} {Q : Exit → Act → World → Prop} {M : Mem} {H H0 : Hp} {e : Env} {x : Exit} {c : Code}
theorem OSl.frz {α : Type} {T sz k cp : Nat} {f : α → Segs} {l : List α} {ad : Option Addr} {hs : Hp} (ho : OSl T sz (.slice ad k cp) hs (l.map f)) {w : World} (hw : St M (hs ++ H) w) : ∃ M', M.le M' ∧ St M' H w ∧ SlK M' f sz ⟨ad, cp, l⟩ := by
  obtain ⟨M', ⟨a', c', l'⟩, h1, h2, h3, h4, h5⟩ := ho.freezeK hw
  simp only [Sl.val, Value.slice.injEq] at h3
  obtain ⟨rfl, _, rfl⟩ := h3
  simp only at h4
  subst h4
  exact ⟨M', h1, h2, h5⟩
/-- What was one's own never changes from here on. -/
theorem K_frz {α : Type} {T sz k cp : Nat} {f : α → Segs} {l : List α} {ad : Option Addr} {hs : Hp} (ho : OSl T sz (.slice ad k cp) hs (l.map f)) (hR : Rem hs H H0) (h : ∀ M', M.le M' → SlK M' f sz ⟨ad, cp, l⟩ → K n Q x (St M' H0) e) : K n Q x (St M H) e := by
  intro a w ha hw
  obtain ⟨M', h1, h2, h3⟩ := ho.frz (hw.perm hR.perm)
  exact h M' h1 h3 a w ha h2
theorem C_frz {α : Type} {T sz k cp : Nat} {f : α → Segs} {l : List α} {ad : Option Addr} {hs : Hp} (ho : OSl T sz (.slice ad k cp) hs (l.map f)) (hR : Rem hs H H0) (h : ∀ M', M.le M' → SlK M' f sz ⟨ad, cp, l⟩ → C P n c Q (St M' H0) e) : C P n c Q (St M H) e := by
  intro a w ha hw
  obtain ⟨M', h1, h2, h3⟩ := ho.frz (hw.perm hR.perm)
  exact h M' h1 h3 a w ha h2
end
/-- v is a row of peers in memory that never changes. -/
def PsIs (M : Mem) (v : Value) (l : List PeerV) : Prop := ∃ s : Sl PeerV, v = s.val ∧ s.l = l ∧ SlK M PeerV.segs 21 s
theorem insP_at {p : PeerV} : ∀ {l : List PeerV} {k : Nat}, k ≤ l.length → (∀ j (h : j < k) (h2 : j < l.length), l[j].addr < p.addr) → (∀ h : k < l.length, ¬ l[k].addr < p.addr) → l.take k ++ p :: l.drop k = insP p l
  | [], k, hk, _, _ => by
    obtain rfl : k = 0 := by simpa using hk
    rfl
  | q :: l, 0, _, _, h2 => by
    unfold insP
    rw [if_neg (show ¬ q.addr < p.addr from h2 (by simp))]; rfl
  | q :: l, k + 1, hk, h1, h2 => by
    unfold insP
    rw [if_pos (show q.addr < p.addr from h1 0 (by omega) (by simp)), List.take_succ_cons, List.drop_succ_cons, List.cons_append]
    congr 1
    exact insP_at (by simpa using hk) (fun j hj hj2 => h1 (j + 1) (by omega) (by simpa using hj2)) (fun h => h2 (by simpa using h))
theorem foldl_take {α β : Type} {f : β → α → β} {b : β} {l : List α} {k : Nat} (hk : k < l.length) : (l.take (k + 1)).foldl f b = f ((l.take k).foldl f b) l[k] := by
  rw [List.take_add_one, List.getElem?_eq_getElem hk, List.foldl_append]; rfl
theorem insP_len {p : PeerV} : ∀ {l : List PeerV}, (insP p l).length = l.length + 1
  | [] => rfl
  | q :: l => by
    unfold insP
    split
    · simp [insP_len (l := l)]
    · rfl
/-- Of l those from k to j are turned to f. -/
def ptW {α : Type} (l : List α) (k j : Nat) (f : α) : List α := l.take k ++ List.replicate (j - k) f ++ l.drop j
theorem ptW_len {α : Type} {l : List α} {k j : Nat} {f : α} (hk : k ≤ j) (hj : j ≤ l.length) : (ptW l k j f).length = l.length := by
  unfold ptW; simp only [List.length_append, List.length_take, List.length_replicate, List.length_drop]; omega
theorem ptW_start {α : Type} {l : List α} {k : Nat} {f : α} : ptW l k k f = l := by
  unfold ptW; simp
theorem ptW_set {α : Type} {l : List α} {k j : Nat} {f : α} (hk : k ≤ j) (hj : j < l.length) : (ptW l k j f).set j f = ptW l k (j + 1) f := by
  unfold ptW
  have hl : (l.take k ++ List.replicate (j - k) f).length = j := by simp only [List.length_append, List.length_take, List.length_replicate]; omega
  rw [List.set_append, if_neg (by omega), hl, Nat.sub_self, List.drop_eq_getElem_cons hj, List.set_cons_zero, show j + 1 - k = (j - k) + 1 by omega, List.replicate_succ', ← List.append_assoc, List.append_assoc (l.take k ++ List.replicate (j - k) f)]
  rfl
theorem pointEnd_go {s p : PeerV} {k j : Nat} (hj : j < 160) (h : ¬ (k < j ∧ inArc s p j = false)) : pointEnd s p k j (160 - j) = pointEnd s p k (j + 1) (160 - (j + 1)) := by
  rw [show 160 - j = (160 - (j + 1)) + 1 by omega]
  conv => lhs; unfold pointEnd
  rw [if_neg h]
theorem pointEnd_stop {s p : PeerV} {k j : Nat} (hj : j < 160) (h1 : k < j) (h2 : inArc s p j = false) : pointEnd s p k j (160 - j) = j := by
  rw [show 160 - j = (160 - (j + 1)) + 1 by omega]
  unfold pointEnd
  rw [if_pos ⟨h1, h2⟩]
theorem pointEnd_ge {s p : PeerV} {k : Nat} : ∀ {n j : Nat}, j ≤ pointEnd s p k j n ∧ pointEnd s p k j n ≤ j + n
  | 0, j => ⟨Nat.le_refl _, Nat.le_refl _⟩
  | n + 1, j => by
    unfold pointEnd
    split
    · omega
    · have := pointEnd_ge (s := s) (p := p) (k := k) (n := n) (j := j + 1); omega
theorem pointT_at {t : Tb} {k j : Nat} {p : PeerV} (h1 : IsTb t) (hk : k < 160) (hp : p = t.self ∨ OtherP t.self p) (he : pointEnd t.self p k k (160 - k) = j) :
    pointT t k p = ({ t with fingers := ptW t.fingers k j (fingerOf t p) }, if j = 160 then 0 else (j : Int), 0) := by
  unfold pointT
  rw [if_pos ⟨h1, by omega, hp⟩]
  simp only [Int.toNat_natCast]
  rw [he]
  rfl
theorem pointT_is {t : Tb} {k j : Nat} {p f : PeerV} {n : Int} (h1 : IsTb t) (hk : k < 160) (hp : p = t.self ∨ OtherP t.self p) (he : pointEnd t.self p k k (160 - k) = j) (hf : fingerOf t p = f) (hn : (if j = 160 then 0 else (j : Int)) = n) :
    pointT t k p = ({ t with fingers := ptW t.fingers k j f }, n, 0) := by
  rw [pointT_at h1 hk hp he, hf, hn]
theorem pointT_no {t : Tb} {k : Int} {p : PeerV} (h : ¬ (IsTb t ∧ (0 ≤ k ∧ k < 160) ∧ (p = t.self ∨ OtherP t.self p))) : pointT t k p = (Tb.zero, 0, 1) := if_neg h
def TabPE (M : Mem) (v : Value) (r : Tb × Int × Int) : Prop := ∃ u, v = .tuple #[u, .int .i64 r.2.1, .int .i64 r.2.2] ∧ TabIs M u r.1
/-- Where the fingers begin, from k on. -/
def startsL (s : Plc) (k : Nat) : List (Nat × Plc) := (List.range' k (160 - k)).map fun j => (j, s + powP j)
theorem startsL_at {s : Plc} {k j : Nat} (hj : k ≤ j) (h : j < 160) : startsL s k = ((List.range' k (j - k)).map fun j => (j, s + powP j)) ++ (j, s + powP j) :: startsL s (j + 1) := by
  unfold startsL
  rw [show 160 - k = (j - k) + ((160 - (j + 1)) + 1) by omega, ← List.range'_append_1, List.map_append, show k + (j - k) = j by omega, List.range'_succ]
  rfl
theorem startsL_pre {s : Plc} {k j : Nat} (hj : k ≤ j) : (((List.range' k (j + 1 - k)).map fun j => (j, s + powP j)) : List (Nat × Plc)) = ((List.range' k (j - k)).map fun j => (j, s + powP j)) ++ [(j, s + powP j)] := by
  rw [show j + 1 - k = (j - k) + 1 by omega, List.range'_1_concat, List.map_append, show k + (j - k) = j by omega]
  rfl
theorem startsL_split {s : Plc} {k : Nat} {pre post : List (Nat × Plc)} {x : Nat × Plc} (hx : startsL s k = pre ++ x :: post) : k + pre.length < 160 ∧ x = (k + pre.length, s + powP (k + pre.length)) := by
  have hl := congrArg List.length hx
  unfold startsL at hl hx
  simp only [List.length_map, List.length_range', List.length_append, List.length_cons] at hl
  have hg := congrArg (fun l => l[pre.length]?) hx
  simp only [List.getElem?_map, List.getElem?_append_right (Nat.le_refl _), Nat.sub_self, List.getElem?_cons_zero] at hg
  rw [List.getElem?_range' (by omega)] at hg
  simp only [Option.map_some, Option.some.injEq, Nat.one_mul] at hg
  exact ⟨by omega, hg.symm⟩
end Go.Esp
/-
  Fingers that are pointed, by the document.
-/
set_option linter.unusedSimpArgs false
set_option linter.unusedVariables false
set_option linter.unnecessarySimpa false
set_option maxRecDepth 8000
set_option maxHeartbeats 1000000
namespace Go.Proofs.Ytbjklbmmchiahaa
open Go.Esp
theorem F.ok69 : okFn Try.prog 69 = true := by kernel_rfl
theorem F.ok71 : okFn Try.prog 71 = true := by kernel_rfl

theorem OwnF_ok (M : Mem) (t : TableV) (ht0 : TableV.ok M t) (hbig : t.succ.l.length ≤ 40 ∧ t.fingers.l.length ≤ 200) : Fh Try.prog 16 [t.enc] M [] (fun M' v Hout => ∃ (s1 : Sl PeerV) (v1 : Value) (v2 : Value), v = aggV [.one (.int .i64 t.self.addr), idSeg t.self.id, .one (.int .i64 t.pred.addr), idSeg t.pred.id, .one v1, .one v2] ∧ v1 = s1.val ∧ SlK M' PeerV.segs 21 s1 ∧ s1.l = t.succ.l ∧ OSl 25 21 v2 Hout (t.fingers.l.map PeerV.segs)) := by
  obtain ⟨⟨t_self_addr, t_self_id⟩, ⟨t_pred_addr, t_pred_id⟩, ⟨t_succ_a, t_succ_c, t_succ_l⟩, ⟨t_fingers_a, t_fingers_c, t_fingers_l⟩⟩ := t
  have k_t_succ : SlK M PeerV.segs 21 ⟨t_succ_a, t_succ_c, t_succ_l⟩ := ht0.h0
  have s_t_succ : SlM M t_succ_a (t_succ_l.map PeerV.segs) 21 := k_t_succ.h1
  have n_t_succ : (t_succ_l.map PeerV.segs).length = t_succ_l.length := List.length_map ..
  have m_t_succ : t_succ_l.length ≤ 9223372036854775807 := k_t_succ.h2
  have c_t_succ : t_succ_l.length ≤ t_succ_c := k_t_succ.h3
  have k_t_fingers : SlK M PeerV.segs 21 ⟨t_fingers_a, t_fingers_c, t_fingers_l⟩ := ht0.h1
  have s_t_fingers : SlM M t_fingers_a (t_fingers_l.map PeerV.segs) 21 := k_t_fingers.h1
  have n_t_fingers : (t_fingers_l.map PeerV.segs).length = t_fingers_l.length := List.length_map ..
  have m_t_fingers : t_fingers_l.length ≤ 9223372036854775807 := k_t_fingers.h2
  have c_t_fingers : t_fingers_l.length ≤ t_fingers_c := k_t_fingers.h3
  have hb := hbig
  simp only at hb
  refine fh_enter Try.func16 rfl Try.ntmps16 rfl ?_; intro H
  refine C_seq ?_
  refine C_region (l := [0, 1]) rfl ?_
  refine Y_box ?_; intro b1
  refine Y_alloc F.zero28 ?_; intro b2
  refine XD_end ?_
  refine K_then ?_
  refine Y_pk [2, 1] ?_
  refine C_seq ?_
  refine C_region (l := [0]) rfl ?_
  refine Y_assign ?_
  refine XD_end ?_
  refine K_then ?_
  refine C_seq ?_
  refine C_region (l := [0, 1, 2, 3, 4]) rfl ?_
  refine Y_move ?_
  refine Y_fieldAddr F.foff28_2 ?_
  refine Y_load F.lay26 ?_
  refine X_appendK (m := 1000000) rfl rfl rfl rfl rfl F.elem26 F.zero25 (by exact agg_size rfl) rfl (by exact OSl.nil) (by repeat first | exact Rem.here _ | exact Rem.two | apply Rem.skip | apply Rem.over) (s_t_succ) PeerV.flat (by (simp; omega)) (by decide) rfl ?_; intro v5 hs4 ho3; obtain ⟨adv5, cpv5, rfl⟩ := ho3.val
  refine Y_assign ?_
  refine XD_end ?_
  refine K_then ?_
  refine Y_pk [3, 2, 1] ?_
  refine C_seq ?_
  refine C_region (l := [0]) rfl ?_
  refine Y_assign ?_
  refine XD_end ?_
  refine K_then ?_
  refine C_seq ?_
  refine C_region (l := [0, 1, 2, 3, 4]) rfl ?_
  refine Y_move ?_
  refine Y_fieldAddr F.foff28_3 ?_
  refine Y_load F.lay26 ?_
  refine X_appendK (m := 1000000) rfl rfl rfl rfl rfl F.elem26 F.zero25 (by exact agg_size rfl) rfl (by exact OSl.nil) (by repeat first | exact Rem.here _ | exact Rem.two | apply Rem.skip | apply Rem.over) (s_t_fingers) PeerV.flat (by (simp; omega)) (by decide) rfl ?_; intro v8 hs7 ho6; obtain ⟨adv8, cpv8, rfl⟩ := ho6.val
  refine Y_assign ?_
  refine XD_end ?_
  refine K_then ?_
  refine Y_pk [4, 3, 2, 1] ?_
  refine C_seq ?_
  refine C_region (l := [0, 1, 2, 3, 4, 5, 6, 7]) rfl ?_
  refine Y_fieldAddr F.foff28_0 ?_
  refine Y_load F.lay25 ?_
  refine Y_fieldAddr F.foff28_1 ?_
  refine Y_load F.lay25 ?_
  iterate 2 refine Y_move ?_
  refine X_build rfl rfl F.bld28 (.cons rfl (by constructor) (.cons rfl (by constructor) (.cons rfl (by constructor) (.cons rfl (by constructor) .nil)))) rfl rfl ?_
  refine Y_store F.lay28 ?_
  refine XD_end ?_
  refine K_then ?_
  refine Y_pk [2] ?_
  refine C_ret ?_
  refine K_end (.inr rfl) (.cell rfl (by repeat first | exact List.Mem.head _ | refine List.Mem.tail _ ?_ | refine List.mem_append_right _ ?_) F.lay28 rfl rfl .nil) (fun w hw => ?_)
  obtain ⟨M1, s1, g1, g2, g3, g4, g5⟩ := OSl.freezeK (f := PeerV.segs) (l := t_succ_l) (H := hs7 ++ H) ho3 (hw.c)
  exact ⟨_, M1, hs7, rfl, g1, g2, s1, _, _, rfl, g3, g5, g4, ho6⟩

theorem rPoint_ok (M : Mem) (t : TableV) (k : Int) (p : PeerV) (ht0 : TableV.ok M t) : Esp.Fn Try.prog 22 [t.enc, .int .i64 k, p.enc] M (fun M' v => TabPE M' v (pointT t.tb k p)) := by
  obtain ⟨⟨t_self_addr, t_self_id⟩, ⟨t_pred_addr, t_pred_id⟩, ⟨t_succ_a, t_succ_c, t_succ_l⟩, ⟨t_fingers_a, t_fingers_c, t_fingers_l⟩⟩ := t
  obtain ⟨p_addr, p_id⟩ := p
  have k_t_succ : SlK M PeerV.segs 21 ⟨t_succ_a, t_succ_c, t_succ_l⟩ := ht0.h0
  have s_t_succ : SlM M t_succ_a (t_succ_l.map PeerV.segs) 21 := k_t_succ.h1
  have n_t_succ : (t_succ_l.map PeerV.segs).length = t_succ_l.length := List.length_map ..
  have m_t_succ : t_succ_l.length ≤ 9223372036854775807 := k_t_succ.h2
  have c_t_succ : t_succ_l.length ≤ t_succ_c := k_t_succ.h3
  have k_t_fingers : SlK M PeerV.segs 21 ⟨t_fingers_a, t_fingers_c, t_fingers_l⟩ := ht0.h1
  have s_t_fingers : SlM M t_fingers_a (t_fingers_l.map PeerV.segs) 21 := k_t_fingers.h1
  have n_t_fingers : (t_fingers_l.map PeerV.segs).length = t_fingers_l.length := List.length_map ..
  have m_t_fingers : t_fingers_l.length ≤ 9223372036854775807 := k_t_fingers.h2
  have c_t_fingers : t_fingers_l.length ≤ t_fingers_c := k_t_fingers.h3
  refine fn_enter Try.func22 rfl Try.ntmps22 rfl ?_; intro H
  refine C_seq ?_
  refine C_region (l := [0, 1, 2, 3, 4]) rfl ?_
  refine Y_box ?_; intro b1
  refine Y_box ?_; intro b2
  refine Y_alloc F.zero28 ?_; intro b3
  iterate 2 refine Y_assign ?_
  refine XD_end ?_
  refine K_then ?_
  refine Y_pk [8, 7, 6, 5, 3, 1] ?_
  iterate 2 refine C_seq ?_
  refine C_region (l := [0, 1, 2, 3, 4, 5, 6, 7, 8, 9, 10, 11, 12, 13, 14, 15, 16, 17, 18, 19, 20, 21, 22]) rfl ?_
  refine Y_load F.lay28 ?_
  refine X_fs rfl rfl F.ok32 rfl (rIsT_ok _ ⟨⟨_, _⟩, ⟨_, _⟩, ⟨_, _, _⟩, ⟨_, _, _⟩⟩ (by assumption)) rfl ?_
  rintro _ rfl
  refine Y_not ?_
  refine Y_move ?_
  refine XD_part 17 rfl (fun hc4 => ?_) (fun hc4 => ?_)
  ·replace hc4 := nT hc4
   iterate 2 refine Y_skip ?_
   refine Y_pick ?_
   refine Y_move ?_
   iterate 2 refine Y_skip ?_
   refine Y_pick ?_
   refine Y_move ?_
   iterate 10 refine Y_skip ?_
   refine Y_pick ?_
   refine XD_end ?_
   refine K_then ?_
   refine Y_pk [36, 8, 7, 6, 5, 3, 1] ?_
   refine C_true rfl ?_
   refine C_seq ?_
   refine C_region (l := [0, 1, 2, 3]) rfl ?_
   refine X_build rfl rfl F.bld28 (.nil) rfl rfl ?_
   refine Y_store F.lay28 ?_
   iterate 2 refine Y_assign ?_
   refine XD_end ?_
   refine K_then ?_
   refine Y_pk [8, 7, 6, 5, 3, 1] ?_
   refine C_ret ?_
   refine K_ret ?_
   refine K_end (.inr rfl) (.cell rfl (by repeat first | exact List.Mem.head _ | refine List.Mem.tail _ ?_ | refine List.mem_append_right _ ?_) F.lay28 rfl rfl (.tmp rfl (.tmp rfl .nil))) (fun w hw => ?_)
   refine ⟨_, M, rfl, Mem.le.refl M, hw.c, ?_⟩
   rw [show pointT (TableV.tb ⟨⟨t_self_addr, t_self_id⟩, ⟨t_pred_addr, t_pred_id⟩, ⟨t_succ_a, t_succ_c, t_succ_l⟩, ⟨t_fingers_a, t_fingers_c, t_fingers_l⟩⟩) k ⟨p_addr, p_id⟩ = (Tb.zero, 0, 1) from pointT_no (by rintro ⟨g1, ⟨g2, g3⟩, g4⟩; first | exact absurd g1 (by assumption) | omega | (rcases g4 with g4 | g4; exact absurd g4 (by assumption); exact absurd g4 (by assumption)))]
   exact ⟨_, rfl, tabIs_zero⟩
  ·replace hc4 := nF hc4
   refine Y_move ?_
   refine Y_cmp ?_
   refine Y_pick ?_
   refine Y_move ?_
   refine XD_part 21 rfl (fun hc5 => ?_) (fun hc5 => ?_)
   ·replace hc5 := dT hc5
    iterate 2 refine Y_skip ?_
    refine Y_pick ?_
    refine Y_move ?_
    iterate 10 refine Y_skip ?_
    refine Y_pick ?_
    refine XD_end ?_
    refine K_then ?_
    refine Y_pk [36, 8, 7, 6, 5, 3, 1] ?_
    refine C_true rfl ?_
    refine C_seq ?_
    refine C_region (l := [0, 1, 2, 3]) rfl ?_
    refine X_build rfl rfl F.bld28 (.nil) rfl rfl ?_
    refine Y_store F.lay28 ?_
    iterate 2 refine Y_assign ?_
    refine XD_end ?_
    refine K_then ?_
    refine Y_pk [8, 7, 6, 5, 3, 1] ?_
    refine C_ret ?_
    refine K_ret ?_
    refine K_end (.inr rfl) (.cell rfl (by repeat first | exact List.Mem.head _ | refine List.Mem.tail _ ?_ | refine List.mem_append_right _ ?_) F.lay28 rfl rfl (.tmp rfl (.tmp rfl .nil))) (fun w hw => ?_)
    refine ⟨_, M, rfl, Mem.le.refl M, hw.c, ?_⟩
    rw [show pointT (TableV.tb ⟨⟨t_self_addr, t_self_id⟩, ⟨t_pred_addr, t_pred_id⟩, ⟨t_succ_a, t_succ_c, t_succ_l⟩, ⟨t_fingers_a, t_fingers_c, t_fingers_l⟩⟩) k ⟨p_addr, p_id⟩ = (Tb.zero, 0, 1) from pointT_no (by rintro ⟨g1, ⟨g2, g3⟩, g4⟩; first | exact absurd g1 (by assumption) | omega | (rcases g4 with g4 | g4; exact absurd g4 (by assumption); exact absurd g4 (by assumption)))]
    exact ⟨_, rfl, tabIs_zero⟩
   ·replace hc5 := dF hc5
    refine Y_move ?_
    refine Y_cmp ?_
    refine Y_pick ?_
    refine Y_move ?_
    refine XD_part 25 rfl (fun hc6 => ?_) (fun hc6 => ?_)
    ·replace hc6 := dT hc6
     iterate 10 refine Y_skip ?_
     refine Y_pick ?_
     refine XD_end ?_
     refine K_then ?_
     refine Y_pk [36, 8, 7, 6, 5, 3, 1] ?_
     refine C_true rfl ?_
     refine C_seq ?_
     refine C_region (l := [0, 1, 2, 3]) rfl ?_
     refine X_build rfl rfl F.bld28 (.nil) rfl rfl ?_
     refine Y_store F.lay28 ?_
     iterate 2 refine Y_assign ?_
     refine XD_end ?_
     refine K_then ?_
     refine Y_pk [8, 7, 6, 5, 3, 1] ?_
     refine C_ret ?_
     refine K_ret ?_
     refine K_end (.inr rfl) (.cell rfl (by repeat first | exact List.Mem.head _ | refine List.Mem.tail _ ?_ | refine List.mem_append_right _ ?_) F.lay28 rfl rfl (.tmp rfl (.tmp rfl .nil))) (fun w hw => ?_)
     refine ⟨_, M, rfl, Mem.le.refl M, hw.c, ?_⟩
     rw [show pointT (TableV.tb ⟨⟨t_self_addr, t_self_id⟩, ⟨t_pred_addr, t_pred_id⟩, ⟨t_succ_a, t_succ_c, t_succ_l⟩, ⟨t_fingers_a, t_fingers_c, t_fingers_l⟩⟩) k ⟨p_addr, p_id⟩ = (Tb.zero, 0, 1) from pointT_no (by rintro ⟨g1, ⟨g2, g3⟩, g4⟩; first | exact absurd g1 (by assumption) | omega | (rcases g4 with g4 | g4; exact absurd g4 (by assumption); exact absurd g4 (by assumption)))]
     exact ⟨_, rfl, tabIs_zero⟩
    ·replace hc6 := dF hc6
     refine Y_load F.lay25 ?_
     refine Y_fieldAddr F.foff28_0 ?_
     refine Y_load F.lay25 ?_
     refine X_same (m := 20) rfl rfl rfl rfl rfl (by constructor) (by constructor) F.lay25 F.kinds25 rfl F.guard25 (by exact FitPeerV (⟨_, _⟩)) (by exact FitPeerV (⟨_, _⟩)) rfl rfl rfl ?_; intro c7 he8
     replace he8 : c7 = true ↔ ¬ (Segs.cells _ = Segs.cells _) := he8
     obtain rfl := neD he8 (PeerV.inj (x := ⟨_, _⟩) (y := ⟨_, _⟩)); clear he8
     refine Y_move ?_
     refine XD_part 30 rfl (fun hc9 => ?_) (fun hc9 => ?_)
     ·replace hc9 := nT hc9
      refine Y_load F.lay28 ?_
      refine Y_load F.lay25 ?_
      refine X_fs rfl rfl F.ok65 rfl (rOther_ok _ ⟨⟨_, _⟩, ⟨_, _⟩, ⟨_, _, _⟩, ⟨_, _, _⟩⟩ ⟨_, _⟩) rfl ?_
      rintro _ rfl
      refine Y_not ?_
      iterate 2 refine Y_pick ?_
      refine XD_end ?_
      refine K_then ?_
      refine Y_pk [36, 8, 7, 6, 5, 3, 1] ?_
      refine C_cond rfl (fun hc10 => ?_) (fun hc10 => ?_)
      ·replace hc10 := nT hc10
       simp only [PeerV.eta, TableV.eta, RouteV.eta] at hc10
       refine C_seq ?_
       refine C_region (l := [0, 1, 2, 3]) rfl ?_
       refine X_build rfl rfl F.bld28 (.nil) rfl rfl ?_
       refine Y_store F.lay28 ?_
       iterate 2 refine Y_assign ?_
       refine XD_end ?_
       refine K_then ?_
       refine Y_pk [8, 7, 6, 5, 3, 1] ?_
       refine C_ret ?_
       refine K_ret ?_
       refine K_end (.inr rfl) (.cell rfl (by repeat first | exact List.Mem.head _ | refine List.Mem.tail _ ?_ | refine List.mem_append_right _ ?_) F.lay28 rfl rfl (.tmp rfl (.tmp rfl .nil))) (fun w hw => ?_)
       refine ⟨_, M, rfl, Mem.le.refl M, hw.c, ?_⟩
       rw [show pointT (TableV.tb ⟨⟨t_self_addr, t_self_id⟩, ⟨t_pred_addr, t_pred_id⟩, ⟨t_succ_a, t_succ_c, t_succ_l⟩, ⟨t_fingers_a, t_fingers_c, t_fingers_l⟩⟩) k ⟨p_addr, p_id⟩ = (Tb.zero, 0, 1) from pointT_no (by rintro ⟨g1, ⟨g2, g3⟩, g4⟩; first | exact absurd g1 (by assumption) | omega | (rcases g4 with g4 | g4; exact absurd g4 (by assumption); exact absurd g4 (by assumption)))]
       exact ⟨_, rfl, tabIs_zero⟩
      ·replace hc10 := nF hc10
       simp only [PeerV.eta, TableV.eta, RouteV.eta] at hc10
       refine C_skip ?_
       refine K_then ?_
       refine Y_pk [8, 7, 6, 5, 3, 1] ?_
       refine C_seq ?_
       refine C_region (l := [0, 1, 2, 3]) rfl ?_
       obtain ⟨kn, rfl⟩ : ∃ kn : Nat, k = kn := ⟨k.toNat, by omega⟩
       have hf160 : t_fingers_l.length = 160 := (show IsTb (TableV.tb ⟨⟨t_self_addr, t_self_id⟩, ⟨t_pred_addr, t_pred_id⟩, ⟨t_succ_a, t_succ_c, t_succ_l⟩, ⟨t_fingers_a, t_fingers_c, t_fingers_l⟩⟩) by assumption).2.2.2.1
       refine Y_load F.lay28 ?_
       refine X_fhR rfl rfl F.ok16 rfl (OwnF_ok M ⟨⟨t_self_addr, t_self_id⟩, ⟨t_pred_addr, t_pred_id⟩, ⟨t_succ_a, t_succ_c, t_succ_l⟩, ⟨t_fingers_a, t_fingers_c, t_fingers_l⟩⟩ ht0 (isTb_small (t := ⟨⟨t_self_addr, t_self_id⟩, ⟨t_pred_addr, t_pred_id⟩, ⟨t_succ_a, t_succ_c, t_succ_l⟩, ⟨t_fingers_a, t_fingers_c, t_fingers_l⟩⟩) (by assumption))) (by repeat first | exact Rem.here _ | exact Rem.two | apply Rem.skip | apply Rem.over) (fun _ _ _ hm hw => (hw.lower (by exact hm)).c) (putE_some rfl) ?_
       rintro _ M1 hs8 hm1 ⟨s1, v1, v8, rfl, hs1, k_s1, hl1, ho8⟩
       obtain ⟨ad8, cp8, rfl⟩ := ho8.valL
       obtain ⟨s1_a, s1_c, s1_l⟩ := s1
       simp only [Sl.val] at hs1
       subst hs1
       simp only at hl1
       refine Y_alloc F.zero28 ?_; intro b11
       refine Y_store F.lay28 ?_
       refine XD_end ?_
       refine K_then ?_
       refine Y_pk [9, 8, 7, 6, 5, 3, 1] ?_
       refine C_seq ?_
       refine C_region (l := [0, 1, 2]) rfl ?_
       refine Y_load F.lay25 ?_
       refine Y_alloc F.zero25 ?_; intro b12
       refine Y_store F.lay25 ?_
       refine XD_end ?_
       refine K_then ?_
       refine Y_pk [10, 9, 8, 7, 6, 5, 3, 1] ?_
       iterate 2 refine C_seq ?_
       refine C_region (l := [0, 1, 2, 3]) rfl ?_
       refine Y_load F.lay25 ?_
       refine Y_fieldAddr F.foff28_0 ?_
       refine Y_load F.lay25 ?_
       refine X_same (m := 20) rfl rfl rfl rfl rfl (by constructor) (by constructor) F.lay25 F.kinds25 rfl F.guard25 (by exact FitPeerV (⟨_, _⟩)) (by exact FitPeerV (⟨_, _⟩)) rfl rfl rfl ?_; intro c13 he14
       replace he14 : c13 = true ↔ Segs.cells _ = Segs.cells _ := he14
       obtain rfl := eqD he14 (PeerV.inj (x := ⟨_, _⟩) (y := ⟨_, _⟩)); clear he14
       refine XD_end ?_
       refine K_then ?_
       refine Y_pk [44, 10, 9, 8, 7, 6, 5, 3, 1] ?_
       refine C_cond rfl (fun hc15 => ?_) (fun hc15 => ?_)
       ·replace hc15 := dT hc15
        contradiction
       ·replace hc15 := dF hc15
        refine C_skip ?_
        refine K_then ?_
        refine Y_pk [10, 9, 8, 7, 6, 5, 3, 1] ?_
        iterate 2 refine C_seq ?_
        refine C_region (l := [0, 1]) rfl ?_
        refine Y_move ?_
        refine Y_assign ?_
        refine XD_end ?_
        refine K_then ?_
        refine Y_pk [11, 10, 9, 8, 7, 6, 5, 3, 1] ?_
        refine C_block ?_
        refine Y_pk [11, 10, 9, 8, 7, 6, 5, 3, 1] ?_
        refine C_loopO (Hin := hs8) (.succ .zero) (by repeat first | exact Rem.here _ | exact Rem.two | apply Rem.skip | apply Rem.over) (fun (j : Nat) M9 h1 z => M9 = M1 ∧ z = [(11, .int .i64 (j : Int))] ∧ kn ≤ j ∧ j ≤ 160 ∧ OSl 25 21 (.slice ad8 t_fingers_l.length cp8) h1 ((ptW t_fingers_l kn j (PeerV.mk p_addr p_id)).map PeerV.segs) ∧ pointEnd ⟨t_self_addr, t_self_id⟩ ⟨p_addr, p_id⟩ kn kn (160 - kn) = pointEnd ⟨t_self_addr, t_self_id⟩ ⟨p_addr, p_id⟩ kn j (160 - j)) (fun j => 160 - j) (kn) (⟨rfl, rfl, by omega, by omega, by rw [ptW_start]; exact ho8, rfl⟩) ?_
        rintro j M2 h1 z hm2 ⟨hM2, rfl, hkj, hj, ho1, hI⟩
        subst hM2
        have hwl : (ptW t_fingers_l kn j (PeerV.mk p_addr p_id)).length = t_fingers_l.length := ptW_len hkj (by omega)
        have hnw : ((ptW t_fingers_l kn j (PeerV.mk p_addr p_id)).map PeerV.segs).length = (ptW t_fingers_l kn j (PeerV.mk p_addr p_id)).length := List.length_map ..
        iterate 2 refine C_seq ?_
        refine C_region (l := [0, 1]) rfl ?_
        refine Y_move ?_
        refine Y_cmp ?_
        refine XD_end ?_
        refine K_then ?_
        refine C_cond rfl (fun hc20 => ?_) (fun hc20 => ?_)
        ·replace hc20 := dT hc20
         refine C_skip ?_
         refine K_then ?_
         refine C_seq ?_
         refine C_block ?_
         refine C_seq ?_
         refine C_region (l := [0, 1, 2, 3, 4, 5, 6, 7]) rfl ?_
         refine Y_move ?_
         refine X_fs rfl rfl F.ok69 rfl (rPower_ok_in _ j (by omega)) rfl ?_
         rintro _ rfl
         refine Y_move ?_
         iterate 2 refine Y_extract ?_
         refine Y_alloc F.zero23 ?_; intro b21
         refine Y_store F.lay23 ?_
         refine Y_assign ?_
         refine XD_end ?_
         refine K_then ?_
         refine Y_pk [12, 55, 54, 51, 53, 52, 48, 47, 11, 10, 9, 8, 7, 6, 5, 3, 1] ?_
         iterate 2 refine C_seq ?_
         refine C_region_any (l := [0, 1, 2, 3, 4, 5, 6, 7, 8, 9, 10, 11, 12, 13, 14, 15, 16]) #[0, 0, 3, 7, 15, 31, 63, 15, 143, 399, 15, 1935, 15, 4111, 16383, 32767, 65535] _ rfl (by kernel_rfl) (by kernel_rfl) St.drawn (fun _ h => h) ?_
         iterate 2 refine Y_move ?_
         refine Y_cmp ?_
         refine Y_move ?_
         refine XD_part 59 rfl (fun hc22 => ?_) (fun hc22 => ?_)
         ·replace hc22 := dT hc22
          refine Y_fieldAddr F.foff28_0 ?_
          refine Y_fieldAddr F.foff25_1 ?_
          refine Y_load F.lay23 ?_
          refine Y_fieldAddr F.foff28_0 ?_
          refine Y_fieldAddr F.foff25_1 ?_
          iterate 2 refine Y_load F.lay23 ?_
          refine X_fs rfl rfl F.ok71 rfl (rPlus_ok _ _ _) rfl ?_
          rintro _ rfl
          refine Y_fieldAddr F.foff25_1 ?_
          refine Y_load F.lay23 ?_
          refine X_fs rfl rfl F.ok70 rfl (rHalf_ok _ _ _ _) rfl ?_
          rintro _ rfl
          refine Y_not ?_
          refine Y_pick ?_
          refine XD_end ?_
          refine K_then ?_
          refine C_cond rfl (fun hc23 => ?_) (fun hc23 => ?_)
          ·replace hc23 := nT hc23
           refine C_seq ?_
           refine C_region (l := [0, 1, 2, 3, 4]) rfl ?_
           refine Y_load F.lay28 ?_
           refine Y_move ?_
           refine Y_store F.lay28 ?_
           iterate 2 refine Y_assign ?_
           refine XD_end ?_
           refine K_then ?_
           refine C_ret ?_
           refine K_ret ?_
           refine K_retB ?_
           iterate 2 refine K_ret ?_
           refine K_retB ?_
           refine K_ret ?_
           refine K_end (.inr rfl) (.cell rfl (by repeat first | exact List.Mem.head _ | refine List.Mem.tail _ ?_ | refine List.mem_append_right _ ?_) F.lay28 rfl rfl (.tmp rfl (.tmp rfl .nil))) (fun w hw => ?_)
           obtain ⟨M9, s2, j1, j2, j3, j4, j5⟩ := OSl.freezeK (f := PeerV.segs) (H := H) ho1 (hw.c)
           refine ⟨_, M9, rfl, hm1.trans j1, j2, ?_⟩
           rw [show pointT (TableV.tb ⟨⟨t_self_addr, t_self_id⟩, ⟨t_pred_addr, t_pred_id⟩, ⟨t_succ_a, t_succ_c, t_succ_l⟩, ⟨t_fingers_a, t_fingers_c, t_fingers_l⟩⟩) ((kn : Nat) : Int) ⟨p_addr, p_id⟩ = ({ (TableV.tb ⟨⟨t_self_addr, t_self_id⟩, ⟨t_pred_addr, t_pred_id⟩, ⟨t_succ_a, t_succ_c, t_succ_l⟩, ⟨t_fingers_a, t_fingers_c, t_fingers_l⟩⟩) with fingers := ptW t_fingers_l kn j ⟨p_addr, p_id⟩ }, (j : Int), 0) from ?_]
           ·exact ⟨_, rfl, tabIs_mk (s1 := ⟨s1_a, s1_c, s1_l⟩) (s2 := s2) rfl j3 (k_s1.mono j1) j5 (by rw [j4, hl1]; rfl)⟩
           ·exact pointT_is (j := j) (by assumption) (by omega) (by exact .inr (by assumption)) (hI.trans (pointEnd_stop (by omega) (by omega) (by unfold inArc; exact decide_eq_false (by assumption)))) (show fingerOf (TableV.tb ⟨⟨t_self_addr, t_self_id⟩, ⟨t_pred_addr, t_pred_id⟩, ⟨t_succ_a, t_succ_c, t_succ_l⟩, ⟨t_fingers_a, t_fingers_c, t_fingers_l⟩⟩) ⟨p_addr, p_id⟩ = ⟨p_addr, p_id⟩ from if_neg (by assumption)) (if_neg (by omega))
          ·replace hc23 := nF hc23
           refine C_skip ?_
           refine K_then ?_
           refine C_region (l := [0, 1, 2, 3, 4, 5]) rfl ?_
           refine Y_fieldAddr F.foff28_3 ?_
           refine Y_load F.lay26 ?_
           refine Y_move ?_
           refine Y_load F.lay25 ?_
           refine X_indexAddr rfl rfl rfl rfl F.elem26 (by rfl) (by (simp; omega)) (by exact OSl.plain (by assumption) (by (simp; omega))) rfl ?_
           obtain ⟨b6, rfl⟩ := ho1.someB (by omega)
           refine X_storeO (b := b6) (j := j) rfl rfl rfl rfl (by constructor) (flat_one rfl (flat_id flat_nil)) F.lay25 rfl rfl ho1 (by repeat first | exact Rem.here _ | exact Rem.two | apply Rem.skip | apply Rem.over) (by omega) ?_; intro hs6 ho6
           replace ho6 : OSl 25 21 (.slice (some ⟨b6, 0, none⟩) t_fingers_l.length cp8) hs6 ((ptW t_fingers_l kn (j + 1) (PeerV.mk p_addr p_id)).map PeerV.segs) := by rw [← ptW_set hkj (by omega), List.map_set]; exact ho6.as (by simp; omega)
           refine XD_end ?_
           refine K_out ?_
           refine K_then ?_
           refine C_region (l := [0, 1, 2]) rfl ?_
           refine Y_move ?_
           refine X_ari rfl rfl rfl rfl rfl (by exact wrap_in (by decide) (by omega)) rfl ?_
           refine Y_assign ?_
           refine XD_end ?_
           refine K_roundO (a' := [(11, _)]) (j + 1) (hs6) (.cons (k := 11) rfl (.cons (k := 10) rfl (.cons (k := 9) rfl (.cons (k := 8) rfl (.cons (k := 7) rfl (.cons (k := 6) rfl (.cons (k := 5) rfl (.cons (k := 3) rfl (.cons (k := 1) rfl (.nil)))))))))) (by exact Mem.le.refl _) (fun w hw => by first | exact hw | exact hw.c) ?_ ?_
           ·refine ⟨rfl, rfl, by omega, by omega, ho6, ?_⟩
            rw [hI, pointEnd_go (by omega) (by rintro ⟨g1, g2⟩; unfold inArc at g2; simp_all)]
           ·omega
         ·replace hc22 := dF hc22
          iterate 12 refine Y_skip ?_
          refine Y_pick ?_
          refine XD_end ?_
          refine K_then ?_
          refine C_false rfl ?_
          refine C_skip ?_
          refine K_then ?_
          refine C_region (l := [0, 1, 2, 3, 4, 5]) rfl ?_
          refine Y_fieldAddr F.foff28_3 ?_
          refine Y_load F.lay26 ?_
          refine Y_move ?_
          refine Y_load F.lay25 ?_
          refine X_indexAddr rfl rfl rfl rfl F.elem26 (by rfl) (by (simp; omega)) (by exact OSl.plain (by assumption) (by (simp; omega))) rfl ?_
          obtain ⟨b6, rfl⟩ := ho1.someB (by omega)
          refine X_storeO (b := b6) (j := j) rfl rfl rfl rfl (by constructor) (flat_one rfl (flat_id flat_nil)) F.lay25 rfl rfl ho1 (by repeat first | exact Rem.here _ | exact Rem.two | apply Rem.skip | apply Rem.over) (by omega) ?_; intro hs6 ho6
          replace ho6 : OSl 25 21 (.slice (some ⟨b6, 0, none⟩) t_fingers_l.length cp8) hs6 ((ptW t_fingers_l kn (j + 1) (PeerV.mk p_addr p_id)).map PeerV.segs) := by rw [← ptW_set hkj (by omega), List.map_set]; exact ho6.as (by simp; omega)
          refine XD_end ?_
          refine K_out ?_
          refine K_then ?_
          refine C_region (l := [0, 1, 2]) rfl ?_
          refine Y_move ?_
          refine X_ari rfl rfl rfl rfl rfl (by exact wrap_in (by decide) (by omega)) rfl ?_
          refine Y_assign ?_
          refine XD_end ?_
          refine K_roundO (a' := [(11, _)]) (j + 1) (hs6) (.cons (k := 11) rfl (.cons (k := 10) rfl (.cons (k := 9) rfl (.cons (k := 8) rfl (.cons (k := 7) rfl (.cons (k := 6) rfl (.cons (k := 5) rfl (.cons (k := 3) rfl (.cons (k := 1) rfl (.nil)))))))))) (by exact Mem.le.refl _) (fun w hw => by first | exact hw | exact hw.c) ?_ ?_
          ·refine ⟨rfl, rfl, by omega, by omega, ho6, ?_⟩
           rw [hI, pointEnd_go (by omega) (by rintro ⟨g1, g2⟩; omega)]
          ·omega
        ·replace hc20 := dF hc20
         refine C_exit ?_
         iterate 2 refine K_exit ?_
         refine K_hit ?_
         refine K_then ?_
         refine Y_pk [9, 8, 7, 6] ?_
         refine C_seq ?_
         refine C_region (l := [0, 1, 2, 3]) rfl ?_
         refine Y_load F.lay28 ?_
         refine Y_store F.lay28 ?_
         iterate 2 refine Y_assign ?_
         refine XD_end ?_
         refine K_then ?_
         refine Y_pk [8, 7, 6] ?_
         refine C_ret ?_
         refine K_end (.inr rfl) (.cell rfl (by repeat first | exact List.Mem.head _ | refine List.Mem.tail _ ?_ | refine List.mem_append_right _ ?_) F.lay28 rfl rfl (.tmp rfl (.tmp rfl .nil))) (fun w hw => ?_)
         obtain rfl : j = 160 := by omega
         obtain ⟨M9, s2, j1, j2, j3, j4, j5⟩ := OSl.freezeK (f := PeerV.segs) (H := H) ho1 (hw.c)
         refine ⟨_, M9, rfl, hm1.trans j1, j2, ?_⟩
         rw [show pointT (TableV.tb ⟨⟨t_self_addr, t_self_id⟩, ⟨t_pred_addr, t_pred_id⟩, ⟨t_succ_a, t_succ_c, t_succ_l⟩, ⟨t_fingers_a, t_fingers_c, t_fingers_l⟩⟩) ((kn : Nat) : Int) ⟨p_addr, p_id⟩ = ({ (TableV.tb ⟨⟨t_self_addr, t_self_id⟩, ⟨t_pred_addr, t_pred_id⟩, ⟨t_succ_a, t_succ_c, t_succ_l⟩, ⟨t_fingers_a, t_fingers_c, t_fingers_l⟩⟩) with fingers := ptW t_fingers_l kn 160 ⟨p_addr, p_id⟩ }, 0, 0) from ?_]
         ·exact ⟨_, rfl, tabIs_mk (s1 := ⟨s1_a, s1_c, s1_l⟩) (s2 := s2) rfl j3 (k_s1.mono j1) j5 (by rw [j4, hl1]; rfl)⟩
         ·exact pointT_is (j := 160) (by assumption) (by omega) (by exact .inr (by assumption)) hI (show fingerOf (TableV.tb ⟨⟨t_self_addr, t_self_id⟩, ⟨t_pred_addr, t_pred_id⟩, ⟨t_succ_a, t_succ_c, t_succ_l⟩, ⟨t_fingers_a, t_fingers_c, t_fingers_l⟩⟩) ⟨p_addr, p_id⟩ = ⟨p_addr, p_id⟩ from if_neg (by assumption)) (if_pos rfl)
     ·replace hc9 := nF hc9
      iterate 4 refine Y_skip ?_
      iterate 2 refine Y_pick ?_
      refine XD_end ?_
      refine K_then ?_
      refine Y_pk [36, 8, 7, 6, 5, 3, 1] ?_
      refine C_false rfl ?_
      refine C_skip ?_
      refine K_then ?_
      refine Y_pk [8, 7, 6, 5, 3, 1] ?_
      refine C_seq ?_
      refine C_region (l := [0, 1, 2, 3]) rfl ?_
      obtain ⟨kn, rfl⟩ : ∃ kn : Nat, k = kn := ⟨k.toNat, by omega⟩
      have hf160 : t_fingers_l.length = 160 := (show IsTb (TableV.tb ⟨⟨t_self_addr, t_self_id⟩, ⟨t_pred_addr, t_pred_id⟩, ⟨t_succ_a, t_succ_c, t_succ_l⟩, ⟨t_fingers_a, t_fingers_c, t_fingers_l⟩⟩) by assumption).2.2.2.1
      refine Y_load F.lay28 ?_
      refine X_fhR rfl rfl F.ok16 rfl (OwnF_ok M ⟨⟨t_self_addr, t_self_id⟩, ⟨t_pred_addr, t_pred_id⟩, ⟨t_succ_a, t_succ_c, t_succ_l⟩, ⟨t_fingers_a, t_fingers_c, t_fingers_l⟩⟩ ht0 (isTb_small (t := ⟨⟨t_self_addr, t_self_id⟩, ⟨t_pred_addr, t_pred_id⟩, ⟨t_succ_a, t_succ_c, t_succ_l⟩, ⟨t_fingers_a, t_fingers_c, t_fingers_l⟩⟩) (by assumption))) (by repeat first | exact Rem.here _ | exact Rem.two | apply Rem.skip | apply Rem.over) (fun _ _ _ hm hw => (hw.lower (by exact hm)).c) (putE_some rfl) ?_
      rintro _ M1 hs8 hm1 ⟨s1, v1, v8, rfl, hs1, k_s1, hl1, ho8⟩
      obtain ⟨ad8, cp8, rfl⟩ := ho8.valL
      obtain ⟨s1_a, s1_c, s1_l⟩ := s1
      simp only [Sl.val] at hs1
      subst hs1
      simp only at hl1
      refine Y_alloc F.zero28 ?_; intro b24
      refine Y_store F.lay28 ?_
      refine XD_end ?_
      refine K_then ?_
      refine Y_pk [9, 8, 7, 6, 5, 3, 1] ?_
      refine C_seq ?_
      refine C_region (l := [0, 1, 2]) rfl ?_
      refine Y_load F.lay25 ?_
      refine Y_alloc F.zero25 ?_; intro b25
      refine Y_store F.lay25 ?_
      refine XD_end ?_
      refine K_then ?_
      refine Y_pk [10, 9, 8, 7, 6, 5, 3, 1] ?_
      iterate 2 refine C_seq ?_
      refine C_region (l := [0, 1, 2, 3]) rfl ?_
      refine Y_load F.lay25 ?_
      refine Y_fieldAddr F.foff28_0 ?_
      refine Y_load F.lay25 ?_
      refine X_same (m := 20) rfl rfl rfl rfl rfl (by constructor) (by constructor) F.lay25 F.kinds25 rfl F.guard25 (by exact FitPeerV (⟨_, _⟩)) (by exact FitPeerV (⟨_, _⟩)) rfl rfl rfl ?_; intro c26 he27
      replace he27 : c26 = true ↔ Segs.cells _ = Segs.cells _ := he27
      obtain rfl := eqD he27 (PeerV.inj (x := ⟨_, _⟩) (y := ⟨_, _⟩)); clear he27
      refine XD_end ?_
      refine K_then ?_
      refine Y_pk [44, 10, 9, 8, 7, 6, 5, 3, 1] ?_
      refine C_cond rfl (fun hc28 => ?_) (fun hc28 => ?_)
      ·replace hc28 := dT hc28
       refine C_region (l := [0, 1]) rfl ?_
       refine X_fs rfl rfl F.ok43 rfl (rNone_ok _) rfl ?_
       rintro _ rfl
       refine XD_is 45 rfl (show _ = aggV [.one (.int .i64 (-1)), idSeg 0] from rfl) ?_
       refine Y_store F.lay25 ?_
       refine XD_end ?_
       refine K_then ?_
       refine Y_pk [10, 9, 8, 7, 6, 5, 3, 1] ?_
       iterate 2 refine C_seq ?_
       refine C_region (l := [0, 1]) rfl ?_
       refine Y_move ?_
       refine Y_assign ?_
       refine XD_end ?_
       refine K_then ?_
       refine Y_pk [11, 10, 9, 8, 7, 6, 5, 3, 1] ?_
       refine C_block ?_
       refine Y_pk [11, 10, 9, 8, 7, 6, 5, 3, 1] ?_
       refine C_loopO (Hin := hs8) (.succ .zero) (by repeat first | exact Rem.here _ | exact Rem.two | apply Rem.skip | apply Rem.over) (fun (j : Nat) M9 h1 z => M9 = M1 ∧ z = [(11, .int .i64 (j : Int))] ∧ kn ≤ j ∧ j ≤ 160 ∧ OSl 25 21 (.slice ad8 t_fingers_l.length cp8) h1 ((ptW t_fingers_l kn j noneP).map PeerV.segs) ∧ pointEnd ⟨t_self_addr, t_self_id⟩ ⟨p_addr, p_id⟩ kn kn (160 - kn) = pointEnd ⟨t_self_addr, t_self_id⟩ ⟨p_addr, p_id⟩ kn j (160 - j)) (fun j => 160 - j) (kn) (⟨rfl, rfl, by omega, by omega, by rw [ptW_start]; exact ho8, rfl⟩) ?_
       rintro j M2 h1 z hm2 ⟨hM2, rfl, hkj, hj, ho1, hI⟩
       subst hM2
       have hwl : (ptW t_fingers_l kn j noneP).length = t_fingers_l.length := ptW_len hkj (by omega)
       have hnw : ((ptW t_fingers_l kn j noneP).map PeerV.segs).length = (ptW t_fingers_l kn j noneP).length := List.length_map ..
       iterate 2 refine C_seq ?_
       refine C_region (l := [0, 1]) rfl ?_
       refine Y_move ?_
       refine Y_cmp ?_
       refine XD_end ?_
       refine K_then ?_
       refine C_cond rfl (fun hc29 => ?_) (fun hc29 => ?_)
       ·replace hc29 := dT hc29
        refine C_skip ?_
        refine K_then ?_
        refine C_seq ?_
        refine C_block ?_
        refine C_seq ?_
        refine C_region (l := [0, 1, 2, 3, 4, 5, 6, 7]) rfl ?_
        refine Y_move ?_
        refine X_fs rfl rfl F.ok69 rfl (rPower_ok_in _ j (by omega)) rfl ?_
        rintro _ rfl
        refine Y_move ?_
        iterate 2 refine Y_extract ?_
        refine Y_alloc F.zero23 ?_; intro b30
        refine Y_store F.lay23 ?_
        refine Y_assign ?_
        refine XD_end ?_
        refine K_then ?_
        refine Y_pk [12, 55, 54, 51, 53, 52, 48, 47, 11, 10, 9, 8, 7, 6, 5, 3, 1] ?_
        iterate 2 refine C_seq ?_
        refine C_region_any (l := [0, 1, 2, 3, 4, 5, 6, 7, 8, 9, 10, 11, 12, 13, 14, 15, 16]) #[0, 0, 3, 7, 15, 31, 63, 15, 143, 399, 15, 1935, 15, 4111, 16383, 32767, 65535] _ rfl (by kernel_rfl) (by kernel_rfl) St.drawn (fun _ h => h) ?_
        iterate 2 refine Y_move ?_
        refine Y_cmp ?_
        refine Y_move ?_
        refine XD_part 59 rfl (fun hc31 => ?_) (fun hc31 => ?_)
        ·replace hc31 := dT hc31
         refine Y_fieldAddr F.foff28_0 ?_
         refine Y_fieldAddr F.foff25_1 ?_
         refine Y_load F.lay23 ?_
         refine Y_fieldAddr F.foff28_0 ?_
         refine Y_fieldAddr F.foff25_1 ?_
         iterate 2 refine Y_load F.lay23 ?_
         refine X_fs rfl rfl F.ok71 rfl (rPlus_ok _ _ _) rfl ?_
         rintro _ rfl
         refine Y_fieldAddr F.foff25_1 ?_
         refine Y_load F.lay23 ?_
         refine X_fs rfl rfl F.ok70 rfl (rHalf_ok _ _ _ _) rfl ?_
         rintro _ rfl
         refine Y_not ?_
         refine Y_pick ?_
         refine XD_end ?_
         refine K_then ?_
         refine C_cond rfl (fun hc32 => ?_) (fun hc32 => ?_)
         ·replace hc32 := nT hc32
          refine C_seq ?_
          refine C_region (l := [0, 1, 2, 3, 4]) rfl ?_
          refine Y_load F.lay28 ?_
          refine Y_move ?_
          refine Y_store F.lay28 ?_
          iterate 2 refine Y_assign ?_
          refine XD_end ?_
          refine K_then ?_
          refine C_ret ?_
          refine K_ret ?_
          refine K_retB ?_
          iterate 2 refine K_ret ?_
          refine K_retB ?_
          refine K_ret ?_
          refine K_end (.inr rfl) (.cell rfl (by repeat first | exact List.Mem.head _ | refine List.Mem.tail _ ?_ | refine List.mem_append_right _ ?_) F.lay28 rfl rfl (.tmp rfl (.tmp rfl .nil))) (fun w hw => ?_)
          obtain ⟨M9, s2, j1, j2, j3, j4, j5⟩ := OSl.freezeK (f := PeerV.segs) (H := H) ho1 (hw.c)
          refine ⟨_, M9, rfl, hm1.trans j1, j2, ?_⟩
          rw [show pointT (TableV.tb ⟨⟨t_self_addr, t_self_id⟩, ⟨t_pred_addr, t_pred_id⟩, ⟨t_succ_a, t_succ_c, t_succ_l⟩, ⟨t_fingers_a, t_fingers_c, t_fingers_l⟩⟩) ((kn : Nat) : Int) ⟨p_addr, p_id⟩ = ({ (TableV.tb ⟨⟨t_self_addr, t_self_id⟩, ⟨t_pred_addr, t_pred_id⟩, ⟨t_succ_a, t_succ_c, t_succ_l⟩, ⟨t_fingers_a, t_fingers_c, t_fingers_l⟩⟩) with fingers := ptW t_fingers_l kn j noneP }, (j : Int), 0) from ?_]
          ·exact ⟨_, rfl, tabIs_mk (s1 := ⟨s1_a, s1_c, s1_l⟩) (s2 := s2) rfl j3 (k_s1.mono j1) j5 (by rw [j4, hl1]; rfl)⟩
          ·exact pointT_is (j := j) (by assumption) (by omega) (by exact .inl (by assumption)) (hI.trans (pointEnd_stop (by omega) (by omega) (by unfold inArc; exact decide_eq_false (by assumption)))) (show fingerOf (TableV.tb ⟨⟨t_self_addr, t_self_id⟩, ⟨t_pred_addr, t_pred_id⟩, ⟨t_succ_a, t_succ_c, t_succ_l⟩, ⟨t_fingers_a, t_fingers_c, t_fingers_l⟩⟩) ⟨p_addr, p_id⟩ = noneP from if_pos (by assumption)) (if_neg (by omega))
         ·replace hc32 := nF hc32
          refine C_skip ?_
          refine K_then ?_
          refine C_region (l := [0, 1, 2, 3, 4, 5]) rfl ?_
          refine Y_fieldAddr F.foff28_3 ?_
          refine Y_load F.lay26 ?_
          refine Y_move ?_
          refine Y_load F.lay25 ?_
          refine X_indexAddr rfl rfl rfl rfl F.elem26 (by rfl) (by (simp; omega)) (by exact OSl.plain (by assumption) (by (simp; omega))) rfl ?_
          obtain ⟨b6, rfl⟩ := ho1.someB (by omega)
          refine X_storeO (b := b6) (j := j) rfl rfl rfl rfl (by constructor) (flat_one rfl (flat_id flat_nil)) F.lay25 rfl rfl ho1 (by repeat first | exact Rem.here _ | exact Rem.two | apply Rem.skip | apply Rem.over) (by omega) ?_; intro hs6 ho6
          replace ho6 : OSl 25 21 (.slice (some ⟨b6, 0, none⟩) t_fingers_l.length cp8) hs6 ((ptW t_fingers_l kn (j + 1) noneP).map PeerV.segs) := by rw [← ptW_set hkj (by omega), List.map_set]; exact ho6.as (by simp; omega)
          refine XD_end ?_
          refine K_out ?_
          refine K_then ?_
          refine C_region (l := [0, 1, 2]) rfl ?_
          refine Y_move ?_
          refine X_ari rfl rfl rfl rfl rfl (by exact wrap_in (by decide) (by omega)) rfl ?_
          refine Y_assign ?_
          refine XD_end ?_
          refine K_roundO (a' := [(11, _)]) (j + 1) (hs6) (.cons (k := 11) rfl (.cons (k := 10) rfl (.cons (k := 9) rfl (.cons (k := 8) rfl (.cons (k := 7) rfl (.cons (k := 6) rfl (.cons (k := 5) rfl (.cons (k := 3) rfl (.cons (k := 1) rfl (.nil)))))))))) (by exact Mem.le.refl _) (fun w hw => by first | exact hw | exact hw.c) ?_ ?_
          ·refine ⟨rfl, rfl, by omega, by omega, ho6, ?_⟩
           rw [hI, pointEnd_go (by omega) (by rintro ⟨g1, g2⟩; unfold inArc at g2; simp_all)]
          ·omega
        ·replace hc31 := dF hc31
         iterate 12 refine Y_skip ?_
         refine Y_pick ?_
         refine XD_end ?_
         refine K_then ?_
         refine C_false rfl ?_
         refine C_skip ?_
         refine K_then ?_
         refine C_region (l := [0, 1, 2, 3, 4, 5]) rfl ?_
         refine Y_fieldAddr F.foff28_3 ?_
         refine Y_load F.lay26 ?_
         refine Y_move ?_
         refine Y_load F.lay25 ?_
         refine X_indexAddr rfl rfl rfl rfl F.elem26 (by rfl) (by (simp; omega)) (by exact OSl.plain (by assumption) (by (simp; omega))) rfl ?_
         obtain ⟨b6, rfl⟩ := ho1.someB (by omega)
         refine X_storeO (b := b6) (j := j) rfl rfl rfl rfl (by constructor) (flat_one rfl (flat_id flat_nil)) F.lay25 rfl rfl ho1 (by repeat first | exact Rem.here _ | exact Rem.two | apply Rem.skip | apply Rem.over) (by omega) ?_; intro hs6 ho6
         replace ho6 : OSl 25 21 (.slice (some ⟨b6, 0, none⟩) t_fingers_l.length cp8) hs6 ((ptW t_fingers_l kn (j + 1) noneP).map PeerV.segs) := by rw [← ptW_set hkj (by omega), List.map_set]; exact ho6.as (by simp; omega)
         refine XD_end ?_
         refine K_out ?_
         refine K_then ?_
         refine C_region (l := [0, 1, 2]) rfl ?_
         refine Y_move ?_
         refine X_ari rfl rfl rfl rfl rfl (by exact wrap_in (by decide) (by omega)) rfl ?_
         refine Y_assign ?_
         refine XD_end ?_
         refine K_roundO (a' := [(11, _)]) (j + 1) (hs6) (.cons (k := 11) rfl (.cons (k := 10) rfl (.cons (k := 9) rfl (.cons (k := 8) rfl (.cons (k := 7) rfl (.cons (k := 6) rfl (.cons (k := 5) rfl (.cons (k := 3) rfl (.cons (k := 1) rfl (.nil)))))))))) (by exact Mem.le.refl _) (fun w hw => by first | exact hw | exact hw.c) ?_ ?_
         ·refine ⟨rfl, rfl, by omega, by omega, ho6, ?_⟩
          rw [hI, pointEnd_go (by omega) (by rintro ⟨g1, g2⟩; omega)]
         ·omega
       ·replace hc29 := dF hc29
        refine C_exit ?_
        iterate 2 refine K_exit ?_
        refine K_hit ?_
        refine K_then ?_
        refine Y_pk [9, 8, 7, 6] ?_
        refine C_seq ?_
        refine C_region (l := [0, 1, 2, 3]) rfl ?_
        refine Y_load F.lay28 ?_
        refine Y_store F.lay28 ?_
        iterate 2 refine Y_assign ?_
        refine XD_end ?_
        refine K_then ?_
        refine Y_pk [8, 7, 6] ?_
        refine C_ret ?_
        refine K_end (.inr rfl) (.cell rfl (by repeat first | exact List.Mem.head _ | refine List.Mem.tail _ ?_ | refine List.mem_append_right _ ?_) F.lay28 rfl rfl (.tmp rfl (.tmp rfl .nil))) (fun w hw => ?_)
        obtain rfl : j = 160 := by omega
        obtain ⟨M9, s2, j1, j2, j3, j4, j5⟩ := OSl.freezeK (f := PeerV.segs) (H := H) ho1 (hw.c)
        refine ⟨_, M9, rfl, hm1.trans j1, j2, ?_⟩
        rw [show pointT (TableV.tb ⟨⟨t_self_addr, t_self_id⟩, ⟨t_pred_addr, t_pred_id⟩, ⟨t_succ_a, t_succ_c, t_succ_l⟩, ⟨t_fingers_a, t_fingers_c, t_fingers_l⟩⟩) ((kn : Nat) : Int) ⟨p_addr, p_id⟩ = ({ (TableV.tb ⟨⟨t_self_addr, t_self_id⟩, ⟨t_pred_addr, t_pred_id⟩, ⟨t_succ_a, t_succ_c, t_succ_l⟩, ⟨t_fingers_a, t_fingers_c, t_fingers_l⟩⟩) with fingers := ptW t_fingers_l kn 160 noneP }, 0, 0) from ?_]
        ·exact ⟨_, rfl, tabIs_mk (s1 := ⟨s1_a, s1_c, s1_l⟩) (s2 := s2) rfl j3 (k_s1.mono j1) j5 (by rw [j4, hl1]; rfl)⟩
        ·exact pointT_is (j := 160) (by assumption) (by omega) (by exact .inl (by assumption)) hI (show fingerOf (TableV.tb ⟨⟨t_self_addr, t_self_id⟩, ⟨t_pred_addr, t_pred_id⟩, ⟨t_succ_a, t_succ_c, t_succ_l⟩, ⟨t_fingers_a, t_fingers_c, t_fingers_l⟩⟩) ⟨p_addr, p_id⟩ = noneP from if_pos (by assumption)) (if_pos rfl)
      ·replace hc28 := dF hc28
       contradiction

end Go.Proofs.Ytbjklbmmchiahaa
/-
  Fingers that are pointed.
-/
set_option linter.unusedSimpArgs false
set_option linter.unusedVariables false
set_option linter.unnecessarySimpa false
set_option maxRecDepth 8000
set_option maxHeartbeats 1000000
namespace Go.Proofs.Ytbjklbmmchiahaa
open Go.Esp
theorem F.lay31 : lay Try.prog 31 = some (false, 1) := by kernel_rfl
theorem F.ok101 : okFn Try.prog 101 = true := by kernel_rfl
theorem F.ok44 : okFn Try.prog 44 = true := by kernel_rfl
theorem F.ok68 : okFn Try.prog 68 = true := by kernel_rfl
theorem F.zero3 : zeroOf Try.prog 3 = some ((.int .i64 0)) := by kernel_rfl
theorem F.zero31 : zeroOf Try.prog 31 = some ((.int .i64 0)) := by kernel_rfl

theorem starts_ok (M : Mem) (sa : Int) (si : Plc) (pa : Int) (pi : Plc) (a1 : Option Addr) (n1 c1 : Nat) (a2 : Option Addr) (n2 c2 : Nat) (k : Int) : Esp.Fn Try.prog 68 [aggV [.one (.int .i64 sa), idSeg si, .one (.int .i64 pa), idSeg pi, .one (.slice a1 n1 c1), .one (.slice a2 n2 c2)], .int .i64 k] M (fun M' v => ∃ q1 q2, v = .func (.func 101) #[] #[.pointer (some ⟨q1, 0, none⟩), .pointer (some ⟨q2, 0, none⟩)] ∧ M' q1 = some (rowO [.one (.int .i64 k)] 3) ∧ M' q2 = some (rowO [.one (.int .i64 sa), idSeg si, .one (.int .i64 pa), idSeg pi, .one (.slice a1 n1 c1), .one (.slice a2 n2 c2)] 28)) := by
  refine fn_enter Try.func68 rfl Try.ntmps68 rfl ?_; intro H
  refine C_seq ?_
  refine C_region (l := [0, 1, 2]) rfl ?_
  refine Y_box ?_; intro b1
  refine Y_box ?_; intro b2
  refine Y_assign ?_
  refine XD_end ?_
  refine K_then ?_
  refine Y_pk [4, 3, 2] ?_
  refine C_seq ?_
  refine C_region (l := [0, 1]) rfl ?_
  refine X_makeFunc rfl rfl rfl rfl rfl ?_
  refine Y_assign ?_
  refine XD_end ?_
  refine K_then ?_
  refine Y_pk [4] ?_
  refine C_ret ?_
  refine K_end (.inr rfl) (.tmp rfl .nil) (fun w hw => ?_)
  obtain ⟨g1, g2⟩ := hw.freeze
  obtain ⟨g3, g4⟩ := g2.freeze
  exact ⟨_, _, rfl, g1.trans g3, g4, _, _, rfl, Mem.get_of (Mem.add_self _ _ _) g3, Mem.add_self _ _ _⟩

theorem starts_seq (M : Mem) (sa : Int) (si : Plc) (pa : Int) (pi : Plc) (a1 : Option Addr) (n1 c1 : Nat) (a2 : Option Addr) (n2 c2 : Nat) (kn : Nat) (hkn : kn < 160) (q1 q2 : Nat) (h1 : M q1 = some (rowO [.one (.int .i64 (kn : Int))] 3)) (h2 : M q2 = some (rowO [.one (.int .i64 sa), idSeg si, .one (.int .i64 pa), idSeg pi, .one (.slice a1 n1 c1), .one (.slice a2 n2 c2)] 28)) : Seqs Try.prog 101 [.pointer (some ⟨q1, 0, none⟩), .pointer (some ⟨q2, 0, none⟩)] (fun x : Nat × Plc => [.int .i64 (x.1 : Int), aggV [idSeg x.2]]) (startsL si kn) M [] := by
  intro lp J Jx hR M0 Jb G w hm0 hJ hw
  refine enter (S := St M0 (Jb ++ G)) Try.func101 rfl Try.ntmps101 rfl hw ?_
  refine C_seq ?_
  refine C_region (l := [0, 1]) rfl ?_
  refine X_load_mem rfl rfl rfl (by exact Mem.get_of (by assumption) (by repeat first | assumption | refine Mem.le.trans (by assumption) ?_)) F.lay3 rfl rfl rfl ?_
  refine Y_assign ?_
  refine XD_end ?_
  refine K_then ?_
  refine Y_pk [4, 0, 2] ?_
  refine C_block ?_
  refine Y_pk [4, 0, 2] ?_
  refine C_loopO (Hin := Jb) (.succ .zero) (by repeat first | exact Rem.here _ | exact Rem.two | apply Rem.skip | apply Rem.over) (fun (k : Nat) M9 h1 z => z = [(4, .int .i64 (k : Int))] ∧ kn ≤ k ∧ k ≤ 160 ∧ J ((List.range' kn (k - kn)).map fun j => (j, si + powP j)) M9 h1) (fun k => 160 - k) (kn) (⟨rfl, by omega, by omega, by rw [Nat.sub_self]; exact hJ⟩) ?_
  rintro k M1 h1 z hm1 ⟨rfl, hk1, hk, hJ1⟩
  iterate 2 refine C_seq ?_
  refine C_region (l := [0, 1]) rfl ?_
  refine Y_move ?_
  refine Y_cmp ?_
  refine XD_end ?_
  refine K_then ?_
  refine C_cond rfl (fun hc1 => ?_) (fun hc1 => ?_)
  ·replace hc1 := dT hc1
   refine C_skip ?_
   refine K_then ?_
   refine C_seq ?_
   refine C_block ?_
   refine C_seq ?_
   refine C_region (l := [0, 1, 2, 3, 4, 5, 6, 7]) rfl ?_
   refine Y_move ?_
   refine X_fs rfl rfl F.ok44 rfl (Power_ok_in _ k (by omega)) rfl ?_
   rintro _ rfl
   refine Y_move ?_
   iterate 2 refine Y_extract ?_
   refine Y_alloc F.zero23 ?_; intro b2
   refine Y_store F.lay23 ?_
   refine Y_assign ?_
   refine XD_end ?_
   refine K_then ?_
   refine Y_pk [5, 16, 15, 12, 14, 13, 9, 8, 4, 0, 2] ?_
   refine C_seq ?_
   refine C_regionR (l := [0, 1, 2, 3, 4, 5, 6, 7, 8]) (Hin := h1) (by repeat first | exact Rem.here _ | exact Rem.two | apply Rem.skip | apply Rem.over) rfl ?_
   iterate 2 refine Y_move ?_
   refine Y_fieldAddr F.foff28_0 ?_
   refine Y_fieldAddr F.foff25_1 ?_
   refine X_load_mem rfl rfl rfl (by exact Mem.get_of (by assumption) (by repeat first | assumption | refine Mem.le.trans (by assumption) ?_)) F.lay23 rfl rfl rfl ?_
   refine Y_load F.lay23 ?_
   refine X_fs rfl rfl F.ok46 rfl (Plus_ok _ _ _) rfl ?_
   rintro _ rfl
   refine X_yield (x := (k, si + powP k)) (pre := ((List.range' kn (k - kn)).map fun j => (j, si + powP j))) (post := startsL si (k + 1)) (Hb := h1) rfl rfl rfl rfl rfl hR (startsL_at (by omega) (by omega)) (hm0.trans hm1) hJ1 (by repeat first | exact Rem.here _ | exact Rem.two | apply Rem.skip | apply Rem.over) rfl (fun _ _ _ hm hw => (hw.lower hm).c) rfl ?_ ?_
   ·intro M2 Jb2 hm2 hJ2
    refine Y_not ?_
    refine XD_end ?_
    refine K_then ?_
    refine C_false rfl ?_
    refine C_skip ?_
    refine K_out ?_
    refine K_then ?_
    refine C_region (l := [0, 1, 2]) rfl ?_
    refine Y_move ?_
    refine X_ari rfl rfl rfl rfl rfl (by exact wrap_in (by decide) (by omega)) rfl ?_
    refine Y_assign ?_
    refine XD_end ?_
    refine K_roundO (a' := [(4, _)]) (k + 1) (Jb2) (.cons (k := 4) rfl (.cons (k := 0) rfl (.cons (k := 2) rfl (.nil)))) (hm1.trans hm2) (fun w hw => by first | exact hw | exact hw.c) ?_ ?_
    ·exact ⟨rfl, by omega, by omega, by rw [startsL_pre (by omega)]; exact hJ2⟩
    ·omega
   ·intro M2 Jb2 hm2 hJ2
    refine Y_not ?_
    refine XD_end ?_
    refine K_then ?_
    refine C_true rfl ?_
    refine C_ret ?_
    refine K_retB ?_
    iterate 2 refine K_ret ?_
    refine K_retB ?_
    refine K_end (.inr rfl) (.nil) (fun w hw => ?_)
    exact ⟨_, M2, Jb2, rfl, hm1.trans hm2, hw.c, .inr ⟨((List.range' kn (k - kn)).map fun j => (j, si + powP j)) ++ [(k, si + powP k)], startsL si (k + 1), by rw [startsL_at (j := k) (by omega) (by omega)]; simp, hJ2⟩⟩
  ·replace hc1 := dF hc1
   refine C_exit ?_
   iterate 2 refine K_exit ?_
   refine K_hit ?_
   refine K_end (.inl rfl) (.nil) (fun w hw => ?_)
   obtain rfl : k = 160 := by omega
   exact ⟨_, M1, h1, rfl, hm1, hw.c, .inl hJ1⟩

theorem Point_ok (M : Mem) (t : TableV) (k : Int) (p : PeerV) (ht0 : TableV.ok M t) : Esp.Fn Try.prog 21 [t.enc, .int .i64 k, p.enc] M (fun M' v => TabPE M' v (pointT t.tb k p)) := by
  obtain ⟨⟨t_self_addr, t_self_id⟩, ⟨t_pred_addr, t_pred_id⟩, ⟨t_succ_a, t_succ_c, t_succ_l⟩, ⟨t_fingers_a, t_fingers_c, t_fingers_l⟩⟩ := t
  obtain ⟨p_addr, p_id⟩ := p
  have k_t_succ : SlK M PeerV.segs 21 ⟨t_succ_a, t_succ_c, t_succ_l⟩ := ht0.h0
  have s_t_succ : SlM M t_succ_a (t_succ_l.map PeerV.segs) 21 := k_t_succ.h1
  have n_t_succ : (t_succ_l.map PeerV.segs).length = t_succ_l.length := List.length_map ..
  have m_t_succ : t_succ_l.length ≤ 9223372036854775807 := k_t_succ.h2
  have c_t_succ : t_succ_l.length ≤ t_succ_c := k_t_succ.h3
  have k_t_fingers : SlK M PeerV.segs 21 ⟨t_fingers_a, t_fingers_c, t_fingers_l⟩ := ht0.h1
  have s_t_fingers : SlM M t_fingers_a (t_fingers_l.map PeerV.segs) 21 := k_t_fingers.h1
  have n_t_fingers : (t_fingers_l.map PeerV.segs).length = t_fingers_l.length := List.length_map ..
  have m_t_fingers : t_fingers_l.length ≤ 9223372036854775807 := k_t_fingers.h2
  have c_t_fingers : t_fingers_l.length ≤ t_fingers_c := k_t_fingers.h3
  refine fnM_enter Try.func21 rfl Try.ntmps21 rfl ?_; intro H
  refine C_seq ?_
  refine C_region (l := [0, 1, 2, 3, 4, 5]) rfl ?_
  refine Y_box ?_; intro b1
  refine Y_box ?_; intro b2
  refine Y_box ?_; intro b3
  refine Y_alloc F.zero28 ?_; intro b4
  refine Y_alloc F.zero3 ?_; intro b5
  refine Y_alloc F.zero31 ?_; intro b6
  refine XD_end ?_
  refine K_then ?_
  refine Y_pk [8, 7, 6, 5, 4, 3] ?_
  iterate 2 refine C_seq ?_
  refine C_region (l := [0, 1, 2, 3, 4, 5, 6, 7, 8, 9, 10, 11, 12, 13, 14, 15, 16, 17, 18, 19, 20, 21, 22]) rfl ?_
  refine Y_load F.lay28 ?_
  refine X_fs rfl rfl F.ok31 rfl (IsT_ok _ ⟨⟨_, _⟩, ⟨_, _⟩, ⟨_, _, _⟩, ⟨_, _, _⟩⟩ (by assumption)) rfl ?_
  rintro _ rfl
  refine Y_not ?_
  refine Y_move ?_
  refine XD_part 15 rfl (fun hc7 => ?_) (fun hc7 => ?_)
  ·replace hc7 := nT hc7
   iterate 2 refine Y_skip ?_
   refine Y_pick ?_
   refine Y_move ?_
   iterate 2 refine Y_skip ?_
   refine Y_pick ?_
   refine Y_move ?_
   iterate 10 refine Y_skip ?_
   refine Y_pick ?_
   refine XD_end ?_
   refine K_then ?_
   refine Y_pk [34, 8, 7, 6, 5, 4, 3] ?_
   refine C_true rfl ?_
   refine C_seq ?_
   refine C_region (l := [0, 1, 2, 3]) rfl ?_
   refine X_build rfl rfl F.bld28 (.nil) rfl rfl ?_
   refine Y_store F.lay28 ?_
   refine Y_store F.lay3 ?_
   refine Y_store F.lay31 ?_
   refine XD_end ?_
   refine K_then ?_
   refine Y_pk [8, 7, 6, 5, 4, 3] ?_
   refine C_ret ?_
   refine K_ret ?_
   refine K_endM0 (.inr rfl) (.cell rfl (by repeat first | exact List.Mem.head _ | refine List.Mem.tail _ ?_ | refine List.mem_append_right _ ?_) F.lay28 rfl rfl (.cell rfl (by repeat first | exact List.Mem.head _ | refine List.Mem.tail _ ?_ | refine List.mem_append_right _ ?_) F.lay3 rfl rfl (.cell rfl (by repeat first | exact List.Mem.head _ | refine List.Mem.tail _ ?_ | refine List.mem_append_right _ ?_) F.lay31 rfl rfl .nil))) (fun w hw => ?_)
   refine ⟨_, M, rfl, Mem.le.refl M, hw.c, ?_⟩
   rw [show pointT (TableV.tb ⟨⟨t_self_addr, t_self_id⟩, ⟨t_pred_addr, t_pred_id⟩, ⟨t_succ_a, t_succ_c, t_succ_l⟩, ⟨t_fingers_a, t_fingers_c, t_fingers_l⟩⟩) k ⟨p_addr, p_id⟩ = (Tb.zero, 0, 1) from pointT_no (by rintro ⟨g1, ⟨g2, g3⟩, g4⟩; first | exact absurd g1 (by assumption) | omega | (rcases g4 with g4 | g4; exact absurd g4 (by assumption); exact absurd g4 (by assumption)))]
   exact ⟨_, rfl, tabIs_zero⟩
  ·replace hc7 := nF hc7
   refine Y_load F.lay3 ?_
   refine Y_cmp ?_
   refine Y_pick ?_
   refine Y_move ?_
   refine XD_part 19 rfl (fun hc8 => ?_) (fun hc8 => ?_)
   ·replace hc8 := dT hc8
    iterate 2 refine Y_skip ?_
    refine Y_pick ?_
    refine Y_move ?_
    iterate 10 refine Y_skip ?_
    refine Y_pick ?_
    refine XD_end ?_
    refine K_then ?_
    refine Y_pk [34, 8, 7, 6, 5, 4, 3] ?_
    refine C_true rfl ?_
    refine C_seq ?_
    refine C_region (l := [0, 1, 2, 3]) rfl ?_
    refine X_build rfl rfl F.bld28 (.nil) rfl rfl ?_
    refine Y_store F.lay28 ?_
    refine Y_store F.lay3 ?_
    refine Y_store F.lay31 ?_
    refine XD_end ?_
    refine K_then ?_
    refine Y_pk [8, 7, 6, 5, 4, 3] ?_
    refine C_ret ?_
    refine K_ret ?_
    refine K_endM0 (.inr rfl) (.cell rfl (by repeat first | exact List.Mem.head _ | refine List.Mem.tail _ ?_ | refine List.mem_append_right _ ?_) F.lay28 rfl rfl (.cell rfl (by repeat first | exact List.Mem.head _ | refine List.Mem.tail _ ?_ | refine List.mem_append_right _ ?_) F.lay3 rfl rfl (.cell rfl (by repeat first | exact List.Mem.head _ | refine List.Mem.tail _ ?_ | refine List.mem_append_right _ ?_) F.lay31 rfl rfl .nil))) (fun w hw => ?_)
    refine ⟨_, M, rfl, Mem.le.refl M, hw.c, ?_⟩
    rw [show pointT (TableV.tb ⟨⟨t_self_addr, t_self_id⟩, ⟨t_pred_addr, t_pred_id⟩, ⟨t_succ_a, t_succ_c, t_succ_l⟩, ⟨t_fingers_a, t_fingers_c, t_fingers_l⟩⟩) k ⟨p_addr, p_id⟩ = (Tb.zero, 0, 1) from pointT_no (by rintro ⟨g1, ⟨g2, g3⟩, g4⟩; first | exact absurd g1 (by assumption) | omega | (rcases g4 with g4 | g4; exact absurd g4 (by assumption); exact absurd g4 (by assumption)))]
    exact ⟨_, rfl, tabIs_zero⟩
   ·replace hc8 := dF hc8
    refine Y_load F.lay3 ?_
    refine Y_cmp ?_
    refine Y_pick ?_
    refine Y_move ?_
    refine XD_part 23 rfl (fun hc9 => ?_) (fun hc9 => ?_)
    ·replace hc9 := dT hc9
     iterate 10 refine Y_skip ?_
     refine Y_pick ?_
     refine XD_end ?_
     refine K_then ?_
     refine Y_pk [34, 8, 7, 6, 5, 4, 3] ?_
     refine C_true rfl ?_
     refine C_seq ?_
     refine C_region (l := [0, 1, 2, 3]) rfl ?_
     refine X_build rfl rfl F.bld28 (.nil) rfl rfl ?_
     refine Y_store F.lay28 ?_
     refine Y_store F.lay3 ?_
     refine Y_store F.lay31 ?_
     refine XD_end ?_
     refine K_then ?_
     refine Y_pk [8, 7, 6, 5, 4, 3] ?_
     refine C_ret ?_
     refine K_ret ?_
     refine K_endM0 (.inr rfl) (.cell rfl (by repeat first | exact List.Mem.head _ | refine List.Mem.tail _ ?_ | refine List.mem_append_right _ ?_) F.lay28 rfl rfl (.cell rfl (by repeat first | exact List.Mem.head _ | refine List.Mem.tail _ ?_ | refine List.mem_append_right _ ?_) F.lay3 rfl rfl (.cell rfl (by repeat first | exact List.Mem.head _ | refine List.Mem.tail _ ?_ | refine List.mem_append_right _ ?_) F.lay31 rfl rfl .nil))) (fun w hw => ?_)
     refine ⟨_, M, rfl, Mem.le.refl M, hw.c, ?_⟩
     rw [show pointT (TableV.tb ⟨⟨t_self_addr, t_self_id⟩, ⟨t_pred_addr, t_pred_id⟩, ⟨t_succ_a, t_succ_c, t_succ_l⟩, ⟨t_fingers_a, t_fingers_c, t_fingers_l⟩⟩) k ⟨p_addr, p_id⟩ = (Tb.zero, 0, 1) from pointT_no (by rintro ⟨g1, ⟨g2, g3⟩, g4⟩; first | exact absurd g1 (by assumption) | omega | (rcases g4 with g4 | g4; exact absurd g4 (by assumption); exact absurd g4 (by assumption)))]
     exact ⟨_, rfl, tabIs_zero⟩
    ·replace hc9 := dF hc9
     refine Y_load F.lay25 ?_
     refine Y_fieldAddr F.foff28_0 ?_
     refine Y_load F.lay25 ?_
     refine X_same (m := 20) rfl rfl rfl rfl rfl (by constructor) (by constructor) F.lay25 F.kinds25 rfl F.guard25 (by exact FitPeerV (⟨_, _⟩)) (by exact FitPeerV (⟨_, _⟩)) rfl rfl rfl ?_; intro c10 he11
     replace he11 : c10 = true ↔ ¬ (Segs.cells _ = Segs.cells _) := he11
     obtain rfl := neD he11 (PeerV.inj (x := ⟨_, _⟩) (y := ⟨_, _⟩)); clear he11
     refine Y_move ?_
     refine XD_part 28 rfl (fun hc12 => ?_) (fun hc12 => ?_)
     ·replace hc12 := nT hc12
      refine Y_load F.lay28 ?_
      refine Y_load F.lay25 ?_
      refine X_fs rfl rfl F.ok63 rfl (other_ok _ ⟨⟨_, _⟩, ⟨_, _⟩, ⟨_, _, _⟩, ⟨_, _, _⟩⟩ ⟨_, _⟩) rfl ?_
      rintro _ rfl
      refine Y_not ?_
      iterate 2 refine Y_pick ?_
      refine XD_end ?_
      refine K_then ?_
      refine Y_pk [34, 8, 7, 6, 5, 4, 3] ?_
      refine C_cond rfl (fun hc13 => ?_) (fun hc13 => ?_)
      ·replace hc13 := nT hc13
       simp only [PeerV.eta, TableV.eta, RouteV.eta] at hc13
       refine C_seq ?_
       refine C_region (l := [0, 1, 2, 3]) rfl ?_
       refine X_build rfl rfl F.bld28 (.nil) rfl rfl ?_
       refine Y_store F.lay28 ?_
       refine Y_store F.lay3 ?_
       refine Y_store F.lay31 ?_
       refine XD_end ?_
       refine K_then ?_
       refine Y_pk [8, 7, 6, 5, 4, 3] ?_
       refine C_ret ?_
       refine K_ret ?_
       refine K_endM0 (.inr rfl) (.cell rfl (by repeat first | exact List.Mem.head _ | refine List.Mem.tail _ ?_ | refine List.mem_append_right _ ?_) F.lay28 rfl rfl (.cell rfl (by repeat first | exact List.Mem.head _ | refine List.Mem.tail _ ?_ | refine List.mem_append_right _ ?_) F.lay3 rfl rfl (.cell rfl (by repeat first | exact List.Mem.head _ | refine List.Mem.tail _ ?_ | refine List.mem_append_right _ ?_) F.lay31 rfl rfl .nil))) (fun w hw => ?_)
       refine ⟨_, M, rfl, Mem.le.refl M, hw.c, ?_⟩
       rw [show pointT (TableV.tb ⟨⟨t_self_addr, t_self_id⟩, ⟨t_pred_addr, t_pred_id⟩, ⟨t_succ_a, t_succ_c, t_succ_l⟩, ⟨t_fingers_a, t_fingers_c, t_fingers_l⟩⟩) k ⟨p_addr, p_id⟩ = (Tb.zero, 0, 1) from pointT_no (by rintro ⟨g1, ⟨g2, g3⟩, g4⟩; first | exact absurd g1 (by assumption) | omega | (rcases g4 with g4 | g4; exact absurd g4 (by assumption); exact absurd g4 (by assumption)))]
       exact ⟨_, rfl, tabIs_zero⟩
      ·replace hc13 := nF hc13
       simp only [PeerV.eta, TableV.eta, RouteV.eta] at hc13
       refine C_skip ?_
       refine K_then ?_
       refine Y_pk [8, 7, 6, 5, 4, 3] ?_
       refine C_seq ?_
       refine C_region (l := [0, 1, 2]) rfl ?_
       obtain ⟨kn, rfl⟩ : ∃ kn : Nat, k = kn := ⟨k.toNat, by omega⟩
       have hf160 : t_fingers_l.length = 160 := (show IsTb (TableV.tb ⟨⟨t_self_addr, t_self_id⟩, ⟨t_pred_addr, t_pred_id⟩, ⟨t_succ_a, t_succ_c, t_succ_l⟩, ⟨t_fingers_a, t_fingers_c, t_fingers_l⟩⟩) by assumption).2.2.2.1
       refine Y_load F.lay25 ?_
       refine Y_alloc F.zero25 ?_; intro b14
       refine Y_store F.lay25 ?_
       refine XD_end ?_
       refine K_then ?_
       refine Y_pk [9, 8, 7, 6, 5, 4, 3] ?_
       iterate 2 refine C_seq ?_
       refine C_region (l := [0, 1, 2, 3]) rfl ?_
       refine Y_load F.lay25 ?_
       refine Y_fieldAddr F.foff28_0 ?_
       refine Y_load F.lay25 ?_
       refine X_same (m := 20) rfl rfl rfl rfl rfl (by constructor) (by constructor) F.lay25 F.kinds25 rfl F.guard25 (by exact FitPeerV (⟨_, _⟩)) (by exact FitPeerV (⟨_, _⟩)) rfl rfl rfl ?_; intro c15 he16
       replace he16 : c15 = true ↔ Segs.cells _ = Segs.cells _ := he16
       obtain rfl := eqD he16 (PeerV.inj (x := ⟨_, _⟩) (y := ⟨_, _⟩)); clear he16
       refine XD_end ?_
       refine K_then ?_
       refine Y_pk [40, 9, 8, 7, 6, 5, 4, 3] ?_
       refine C_cond rfl (fun hc17 => ?_) (fun hc17 => ?_)
       ·replace hc17 := dT hc17
        contradiction
       ·replace hc17 := dF hc17
        refine C_skip ?_
        refine K_then ?_
        refine Y_pk [9, 8, 7, 6, 5, 4, 3] ?_
        refine C_seq ?_
        refine C_region (l := [0, 1, 2, 3, 4]) rfl ?_
        refine Y_fieldAddr F.foff28_3 ?_
        refine Y_load F.lay26 ?_
        refine X_fhR rfl rfl F.ok67 rfl (CloneP_ok M t_fingers_a t_fingers_c t_fingers_l k_t_fingers (by omega)) (by repeat first | exact Rem.here _ | exact Rem.two | apply Rem.skip | apply Rem.over) (fun _ _ _ hm hw => (hw.lower (by exact hm)).c) (putE_some rfl) ?_
        rintro v8 M1 hs8 hm1 ⟨hM1, ho8⟩; subst M1
        obtain ⟨ad8, cp8, rfl⟩ := ho8.valL
        refine Y_fieldAddr F.foff28_3 ?_
        refine Y_store F.lay26 ?_
        refine XD_end ?_
        refine K_then ?_
        refine Y_pk [9, 8, 7, 6, 5, 4, 3] ?_
        iterate 2 refine C_seq ?_
        refine C_region (l := [0, 1, 2]) rfl ?_
        refine Y_load F.lay28 ?_
        refine Y_load F.lay3 ?_
        refine X_fn rfl rfl F.ok68 rfl (starts_ok M _ _ _ _ _ _ _ _ _ _ _) rfl ?_
        rintro _ M2 hm2 ⟨q1, q2, rfl, hq1, hq2⟩
        refine XD_end ?_
        refine K_then ?_
        refine Y_pk [48, 9, 8, 7, 6, 5, 4, 3] ?_
        refine C_block ?_
        refine Y_pk [48, 9, 8, 7, 6, 5, 4, 3] ?_
        refine C_rangeFunc (enc := (fun x : Nat × Plc => [.int .i64 (x.1 : Int), aggV [idSeg x.2]])) (xs := startsL t_self_id kn) (Hi := []) (Hu := (b4, rowO [.one (.int .i64 0), idSeg 0, .one (.int .i64 0), idSeg 0, .one (.slice none 0 0), .one (.slice none 0 0)] 28) :: (b5, rowO [.one (.int .i64 0)] 3) :: (b6, rowO [.one (.int .i64 0)] 31) :: (b1, rowO [.one (.int .i64 t_self_addr), idSeg t_self_id, .one (.int .i64 t_pred_addr), idSeg t_pred_id, .one (Sl.val ⟨t_succ_a, t_succ_c, t_succ_l⟩), .one (.slice ad8 t_fingers_l.length cp8)] 28) :: (b2, rowO [.one (.int .i64 (kn : Int))] 3) :: (b3, rowO [.one (.int .i64 p_addr), idSeg p_id] 25) :: (b14, rowO [.one (.int .i64 p_addr), idSeg p_id] 25) :: hs8) (H0 := H) (fun pre M9 Hu => ∃ hs, Hu = (b4, rowO [.one (.int .i64 0), idSeg 0, .one (.int .i64 0), idSeg 0, .one (.slice none 0 0), .one (.slice none 0 0)] 28) :: (b5, rowO [.one (.int .i64 0)] 3) :: (b6, rowO [.one (.int .i64 0)] 31) :: (b1, rowO [.one (.int .i64 t_self_addr), idSeg t_self_id, .one (.int .i64 t_pred_addr), idSeg t_pred_id, .one (Sl.val ⟨t_succ_a, t_succ_c, t_succ_l⟩), .one (.slice ad8 t_fingers_l.length cp8)] 28) :: (b2, rowO [.one (.int .i64 (kn : Int))] 3) :: (b3, rowO [.one (.int .i64 p_addr), idSeg p_id] 25) :: (b14, rowO [.one (.int .i64 p_addr), idSeg p_id] 25) :: hs ∧ OSl 25 21 (.slice ad8 t_fingers_l.length cp8) hs ((ptW t_fingers_l kn (kn + pre.length) (PeerV.mk p_addr p_id)).map PeerV.segs) ∧ pointEnd ⟨t_self_addr, t_self_id⟩ ⟨p_addr, p_id⟩ kn kn (160 - kn) = pointEnd ⟨t_self_addr, t_self_id⟩ ⟨p_addr, p_id⟩ kn (kn + pre.length) (160 - (kn + pre.length))) (fun c pre M9 Hu => c = .ret ∧ ∃ (hs : Hp) (j : Nat), Hu = (b4, rowO [.one (.int .i64 t_self_addr), idSeg t_self_id, .one (.int .i64 t_pred_addr), idSeg t_pred_id, .one (Sl.val ⟨t_succ_a, t_succ_c, t_succ_l⟩), .one (.slice ad8 t_fingers_l.length cp8)] 28) :: (b5, rowO [.one (.int .i64 (j : Int))] 3) :: (b6, rowO [.one (.int .i64 0)] 31) :: (b1, rowO [.one (.int .i64 t_self_addr), idSeg t_self_id, .one (.int .i64 t_pred_addr), idSeg t_pred_id, .one (Sl.val ⟨t_succ_a, t_succ_c, t_succ_l⟩), .one (.slice ad8 t_fingers_l.length cp8)] 28) :: (b2, rowO [.one (.int .i64 (kn : Int))] 3) :: (b3, rowO [.one (.int .i64 p_addr), idSeg p_id] 25) :: (b14, rowO [.one (.int .i64 p_addr), idSeg p_id] 25) :: hs ∧ kn < j ∧ j < 160 ∧ OSl 25 21 (.slice ad8 t_fingers_l.length cp8) hs ((ptW t_fingers_l kn (j) (PeerV.mk p_addr p_id)).map PeerV.segs) ∧ pointEnd ⟨t_self_addr, t_self_id⟩ ⟨p_addr, p_id⟩ kn kn (160 - kn) = j) rfl F.ok101 (starts_seq M2 _ _ _ _ _ _ _ _ _ _ kn (by omega) q1 q2 hq1 hq2) (fun w hw => hw.c) ⟨hs8, rfl, by rw [List.length_nil, Nat.add_zero, ptW_start]; exact ho8, rfl⟩ (fun _ => rfl) rfl ?_ ?_ ?_
        ·rintro lp rdy bsy pre ⟨x1, x2⟩ post M3 _ G hxs hm3 ⟨hs3, rfl, ho1, hI⟩
         obtain ⟨hx9, hx⟩ := startsL_split hxs
         obtain ⟨rfl, rfl⟩ := Prod.mk.inj hx
         generalize hj9 : kn + pre.length = j at *
         have hwl : (ptW t_fingers_l kn j (PeerV.mk p_addr p_id)).length = t_fingers_l.length := ptW_len (by omega) (by omega)
         have hnw : ((ptW t_fingers_l kn j (PeerV.mk p_addr p_id)).map PeerV.segs).length = (ptW t_fingers_l kn j (PeerV.mk p_addr p_id)).length := List.length_map ..
         simp only [List.cons_append, rEnv]
         refine C_seq ?_
         refine C_region (l := [0]) rfl ?_
         refine Y_assign ?_
         refine XD_end ?_
         refine K_then ?_
         refine Y_pk [10, 50, 9, 8, 7, 6, 5, 4, 3] ?_
         refine C_region (l := [0, 1]) rfl ?_
         refine Y_alloc F.zero23 ?_; intro b21
         refine Y_store F.lay23 ?_
         refine XD_end ?_
         refine K_assign1 ?_
         refine C_block ?_
         iterate 2 refine C_seq ?_
         refine C_region (l := [0, 1, 2, 3, 4, 5, 6, 7, 8, 9, 10, 11, 12]) rfl ?_
         refine Y_move ?_
         refine Y_load F.lay3 ?_
         refine Y_cmp ?_
         refine Y_move ?_
         refine XD_part 54 rfl (fun hc22 => ?_) (fun hc22 => ?_)
         ·replace hc22 := dT hc22
          refine Y_fieldAddr F.foff28_0 ?_
          refine Y_fieldAddr F.foff25_1 ?_
          iterate 2 refine Y_load F.lay23 ?_
          refine Y_fieldAddr F.foff25_1 ?_
          refine Y_load F.lay23 ?_
          refine X_fs rfl rfl F.ok45 rfl (Half_ok _ _ _ _) rfl ?_
          rintro _ rfl
          refine Y_not ?_
          refine Y_pick ?_
          refine XD_end ?_
          refine K_then ?_
          refine Y_pk [63, 10, 9, 8, 7, 6, 3] ?_
          refine C_cond rfl (fun hc23 => ?_) (fun hc23 => ?_)
          ·replace hc23 := nT hc23
           refine C_seq ?_
           refine C_region (l := [0, 1, 2, 3, 4]) rfl ?_
           refine Y_load F.lay28 ?_
           refine Y_move ?_
           refine Y_store F.lay28 ?_
           refine Y_store F.lay3 ?_
           refine Y_store F.lay31 ?_
           refine XD_end ?_
           refine K_then ?_
           refine Y_pk [10, 9, 8, 7, 6, 3] ?_
           refine C_ret ?_
           refine K_ret ?_
           refine K_retB ?_
           refine K_rndR (Hu := (b4, rowO [.one (.int .i64 t_self_addr), idSeg t_self_id, .one (.int .i64 t_pred_addr), idSeg t_pred_id, .one (Sl.val ⟨t_succ_a, t_succ_c, t_succ_l⟩), .one (.slice ad8 t_fingers_l.length cp8)] 28) :: (b5, rowO [.one (.int .i64 (j : Int))] 3) :: (b6, rowO [.one (.int .i64 0)] 31) :: (b1, rowO [.one (.int .i64 t_self_addr), idSeg t_self_id, .one (.int .i64 t_pred_addr), idSeg t_pred_id, .one (Sl.val ⟨t_succ_a, t_succ_c, t_succ_l⟩), .one (.slice ad8 t_fingers_l.length cp8)] 28) :: (b2, rowO [.one (.int .i64 (kn : Int))] 3) :: (b3, rowO [.one (.int .i64 p_addr), idSeg p_id] 25) :: (b14, rowO [.one (.int .i64 p_addr), idSeg p_id] 25) :: hs3) (Mem.le.refl _) (fun w hw => hw.c) ⟨rfl, hs3, j, rfl, by omega, by omega, ho1, ?_⟩
           exact hI.trans (pointEnd_stop (by omega) (by omega) (by unfold inArc; exact decide_eq_false (by assumption)))
          ·replace hc23 := nF hc23
           refine C_skip ?_
           refine K_then ?_
           refine Y_pk [10, 9, 8, 7, 6, 3] ?_
           refine C_region (l := [0, 1, 2, 3, 4, 5]) rfl ?_
           refine Y_fieldAddr F.foff28_3 ?_
           refine Y_load F.lay26 ?_
           refine Y_move ?_
           refine Y_load F.lay25 ?_
           refine X_indexAddr rfl rfl rfl rfl F.elem26 (by rfl) (by omega) (by exact OSl.plain (by assumption) (by (simp; omega))) rfl ?_
           obtain ⟨bF, rfl⟩ := ho1.someB (by omega)
           refine X_storeO (b := bF) (j := j) rfl rfl rfl rfl (by constructor) (flat_one rfl (flat_id flat_nil)) F.lay25 rfl rfl ho1 (by repeat first | exact Rem.here _ | exact Rem.two | apply Rem.skip | apply Rem.over) (by omega) ?_; intro hs6 ho6
           replace ho6 : OSl 25 21 (.slice (some ⟨bF, 0, none⟩) t_fingers_l.length cp8) hs6 ((ptW t_fingers_l kn (j + 1) (PeerV.mk p_addr p_id)).map PeerV.segs) := by rw [← ptW_set (by omega) (by omega), List.map_set]; exact ho6.as (by simp; omega)
           refine XD_end ?_
           refine K_out ?_
           refine K_rnd (Hu := (b4, rowO [.one (.int .i64 0), idSeg 0, .one (.int .i64 0), idSeg 0, .one (.slice none 0 0), .one (.slice none 0 0)] 28) :: (b5, rowO [.one (.int .i64 0)] 3) :: (b6, rowO [.one (.int .i64 0)] 31) :: (b1, rowO [.one (.int .i64 t_self_addr), idSeg t_self_id, .one (.int .i64 t_pred_addr), idSeg t_pred_id, .one (Sl.val ⟨t_succ_a, t_succ_c, t_succ_l⟩), .one (.slice (some ⟨bF, 0, none⟩) t_fingers_l.length cp8)] 28) :: (b2, rowO [.one (.int .i64 (kn : Int))] 3) :: (b3, rowO [.one (.int .i64 p_addr), idSeg p_id] 25) :: (b14, rowO [.one (.int .i64 p_addr), idSeg p_id] 25) :: hs6) (Mem.le.refl _) (fun w hw => hw.c) ⟨hs6, rfl, ?_, ?_⟩
           ·rw [List.length_append, List.length_singleton, ← Nat.add_assoc, hj9]; exact ho6
           ·rw [List.length_append, List.length_singleton, ← Nat.add_assoc, hj9, hI, pointEnd_go (by omega) (by rintro ⟨g1, g2⟩; unfold inArc at g2; simp_all)]
         ·replace hc22 := dF hc22
          iterate 8 refine Y_skip ?_
          refine Y_pick ?_
          refine XD_end ?_
          refine K_then ?_
          refine Y_pk [63, 10, 9, 8, 7, 6, 3] ?_
          refine C_false rfl ?_
          refine C_skip ?_
          refine K_then ?_
          refine Y_pk [10, 9, 8, 7, 6, 3] ?_
          refine C_region (l := [0, 1, 2, 3, 4, 5]) rfl ?_
          refine Y_fieldAddr F.foff28_3 ?_
          refine Y_load F.lay26 ?_
          refine Y_move ?_
          refine Y_load F.lay25 ?_
          refine X_indexAddr rfl rfl rfl rfl F.elem26 (by rfl) (by omega) (by exact OSl.plain (by assumption) (by (simp; omega))) rfl ?_
          obtain ⟨bF, rfl⟩ := ho1.someB (by omega)
          refine X_storeO (b := bF) (j := j) rfl rfl rfl rfl (by constructor) (flat_one rfl (flat_id flat_nil)) F.lay25 rfl rfl ho1 (by repeat first | exact Rem.here _ | exact Rem.two | apply Rem.skip | apply Rem.over) (by omega) ?_; intro hs6 ho6
          replace ho6 : OSl 25 21 (.slice (some ⟨bF, 0, none⟩) t_fingers_l.length cp8) hs6 ((ptW t_fingers_l kn (j + 1) (PeerV.mk p_addr p_id)).map PeerV.segs) := by rw [← ptW_set (by omega) (by omega), List.map_set]; exact ho6.as (by simp; omega)
          refine XD_end ?_
          refine K_out ?_
          refine K_rnd (Hu := (b4, rowO [.one (.int .i64 0), idSeg 0, .one (.int .i64 0), idSeg 0, .one (.slice none 0 0), .one (.slice none 0 0)] 28) :: (b5, rowO [.one (.int .i64 0)] 3) :: (b6, rowO [.one (.int .i64 0)] 31) :: (b1, rowO [.one (.int .i64 t_self_addr), idSeg t_self_id, .one (.int .i64 t_pred_addr), idSeg t_pred_id, .one (Sl.val ⟨t_succ_a, t_succ_c, t_succ_l⟩), .one (.slice (some ⟨bF, 0, none⟩) t_fingers_l.length cp8)] 28) :: (b2, rowO [.one (.int .i64 (kn : Int))] 3) :: (b3, rowO [.one (.int .i64 p_addr), idSeg p_id] 25) :: (b14, rowO [.one (.int .i64 p_addr), idSeg p_id] 25) :: hs6) (Mem.le.refl _) (fun w hw => hw.c) ⟨hs6, rfl, ?_, ?_⟩
          ·rw [List.length_append, List.length_singleton, ← Nat.add_assoc, hj9]; exact ho6
          ·rw [List.length_append, List.length_singleton, ← Nat.add_assoc, hj9, hI, pointEnd_go (by omega) (by rintro ⟨g1, g2⟩; omega)]
        ·rintro D L o M3 _ hm3 ⟨hs3, rfl, ho1, hI⟩
         rw [show kn + (startsL t_self_id kn).length = 160 by unfold startsL; simp; omega] at ho1 hI
         simp only [List.cons_append, List.nil_append]
         refine K_out ?_
         refine K_then ?_
         refine Y_pk [8, 7, 6, 3] ?_
         refine C_seq ?_
         refine C_region (l := [0, 1, 2, 3]) rfl ?_
         refine Y_load F.lay28 ?_
         refine Y_store F.lay28 ?_
         refine Y_store F.lay3 ?_
         refine Y_store F.lay31 ?_
         refine XD_end ?_
         refine K_then ?_
         refine Y_pk [8, 7, 6] ?_
         refine C_ret ?_
         refine K_endM (Ds := [D]) (Hd := [(D, .deferred (some []))]) (H := (b4, rowO [.one (.int .i64 t_self_addr), idSeg t_self_id, .one (.int .i64 t_pred_addr), idSeg t_pred_id, .one (Sl.val ⟨t_succ_a, t_succ_c, t_succ_l⟩), .one (.slice ad8 t_fingers_l.length cp8)] 28) :: (b5, rowO [.one (.int .i64 0)] 3) :: (b6, rowO [.one (.int .i64 0)] 31) :: hs3 ++ H) (.inr rfl) (.cell rfl (by repeat first | exact List.Mem.head _ | refine List.Mem.tail _ ?_ | refine List.mem_append_right _ ?_) F.lay28 rfl rfl (.cell rfl (by repeat first | exact List.Mem.head _ | refine List.Mem.tail _ ?_ | refine List.mem_append_right _ ?_) F.lay3 rfl rfl (.cell rfl (by repeat first | exact List.Mem.head _ | refine List.Mem.tail _ ?_ | refine List.mem_append_right _ ?_) F.lay31 rfl rfl .nil))) (fun w hw => hw.c) (by simp) (by simp) (fun w hw => ?_)
         obtain ⟨M9, s2, j1, j2, j3, j4, j5⟩ := OSl.freezeK (f := PeerV.segs) (H := H) ho1 (hw.c)
         refine ⟨_, M9, rfl, hm2.trans (hm3.trans j1), j2, ?_⟩
         rw [show pointT (TableV.tb ⟨⟨t_self_addr, t_self_id⟩, ⟨t_pred_addr, t_pred_id⟩, ⟨t_succ_a, t_succ_c, t_succ_l⟩, ⟨t_fingers_a, t_fingers_c, t_fingers_l⟩⟩) ((kn : Nat) : Int) ⟨p_addr, p_id⟩ = ({ (TableV.tb ⟨⟨t_self_addr, t_self_id⟩, ⟨t_pred_addr, t_pred_id⟩, ⟨t_succ_a, t_succ_c, t_succ_l⟩, ⟨t_fingers_a, t_fingers_c, t_fingers_l⟩⟩) with fingers := ptW t_fingers_l kn 160 ⟨p_addr, p_id⟩ }, 0, 0) from ?_]
         ·exact ⟨_, rfl, tabIs_mk (s1 := ⟨t_succ_a, t_succ_c, t_succ_l⟩) (s2 := s2) rfl j3 (k_t_succ.mono (hm2.trans (hm3.trans j1))) j5 (by rw [j4]; rfl)⟩
         ·exact pointT_is (j := 160) (by assumption) (by omega) (by exact .inr (by assumption)) hI (show fingerOf (TableV.tb ⟨⟨t_self_addr, t_self_id⟩, ⟨t_pred_addr, t_pred_id⟩, ⟨t_succ_a, t_succ_c, t_succ_l⟩, ⟨t_fingers_a, t_fingers_c, t_fingers_l⟩⟩) ⟨p_addr, p_id⟩ = ⟨p_addr, p_id⟩ from if_neg (by assumption)) (if_pos rfl)
        ·rintro c D L o M3 _ pre post hpp hm3 ⟨rfl, hs3, j, rfl, hj1, hj2, ho1, hI⟩
         simp only [List.cons_append, List.nil_append]
         refine C_ret ?_
         refine K_retB ?_
         refine K_ret ?_
         refine K_endM (Ds := [D]) (Hd := [(D, .deferred (some []))]) (H := (b4, rowO [.one (.int .i64 t_self_addr), idSeg t_self_id, .one (.int .i64 t_pred_addr), idSeg t_pred_id, .one (Sl.val ⟨t_succ_a, t_succ_c, t_succ_l⟩), .one (.slice ad8 t_fingers_l.length cp8)] 28) :: (b5, rowO [.one (.int .i64 (j : Int))] 3) :: (b6, rowO [.one (.int .i64 0)] 31) :: hs3 ++ H) (.inr rfl) (.cell rfl (by repeat first | exact List.Mem.head _ | refine List.Mem.tail _ ?_ | refine List.mem_append_right _ ?_) F.lay28 rfl rfl (.cell rfl (by repeat first | exact List.Mem.head _ | refine List.Mem.tail _ ?_ | refine List.mem_append_right _ ?_) F.lay3 rfl rfl (.cell rfl (by repeat first | exact List.Mem.head _ | refine List.Mem.tail _ ?_ | refine List.mem_append_right _ ?_) F.lay31 rfl rfl .nil))) (fun w hw => hw.c) (by simp) (by simp) (fun w hw => ?_)
         obtain ⟨M9, s2, j1, j2, j3, j4, j5⟩ := OSl.freezeK (f := PeerV.segs) (H := H) ho1 (hw.c)
         refine ⟨_, M9, rfl, hm2.trans (hm3.trans j1), j2, ?_⟩
         rw [show pointT (TableV.tb ⟨⟨t_self_addr, t_self_id⟩, ⟨t_pred_addr, t_pred_id⟩, ⟨t_succ_a, t_succ_c, t_succ_l⟩, ⟨t_fingers_a, t_fingers_c, t_fingers_l⟩⟩) ((kn : Nat) : Int) ⟨p_addr, p_id⟩ = ({ (TableV.tb ⟨⟨t_self_addr, t_self_id⟩, ⟨t_pred_addr, t_pred_id⟩, ⟨t_succ_a, t_succ_c, t_succ_l⟩, ⟨t_fingers_a, t_fingers_c, t_fingers_l⟩⟩) with fingers := ptW t_fingers_l kn j ⟨p_addr, p_id⟩ }, (j : Int), 0) from ?_]
         ·exact ⟨_, rfl, tabIs_mk (s1 := ⟨t_succ_a, t_succ_c, t_succ_l⟩) (s2 := s2) rfl j3 (k_t_succ.mono (hm2.trans (hm3.trans j1))) j5 (by rw [j4]; rfl)⟩
         ·exact pointT_is (j := j) (by assumption) (by omega) (by exact .inr (by assumption)) hI (show fingerOf (TableV.tb ⟨⟨t_self_addr, t_self_id⟩, ⟨t_pred_addr, t_pred_id⟩, ⟨t_succ_a, t_succ_c, t_succ_l⟩, ⟨t_fingers_a, t_fingers_c, t_fingers_l⟩⟩) ⟨p_addr, p_id⟩ = ⟨p_addr, p_id⟩ from if_neg (by assumption)) (if_neg (by omega))
     ·replace hc12 := nF hc12
      iterate 4 refine Y_skip ?_
      iterate 2 refine Y_pick ?_
      refine XD_end ?_
      refine K_then ?_
      refine Y_pk [34, 8, 7, 6, 5, 4, 3] ?_
      refine C_false rfl ?_
      refine C_skip ?_
      refine K_then ?_
      refine Y_pk [8, 7, 6, 5, 4, 3] ?_
      refine C_seq ?_
      refine C_region (l := [0, 1, 2]) rfl ?_
      obtain ⟨kn, rfl⟩ : ∃ kn : Nat, k = kn := ⟨k.toNat, by omega⟩
      have hf160 : t_fingers_l.length = 160 := (show IsTb (TableV.tb ⟨⟨t_self_addr, t_self_id⟩, ⟨t_pred_addr, t_pred_id⟩, ⟨t_succ_a, t_succ_c, t_succ_l⟩, ⟨t_fingers_a, t_fingers_c, t_fingers_l⟩⟩) by assumption).2.2.2.1
      refine Y_load F.lay25 ?_
      refine Y_alloc F.zero25 ?_; intro b24
      refine Y_store F.lay25 ?_
      refine XD_end ?_
      refine K_then ?_
      refine Y_pk [9, 8, 7, 6, 5, 4, 3] ?_
      iterate 2 refine C_seq ?_
      refine C_region (l := [0, 1, 2, 3]) rfl ?_
      refine Y_load F.lay25 ?_
      refine Y_fieldAddr F.foff28_0 ?_
      refine Y_load F.lay25 ?_
      refine X_same (m := 20) rfl rfl rfl rfl rfl (by constructor) (by constructor) F.lay25 F.kinds25 rfl F.guard25 (by exact FitPeerV (⟨_, _⟩)) (by exact FitPeerV (⟨_, _⟩)) rfl rfl rfl ?_; intro c25 he26
      replace he26 : c25 = true ↔ Segs.cells _ = Segs.cells _ := he26
      obtain rfl := eqD he26 (PeerV.inj (x := ⟨_, _⟩) (y := ⟨_, _⟩)); clear he26
      refine XD_end ?_
      refine K_then ?_
      refine Y_pk [40, 9, 8, 7, 6, 5, 4, 3] ?_
      refine C_cond rfl (fun hc27 => ?_) (fun hc27 => ?_)
      ·replace hc27 := dT hc27
       refine C_region (l := [0, 1]) rfl ?_
       refine X_fs rfl rfl F.ok61 rfl (None_ok _) rfl ?_
       rintro _ rfl
       refine XD_is 41 rfl (show _ = aggV [.one (.int .i64 (-1)), idSeg 0] from rfl) ?_
       refine Y_store F.lay25 ?_
       refine XD_end ?_
       refine K_then ?_
       refine Y_pk [9, 8, 7, 6, 5, 4, 3] ?_
       refine C_seq ?_
       refine C_region (l := [0, 1, 2, 3, 4]) rfl ?_
       refine Y_fieldAddr F.foff28_3 ?_
       refine Y_load F.lay26 ?_
       refine X_fhR rfl rfl F.ok67 rfl (CloneP_ok M t_fingers_a t_fingers_c t_fingers_l k_t_fingers (by omega)) (by repeat first | exact Rem.here _ | exact Rem.two | apply Rem.skip | apply Rem.over) (fun _ _ _ hm hw => (hw.lower (by exact hm)).c) (putE_some rfl) ?_
       rintro v8 M1 hs8 hm1 ⟨hM1, ho8⟩; subst M1
       obtain ⟨ad8, cp8, rfl⟩ := ho8.valL
       refine Y_fieldAddr F.foff28_3 ?_
       refine Y_store F.lay26 ?_
       refine XD_end ?_
       refine K_then ?_
       refine Y_pk [9, 8, 7, 6, 5, 4, 3] ?_
       iterate 2 refine C_seq ?_
       refine C_region (l := [0, 1, 2]) rfl ?_
       refine Y_load F.lay28 ?_
       refine Y_load F.lay3 ?_
       refine X_fn rfl rfl F.ok68 rfl (starts_ok M _ _ _ _ _ _ _ _ _ _ _) rfl ?_
       rintro _ M2 hm2 ⟨q1, q2, rfl, hq1, hq2⟩
       refine XD_end ?_
       refine K_then ?_
       refine Y_pk [48, 9, 8, 7, 6, 5, 4, 3] ?_
       refine C_block ?_
       refine Y_pk [48, 9, 8, 7, 6, 5, 4, 3] ?_
       refine C_rangeFunc (enc := (fun x : Nat × Plc => [.int .i64 (x.1 : Int), aggV [idSeg x.2]])) (xs := startsL t_self_id kn) (Hi := []) (Hu := (b4, rowO [.one (.int .i64 0), idSeg 0, .one (.int .i64 0), idSeg 0, .one (.slice none 0 0), .one (.slice none 0 0)] 28) :: (b5, rowO [.one (.int .i64 0)] 3) :: (b6, rowO [.one (.int .i64 0)] 31) :: (b1, rowO [.one (.int .i64 t_self_addr), idSeg t_self_id, .one (.int .i64 t_pred_addr), idSeg t_pred_id, .one (Sl.val ⟨t_succ_a, t_succ_c, t_succ_l⟩), .one (.slice ad8 t_fingers_l.length cp8)] 28) :: (b2, rowO [.one (.int .i64 (kn : Int))] 3) :: (b3, rowO [.one (.int .i64 p_addr), idSeg p_id] 25) :: (b24, rowO [.one (.int .i64 (-1)), idSeg 0] 25) :: hs8) (H0 := H) (fun pre M9 Hu => ∃ hs, Hu = (b4, rowO [.one (.int .i64 0), idSeg 0, .one (.int .i64 0), idSeg 0, .one (.slice none 0 0), .one (.slice none 0 0)] 28) :: (b5, rowO [.one (.int .i64 0)] 3) :: (b6, rowO [.one (.int .i64 0)] 31) :: (b1, rowO [.one (.int .i64 t_self_addr), idSeg t_self_id, .one (.int .i64 t_pred_addr), idSeg t_pred_id, .one (Sl.val ⟨t_succ_a, t_succ_c, t_succ_l⟩), .one (.slice ad8 t_fingers_l.length cp8)] 28) :: (b2, rowO [.one (.int .i64 (kn : Int))] 3) :: (b3, rowO [.one (.int .i64 p_addr), idSeg p_id] 25) :: (b24, rowO [.one (.int .i64 (-1)), idSeg 0] 25) :: hs ∧ OSl 25 21 (.slice ad8 t_fingers_l.length cp8) hs ((ptW t_fingers_l kn (kn + pre.length) noneP).map PeerV.segs) ∧ pointEnd ⟨t_self_addr, t_self_id⟩ ⟨p_addr, p_id⟩ kn kn (160 - kn) = pointEnd ⟨t_self_addr, t_self_id⟩ ⟨p_addr, p_id⟩ kn (kn + pre.length) (160 - (kn + pre.length))) (fun c pre M9 Hu => c = .ret ∧ ∃ (hs : Hp) (j : Nat), Hu = (b4, rowO [.one (.int .i64 t_self_addr), idSeg t_self_id, .one (.int .i64 t_pred_addr), idSeg t_pred_id, .one (Sl.val ⟨t_succ_a, t_succ_c, t_succ_l⟩), .one (.slice ad8 t_fingers_l.length cp8)] 28) :: (b5, rowO [.one (.int .i64 (j : Int))] 3) :: (b6, rowO [.one (.int .i64 0)] 31) :: (b1, rowO [.one (.int .i64 t_self_addr), idSeg t_self_id, .one (.int .i64 t_pred_addr), idSeg t_pred_id, .one (Sl.val ⟨t_succ_a, t_succ_c, t_succ_l⟩), .one (.slice ad8 t_fingers_l.length cp8)] 28) :: (b2, rowO [.one (.int .i64 (kn : Int))] 3) :: (b3, rowO [.one (.int .i64 p_addr), idSeg p_id] 25) :: (b24, rowO [.one (.int .i64 (-1)), idSeg 0] 25) :: hs ∧ kn < j ∧ j < 160 ∧ OSl 25 21 (.slice ad8 t_fingers_l.length cp8) hs ((ptW t_fingers_l kn (j) noneP).map PeerV.segs) ∧ pointEnd ⟨t_self_addr, t_self_id⟩ ⟨p_addr, p_id⟩ kn kn (160 - kn) = j) rfl F.ok101 (starts_seq M2 _ _ _ _ _ _ _ _ _ _ kn (by omega) q1 q2 hq1 hq2) (fun w hw => hw.c) ⟨hs8, rfl, by rw [List.length_nil, Nat.add_zero, ptW_start]; exact ho8, rfl⟩ (fun _ => rfl) rfl ?_ ?_ ?_
       ·rintro lp rdy bsy pre ⟨x1, x2⟩ post M3 _ G hxs hm3 ⟨hs3, rfl, ho1, hI⟩
        obtain ⟨hx9, hx⟩ := startsL_split hxs
        obtain ⟨rfl, rfl⟩ := Prod.mk.inj hx
        generalize hj9 : kn + pre.length = j at *
        have hwl : (ptW t_fingers_l kn j noneP).length = t_fingers_l.length := ptW_len (by omega) (by omega)
        have hnw : ((ptW t_fingers_l kn j noneP).map PeerV.segs).length = (ptW t_fingers_l kn j noneP).length := List.length_map ..
        simp only [List.cons_append, rEnv]
        refine C_seq ?_
        refine C_region (l := [0]) rfl ?_
        refine Y_assign ?_
        refine XD_end ?_
        refine K_then ?_
        refine Y_pk [10, 50, 9, 8, 7, 6, 5, 4, 3] ?_
        refine C_region (l := [0, 1]) rfl ?_
        refine Y_alloc F.zero23 ?_; intro b28
        refine Y_store F.lay23 ?_
        refine XD_end ?_
        refine K_assign1 ?_
        refine C_block ?_
        iterate 2 refine C_seq ?_
        refine C_region (l := [0, 1, 2, 3, 4, 5, 6, 7, 8, 9, 10, 11, 12]) rfl ?_
        refine Y_move ?_
        refine Y_load F.lay3 ?_
        refine Y_cmp ?_
        refine Y_move ?_
        refine XD_part 54 rfl (fun hc29 => ?_) (fun hc29 => ?_)
        ·replace hc29 := dT hc29
         refine Y_fieldAddr F.foff28_0 ?_
         refine Y_fieldAddr F.foff25_1 ?_
         iterate 2 refine Y_load F.lay23 ?_
         refine Y_fieldAddr F.foff25_1 ?_
         refine Y_load F.lay23 ?_
         refine X_fs rfl rfl F.ok45 rfl (Half_ok _ _ _ _) rfl ?_
         rintro _ rfl
         refine Y_not ?_
         refine Y_pick ?_
         refine XD_end ?_
         refine K_then ?_
         refine Y_pk [63, 10, 9, 8, 7, 6, 3] ?_
         refine C_cond rfl (fun hc30 => ?_) (fun hc30 => ?_)
         ·replace hc30 := nT hc30
          refine C_seq ?_
          refine C_region (l := [0, 1, 2, 3, 4]) rfl ?_
          refine Y_load F.lay28 ?_
          refine Y_move ?_
          refine Y_store F.lay28 ?_
          refine Y_store F.lay3 ?_
          refine Y_store F.lay31 ?_
          refine XD_end ?_
          refine K_then ?_
          refine Y_pk [10, 9, 8, 7, 6, 3] ?_
          refine C_ret ?_
          refine K_ret ?_
          refine K_retB ?_
          refine K_rndR (Hu := (b4, rowO [.one (.int .i64 t_self_addr), idSeg t_self_id, .one (.int .i64 t_pred_addr), idSeg t_pred_id, .one (Sl.val ⟨t_succ_a, t_succ_c, t_succ_l⟩), .one (.slice ad8 t_fingers_l.length cp8)] 28) :: (b5, rowO [.one (.int .i64 (j : Int))] 3) :: (b6, rowO [.one (.int .i64 0)] 31) :: (b1, rowO [.one (.int .i64 t_self_addr), idSeg t_self_id, .one (.int .i64 t_pred_addr), idSeg t_pred_id, .one (Sl.val ⟨t_succ_a, t_succ_c, t_succ_l⟩), .one (.slice ad8 t_fingers_l.length cp8)] 28) :: (b2, rowO [.one (.int .i64 (kn : Int))] 3) :: (b3, rowO [.one (.int .i64 p_addr), idSeg p_id] 25) :: (b24, rowO [.one (.int .i64 (-1)), idSeg 0] 25) :: hs3) (Mem.le.refl _) (fun w hw => hw.c) ⟨rfl, hs3, j, rfl, by omega, by omega, ho1, ?_⟩
          exact hI.trans (pointEnd_stop (by omega) (by omega) (by unfold inArc; exact decide_eq_false (by assumption)))
         ·replace hc30 := nF hc30
          refine C_skip ?_
          refine K_then ?_
          refine Y_pk [10, 9, 8, 7, 6, 3] ?_
          refine C_region (l := [0, 1, 2, 3, 4, 5]) rfl ?_
          refine Y_fieldAddr F.foff28_3 ?_
          refine Y_load F.lay26 ?_
          refine Y_move ?_
          refine Y_load F.lay25 ?_
          refine X_indexAddr rfl rfl rfl rfl F.elem26 (by rfl) (by omega) (by exact OSl.plain (by assumption) (by (simp; omega))) rfl ?_
          obtain ⟨bF, rfl⟩ := ho1.someB (by omega)
          refine X_storeO (b := bF) (j := j) rfl rfl rfl rfl (by constructor) (flat_one rfl (flat_id flat_nil)) F.lay25 rfl rfl ho1 (by repeat first | exact Rem.here _ | exact Rem.two | apply Rem.skip | apply Rem.over) (by omega) ?_; intro hs6 ho6
          replace ho6 : OSl 25 21 (.slice (some ⟨bF, 0, none⟩) t_fingers_l.length cp8) hs6 ((ptW t_fingers_l kn (j + 1) noneP).map PeerV.segs) := by rw [← ptW_set (by omega) (by omega), List.map_set]; exact ho6.as (by simp; omega)
          refine XD_end ?_
          refine K_out ?_
          refine K_rnd (Hu := (b4, rowO [.one (.int .i64 0), idSeg 0, .one (.int .i64 0), idSeg 0, .one (.slice none 0 0), .one (.slice none 0 0)] 28) :: (b5, rowO [.one (.int .i64 0)] 3) :: (b6, rowO [.one (.int .i64 0)] 31) :: (b1, rowO [.one (.int .i64 t_self_addr), idSeg t_self_id, .one (.int .i64 t_pred_addr), idSeg t_pred_id, .one (Sl.val ⟨t_succ_a, t_succ_c, t_succ_l⟩), .one (.slice (some ⟨bF, 0, none⟩) t_fingers_l.length cp8)] 28) :: (b2, rowO [.one (.int .i64 (kn : Int))] 3) :: (b3, rowO [.one (.int .i64 p_addr), idSeg p_id] 25) :: (b24, rowO [.one (.int .i64 (-1)), idSeg 0] 25) :: hs6) (Mem.le.refl _) (fun w hw => hw.c) ⟨hs6, rfl, ?_, ?_⟩
          ·rw [List.length_append, List.length_singleton, ← Nat.add_assoc, hj9]; exact ho6
          ·rw [List.length_append, List.length_singleton, ← Nat.add_assoc, hj9, hI, pointEnd_go (by omega) (by rintro ⟨g1, g2⟩; unfold inArc at g2; simp_all)]
        ·replace hc29 := dF hc29
         iterate 8 refine Y_skip ?_
         refine Y_pick ?_
         refine XD_end ?_
         refine K_then ?_
         refine Y_pk [63, 10, 9, 8, 7, 6, 3] ?_
         refine C_false rfl ?_
         refine C_skip ?_
         refine K_then ?_
         refine Y_pk [10, 9, 8, 7, 6, 3] ?_
         refine C_region (l := [0, 1, 2, 3, 4, 5]) rfl ?_
         refine Y_fieldAddr F.foff28_3 ?_
         refine Y_load F.lay26 ?_
         refine Y_move ?_
         refine Y_load F.lay25 ?_
         refine X_indexAddr rfl rfl rfl rfl F.elem26 (by rfl) (by omega) (by exact OSl.plain (by assumption) (by (simp; omega))) rfl ?_
         obtain ⟨bF, rfl⟩ := ho1.someB (by omega)
         refine X_storeO (b := bF) (j := j) rfl rfl rfl rfl (by constructor) (flat_one rfl (flat_id flat_nil)) F.lay25 rfl rfl ho1 (by repeat first | exact Rem.here _ | exact Rem.two | apply Rem.skip | apply Rem.over) (by omega) ?_; intro hs6 ho6
         replace ho6 : OSl 25 21 (.slice (some ⟨bF, 0, none⟩) t_fingers_l.length cp8) hs6 ((ptW t_fingers_l kn (j + 1) noneP).map PeerV.segs) := by rw [← ptW_set (by omega) (by omega), List.map_set]; exact ho6.as (by simp; omega)
         refine XD_end ?_
         refine K_out ?_
         refine K_rnd (Hu := (b4, rowO [.one (.int .i64 0), idSeg 0, .one (.int .i64 0), idSeg 0, .one (.slice none 0 0), .one (.slice none 0 0)] 28) :: (b5, rowO [.one (.int .i64 0)] 3) :: (b6, rowO [.one (.int .i64 0)] 31) :: (b1, rowO [.one (.int .i64 t_self_addr), idSeg t_self_id, .one (.int .i64 t_pred_addr), idSeg t_pred_id, .one (Sl.val ⟨t_succ_a, t_succ_c, t_succ_l⟩), .one (.slice (some ⟨bF, 0, none⟩) t_fingers_l.length cp8)] 28) :: (b2, rowO [.one (.int .i64 (kn : Int))] 3) :: (b3, rowO [.one (.int .i64 p_addr), idSeg p_id] 25) :: (b24, rowO [.one (.int .i64 (-1)), idSeg 0] 25) :: hs6) (Mem.le.refl _) (fun w hw => hw.c) ⟨hs6, rfl, ?_, ?_⟩
         ·rw [List.length_append, List.length_singleton, ← Nat.add_assoc, hj9]; exact ho6
         ·rw [List.length_append, List.length_singleton, ← Nat.add_assoc, hj9, hI, pointEnd_go (by omega) (by rintro ⟨g1, g2⟩; omega)]
       ·rintro D L o M3 _ hm3 ⟨hs3, rfl, ho1, hI⟩
        rw [show kn + (startsL t_self_id kn).length = 160 by unfold startsL; simp; omega] at ho1 hI
        simp only [List.cons_append, List.nil_append]
        refine K_out ?_
        refine K_then ?_
        refine Y_pk [8, 7, 6, 3] ?_
        refine C_seq ?_
        refine C_region (l := [0, 1, 2, 3]) rfl ?_
        refine Y_load F.lay28 ?_
        refine Y_store F.lay28 ?_
        refine Y_store F.lay3 ?_
        refine Y_store F.lay31 ?_
        refine XD_end ?_
        refine K_then ?_
        refine Y_pk [8, 7, 6] ?_
        refine C_ret ?_
        refine K_endM (Ds := [D]) (Hd := [(D, .deferred (some []))]) (H := (b4, rowO [.one (.int .i64 t_self_addr), idSeg t_self_id, .one (.int .i64 t_pred_addr), idSeg t_pred_id, .one (Sl.val ⟨t_succ_a, t_succ_c, t_succ_l⟩), .one (.slice ad8 t_fingers_l.length cp8)] 28) :: (b5, rowO [.one (.int .i64 0)] 3) :: (b6, rowO [.one (.int .i64 0)] 31) :: hs3 ++ H) (.inr rfl) (.cell rfl (by repeat first | exact List.Mem.head _ | refine List.Mem.tail _ ?_ | refine List.mem_append_right _ ?_) F.lay28 rfl rfl (.cell rfl (by repeat first | exact List.Mem.head _ | refine List.Mem.tail _ ?_ | refine List.mem_append_right _ ?_) F.lay3 rfl rfl (.cell rfl (by repeat first | exact List.Mem.head _ | refine List.Mem.tail _ ?_ | refine List.mem_append_right _ ?_) F.lay31 rfl rfl .nil))) (fun w hw => hw.c) (by simp) (by simp) (fun w hw => ?_)
        obtain ⟨M9, s2, j1, j2, j3, j4, j5⟩ := OSl.freezeK (f := PeerV.segs) (H := H) ho1 (hw.c)
        refine ⟨_, M9, rfl, hm2.trans (hm3.trans j1), j2, ?_⟩
        rw [show pointT (TableV.tb ⟨⟨t_self_addr, t_self_id⟩, ⟨t_pred_addr, t_pred_id⟩, ⟨t_succ_a, t_succ_c, t_succ_l⟩, ⟨t_fingers_a, t_fingers_c, t_fingers_l⟩⟩) ((kn : Nat) : Int) ⟨p_addr, p_id⟩ = ({ (TableV.tb ⟨⟨t_self_addr, t_self_id⟩, ⟨t_pred_addr, t_pred_id⟩, ⟨t_succ_a, t_succ_c, t_succ_l⟩, ⟨t_fingers_a, t_fingers_c, t_fingers_l⟩⟩) with fingers := ptW t_fingers_l kn 160 noneP }, 0, 0) from ?_]
        ·exact ⟨_, rfl, tabIs_mk (s1 := ⟨t_succ_a, t_succ_c, t_succ_l⟩) (s2 := s2) rfl j3 (k_t_succ.mono (hm2.trans (hm3.trans j1))) j5 (by rw [j4]; rfl)⟩
        ·exact pointT_is (j := 160) (by assumption) (by omega) (by exact .inl (by assumption)) hI (show fingerOf (TableV.tb ⟨⟨t_self_addr, t_self_id⟩, ⟨t_pred_addr, t_pred_id⟩, ⟨t_succ_a, t_succ_c, t_succ_l⟩, ⟨t_fingers_a, t_fingers_c, t_fingers_l⟩⟩) ⟨p_addr, p_id⟩ = noneP from if_pos (by assumption)) (if_pos rfl)
       ·rintro c D L o M3 _ pre post hpp hm3 ⟨rfl, hs3, j, rfl, hj1, hj2, ho1, hI⟩
        simp only [List.cons_append, List.nil_append]
        refine C_ret ?_
        refine K_retB ?_
        refine K_ret ?_
        refine K_endM (Ds := [D]) (Hd := [(D, .deferred (some []))]) (H := (b4, rowO [.one (.int .i64 t_self_addr), idSeg t_self_id, .one (.int .i64 t_pred_addr), idSeg t_pred_id, .one (Sl.val ⟨t_succ_a, t_succ_c, t_succ_l⟩), .one (.slice ad8 t_fingers_l.length cp8)] 28) :: (b5, rowO [.one (.int .i64 (j : Int))] 3) :: (b6, rowO [.one (.int .i64 0)] 31) :: hs3 ++ H) (.inr rfl) (.cell rfl (by repeat first | exact List.Mem.head _ | refine List.Mem.tail _ ?_ | refine List.mem_append_right _ ?_) F.lay28 rfl rfl (.cell rfl (by repeat first | exact List.Mem.head _ | refine List.Mem.tail _ ?_ | refine List.mem_append_right _ ?_) F.lay3 rfl rfl (.cell rfl (by repeat first | exact List.Mem.head _ | refine List.Mem.tail _ ?_ | refine List.mem_append_right _ ?_) F.lay31 rfl rfl .nil))) (fun w hw => hw.c) (by simp) (by simp) (fun w hw => ?_)
        obtain ⟨M9, s2, j1, j2, j3, j4, j5⟩ := OSl.freezeK (f := PeerV.segs) (H := H) ho1 (hw.c)
        refine ⟨_, M9, rfl, hm2.trans (hm3.trans j1), j2, ?_⟩
        rw [show pointT (TableV.tb ⟨⟨t_self_addr, t_self_id⟩, ⟨t_pred_addr, t_pred_id⟩, ⟨t_succ_a, t_succ_c, t_succ_l⟩, ⟨t_fingers_a, t_fingers_c, t_fingers_l⟩⟩) ((kn : Nat) : Int) ⟨p_addr, p_id⟩ = ({ (TableV.tb ⟨⟨t_self_addr, t_self_id⟩, ⟨t_pred_addr, t_pred_id⟩, ⟨t_succ_a, t_succ_c, t_succ_l⟩, ⟨t_fingers_a, t_fingers_c, t_fingers_l⟩⟩) with fingers := ptW t_fingers_l kn j noneP }, (j : Int), 0) from ?_]
        ·exact ⟨_, rfl, tabIs_mk (s1 := ⟨t_succ_a, t_succ_c, t_succ_l⟩) (s2 := s2) rfl j3 (k_t_succ.mono (hm2.trans (hm3.trans j1))) j5 (by rw [j4]; rfl)⟩
        ·exact pointT_is (j := j) (by assumption) (by omega) (by exact .inl (by assumption)) hI (show fingerOf (TableV.tb ⟨⟨t_self_addr, t_self_id⟩, ⟨t_pred_addr, t_pred_id⟩, ⟨t_succ_a, t_succ_c, t_succ_l⟩, ⟨t_fingers_a, t_fingers_c, t_fingers_l⟩⟩) ⟨p_addr, p_id⟩ = noneP from if_pos (by assumption)) (if_neg (by omega))
      ·replace hc27 := dF hc27
       contradiction

end Go.Proofs.Ytbjklbmmchiahaa
