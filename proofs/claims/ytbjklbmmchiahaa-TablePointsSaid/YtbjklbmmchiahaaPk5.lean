/-
  Texts of this claim, one behind the other: T27, Rules8, T28.
-/
import Derived.Test.YtbjklbmmchiahaaPk4
import Derived.Scope
/-
  The fifth law.
-/
set_option linter.unusedSimpArgs false
set_option linter.unusedVariables false
set_option linter.unnecessarySimpa false
set_option maxRecDepth 8000
set_option maxHeartbeats 1000000
namespace Go.Proofs.Ytbjklbmmchiahaa
open Go.Esp


theorem lawNears_ok (M : Mem) (t : TableV) (id : Plc) (avoid : (Sl Int)) (ht0 : TableV.ok M t) (havoid1 : SlK M (oneI .i64) 1 avoid) : Esp.Fn Try.prog 7 [t.enc, aggV [idSeg id], Sl.val avoid] M (fun _ v => v = .bool true) := by
  obtain ⟨⟨t_self_addr, t_self_id⟩, ⟨t_pred_addr, t_pred_id⟩, ⟨t_succ_a, t_succ_c, t_succ_l⟩, ⟨t_fingers_a, t_fingers_c, t_fingers_l⟩⟩ := t
  obtain ⟨avoid_a, avoid_c, avoid_l⟩ := avoid
  have k_t_succ : SlK M PeerV.segs 21 ⟨t_succ_a, t_succ_c, t_succ_l⟩ := ht0.h0
  have s_t_succ : SlM M t_succ_a (t_succ_l.map PeerV.segs) 21 := k_t_succ.h1
  have n_t_succ : (t_succ_l.map PeerV.segs).length = t_succ_l.length := List.length_map ..
  have m_t_succ : t_succ_l.length ≤ 9223372036854775807 := k_t_succ.h2
  have c_t_succ : t_succ_l.length ≤ t_succ_c := k_t_succ.h3
  have k_t_fingers : SlK M PeerV.segs 21 ⟨t_fingers_a, t_fingers_c, t_fingers_l⟩ := ht0.h1
  have s_t_fingers : SlM M t_fingers_a (t_fingers_l.map PeerV.segs) 21 := k_t_fingers.h1
  have n_t_fingers : (t_fingers_l.map PeerV.segs).length = t_fingers_l.length := List.length_map ..
  have m_t_fingers : t_fingers_l.length ≤ 9223372036854775807 := k_t_fingers.h2
  have c_t_fingers : t_fingers_l.length ≤ t_fingers_c := k_t_fingers.h3
  have k_avoid : SlK M (oneI .i64) 1 ⟨avoid_a, avoid_c, avoid_l⟩ := havoid1
  have s_avoid : SlM M avoid_a (avoid_l.map (oneI .i64)) 1 := k_avoid.h1
  have n_avoid : (avoid_l.map (oneI .i64)).length = avoid_l.length := List.length_map ..
  have m_avoid : avoid_l.length ≤ 9223372036854775807 := k_avoid.h2
  have c_avoid : avoid_l.length ≤ avoid_c := k_avoid.h3
  refine fn_enter Try.func7 rfl Try.ntmps7 rfl ?_; intro H
  refine C_seq ?_
  refine C_region (l := [0, 1, 2]) rfl ?_
  refine Y_box ?_; intro b1
  refine Y_box ?_; intro b2
  refine Y_assign ?_
  refine XD_end ?_
  refine K_then ?_
  refine Y_pk [6, 4, 3, 2] ?_
  iterate 2 refine C_seq ?_
  refine C_region (l := [0, 1, 2, 3, 4, 5, 6]) rfl ?_
  refine Y_load F.lay28 ?_
  refine X_fs rfl rfl F.ok15 rfl (BigT_ok _ ⟨⟨_, _⟩, ⟨_, _⟩, ⟨_, _, _⟩, ⟨_, _, _⟩⟩ (by assumption)) rfl ?_
  rintro _ rfl
  refine Y_move ?_
  refine XD_part 17 rfl (fun hc3 => ?_) (fun hc3 => ?_)
  ·replace hc3 := dT hc3
   simp only [PeerV.eta, TableV.eta, RouteV.eta] at hc3
   iterate 3 refine Y_skip ?_
   refine Y_pick ?_
   refine XD_end ?_
   refine K_then ?_
   refine Y_pk [21, 6, 4, 3, 2] ?_
   refine C_true rfl ?_
   refine C_seq ?_
   refine C_region (l := [0]) rfl ?_
   refine Y_assign ?_
   refine XD_end ?_
   refine K_then ?_
   refine Y_pk [6, 4, 3, 2] ?_
   refine C_ret ?_
   refine K_ret ?_
   refine K_end (.inr rfl) (.tmp rfl .nil) (fun w hw => ?_)
   refine ⟨_, _, rfl, (by exact Mem.le.refl _), hw.c, ?_⟩
   clear hw
   rfl
  ·replace hc3 := dF hc3
   simp only [PeerV.eta, TableV.eta, RouteV.eta] at hc3
   refine Y_move ?_
   refine Y_len_sl F.elem41 ?_
   refine Y_cmp ?_
   refine Y_pick ?_
   refine XD_end ?_
   refine K_then ?_
   refine Y_pk [21, 6, 4, 3, 2] ?_
   refine C_cond rfl (fun hc4 => ?_) (fun hc4 => ?_)
   ·replace hc4 := dT hc4
    refine C_seq ?_
    refine C_region (l := [0]) rfl ?_
    refine Y_assign ?_
    refine XD_end ?_
    refine K_then ?_
    refine Y_pk [6, 4, 3, 2] ?_
    refine C_ret ?_
    refine K_ret ?_
    refine K_end (.inr rfl) (.tmp rfl .nil) (fun w hw => ?_)
    refine ⟨_, _, rfl, (by exact Mem.le.refl _), hw.c, ?_⟩
    clear hw
    rfl
   ·replace hc4 := dF hc4
    refine C_skip ?_
    refine K_then ?_
    refine Y_pk [6, 4, 3, 2] ?_
    refine C_seq ?_
    refine C_region (l := [0, 1, 2, 3, 4, 5, 6, 7, 8, 9]) rfl ?_
    have hbig : t_succ_l.length ≤ 40 ∧ t_fingers_l.length ≤ 200 := by omega
    have okT : TableV.ok M ⟨⟨t_self_addr, t_self_id⟩, ⟨t_pred_addr, t_pred_id⟩, ⟨t_succ_a, t_succ_c, t_succ_l⟩, ⟨t_fingers_a, t_fingers_c, t_fingers_l⟩⟩ := ht0
    refine Y_load F.lay28 ?_
    refine Y_load F.lay23 ?_
    refine Y_move ?_
    refine X_fn rfl rfl F.ok27 rfl (Nearest_ok _ ⟨⟨t_self_addr, t_self_id⟩, ⟨t_pred_addr, t_pred_id⟩, ⟨t_succ_a, t_succ_c, t_succ_l⟩, ⟨t_fingers_a, t_fingers_c, t_fingers_l⟩⟩ id ⟨avoid_a, avoid_c, avoid_l⟩ okT k_avoid hbig) rfl ?_
    rintro _ M1 hm1 hv
    obtain ⟨⟨⟨na, ni⟩, nb⟩, hnn⟩ : ∃ r, nearestT (TableV.tb ⟨⟨t_self_addr, t_self_id⟩, ⟨t_pred_addr, t_pred_id⟩, ⟨t_succ_a, t_succ_c, t_succ_l⟩, ⟨t_fingers_a, t_fingers_c, t_fingers_l⟩⟩) id avoid_l = r := ⟨_, rfl⟩
    rw [hnn] at hv
    subst hv
    have hNO := near_ok (t := (TableV.tb ⟨⟨t_self_addr, t_self_id⟩, ⟨t_pred_addr, t_pred_id⟩, ⟨t_succ_a, t_succ_c, t_succ_l⟩, ⟨t_fingers_a, t_fingers_c, t_fingers_l⟩⟩)) (id := id) (avoid := avoid_l)
    rw [hnn] at hNO
    refine Y_move ?_
    iterate 2 refine Y_extract ?_
    refine Y_alloc F.zero25 ?_; intro b5
    refine Y_store F.lay25 ?_
    refine Y_assign ?_
    refine XD_end ?_
    refine K_then ?_
    refine Y_pk [8, 7, 6, 4, 3, 2] ?_
    refine C_seq ?_
    refine C_region (l := [0, 1, 2]) rfl ?_
    refine Y_load F.lay28 ?_
    refine X_fn rfl rfl F.ok38 rfl (Known_ok _ ⟨⟨t_self_addr, t_self_id⟩, ⟨t_pred_addr, t_pred_id⟩, ⟨t_succ_a, t_succ_c, t_succ_l⟩, ⟨t_fingers_a, t_fingers_c, t_fingers_l⟩⟩ (okT.mono (by assumption)) hbig) rfl ?_
    rintro _ M7 hm7 ⟨⟨k7a, k7c, k7l⟩, rfl, h7, k7⟩
    simp only at h7
    have sk7 := k7.h1
    have nk7 : (k7l.map PeerV.segs).length = k7l.length := List.length_map ..
    have mk7 : k7l.length ≤ 9223372036854775807 := k7.h2
    simp only at sk7
    rw [← h7] at hNO
    replace hNO : NearOk ⟨t_self_addr, t_self_id⟩ id avoid_l k7l (⟨na, ni⟩, nb) := hNO
    refine Y_assign ?_
    refine XD_end ?_
    refine K_then ?_
    refine Y_pk [9, 8, 7, 6, 4, 3, 2] ?_
    refine C_seq ?_
    refine C_region (l := [0]) rfl ?_
    refine Y_assign ?_
    refine XD_end ?_
    refine K_then ?_
    iterate 2 refine C_seq ?_
    refine C_region (l := [0]) rfl ?_
    refine Y_assign ?_
    refine XD_end ?_
    refine K_then ?_
    refine C_block ?_
    refine Y_pk [11, 10, 9, 8, 7, 6, 4, 3, 2] ?_
    refine C_loopS (.succ (.succ .zero)) (fun (k : Nat) z => ∃ (bt : Bool), z = [(11, .int .i64 (k : Int)), (10, .bool bt)] ∧ k ≤ k7l.length ∧ ((bt = true ↔ ∃ x ∈ k7l.take k, CandP ⟨t_self_addr, t_self_id⟩ id avoid_l x ∧ x = ⟨na, ni⟩))) (fun k => k7l.length - k) (0) (⟨false, rfl, by omega, by simp⟩) ?_
    rintro k _ ⟨bt, rfl, hk, hI⟩
    have s_avoid2 := s_avoid.mono (hm1.trans hm7)
    iterate 2 refine C_seq ?_
    refine C_region (l := [0, 1, 2, 3]) rfl ?_
    iterate 2 refine Y_move ?_
    refine Y_len_sl F.elem26 ?_
    refine Y_cmp ?_
    refine XD_end ?_
    refine K_then ?_
    refine C_cond rfl (fun hc6 => ?_) (fun hc6 => ?_)
    ·replace hc6 := dT hc6
     refine C_skip ?_
     refine K_then ?_
     refine C_seq ?_
     refine C_block ?_
     refine C_seq ?_
     refine C_region (l := [0]) rfl ?_
     refine Y_assign ?_
     refine XD_end ?_
     refine K_then ?_
     iterate 2 refine C_seq ?_
     refine C_region (l := [0]) rfl ?_
     refine Y_assign ?_
     refine XD_end ?_
     refine K_then ?_
     refine C_block ?_
     refine Y_pk [13, 12, 34, 33, 32, 31, 11, 10, 9, 8, 7, 6, 4, 3, 2] ?_
     refine C_loopS (.succ (.succ .zero)) (fun (k2 : Nat) z => ∃ bs : Bool, z = [(13, .int .i64 (k2 : Int)), (12, .bool bs)] ∧ k2 ≤ avoid_l.length ∧ (bs = true ↔ k7l[k].addr ∈ avoid_l.take k2)) (fun k2 => avoid_l.length - k2) (0) (⟨false, rfl, by omega, by simp⟩) ?_
     rintro k2 _ ⟨bs, rfl, hk2, hJ⟩
     iterate 2 refine C_seq ?_
     refine C_region (l := [0, 1, 2, 3]) rfl ?_
     iterate 2 refine Y_move ?_
     refine Y_len_sl F.elem41 ?_
     refine Y_cmp ?_
     refine XD_end ?_
     refine K_then ?_
     refine C_cond rfl (fun hc7 => ?_) (fun hc7 => ?_)
     ·replace hc7 := dT hc7
      refine C_skip ?_
      refine K_then ?_
      refine C_seq ?_
      refine C_block ?_
      refine C_region_any (l := [0, 1, 2, 3, 4, 5, 6, 7, 8, 9, 10, 11, 12, 13]) #[0, 1, 3, 3, 15, 31, 3, 3, 195, 451, 963, 2047, 4095, 8191] _ rfl (by kernel_rfl) (by kernel_rfl) St.drawn (fun _ h => h) ?_
      iterate 2 refine Y_move ?_
      refine XD_part 44 rfl (fun hc8 => ?_) (fun hc8 => ?_)
      ·skip
       iterate 10 refine Y_skip ?_
       refine Y_pick ?_
       refine Y_assign ?_
       refine XD_end ?_
       refine K_out ?_
       refine K_then ?_
       refine C_region (l := [0, 1, 2]) rfl ?_
       refine Y_move ?_
       refine X_ari rfl rfl rfl rfl rfl (by exact wrap_in (by decide) (by omega)) rfl ?_
       refine Y_assign ?_
       refine XD_end ?_
       refine K_roundS (a' := [(13, _), (12, _)]) (k2 + 1) (.cons (k := 13) rfl (.cons (k := 12) rfl (.cons (k := 34) rfl (.cons (k := 33) rfl (.cons (k := 32) rfl (.cons (k := 31) rfl (.cons (k := 11) rfl (.cons (k := 10) rfl (.cons (k := 9) rfl (.cons (k := 8) rfl (.cons (k := 7) rfl (.cons (k := 6) rfl (.cons (k := 4) rfl (.cons (k := 3) rfl (.cons (k := 2) rfl (.nil)))))))))))))))) (fun w hw => by first | exact hw | exact hw.c) ?_ ?_
       ·refine ⟨_, rfl, by omega, ?_⟩
        rw [mem_take_step (by omega : k2 < avoid_l.length)]
        (simp_all; done)
       ·omega
      ·skip
       iterate 2 refine Y_move ?_
       refine X_indexAddr rfl rfl rfl rfl F.elem41 (by rfl) (by omega) (by exact SlM.plain (by assumption) (by (simp; omega))) rfl ?_
       refine X_load_el rfl rfl rfl (by assumption) (by exact row_map (by omega)) F.lay3 rfl rfl rfl ?_
       iterate 2 refine Y_move ?_
       refine X_indexAddr rfl rfl rfl rfl F.elem26 (by rfl) (by omega) (by exact SlM.plain (by assumption) (by (simp; omega))) rfl ?_
       refine X_fieldAddr_el rfl rfl rfl (by exact SlM.plain (by assumption) (by (simp; omega))) F.foff25_0 rfl ?_
       refine X_load_el rfl rfl rfl (by assumption) (by exact row_map (by omega)) F.lay3 rfl rfl rfl ?_
       refine Y_cmp ?_
       refine Y_pick ?_
       refine Y_assign ?_
       refine XD_end ?_
       refine K_out ?_
       refine K_then ?_
       refine C_region (l := [0, 1, 2]) rfl ?_
       refine Y_move ?_
       refine X_ari rfl rfl rfl rfl rfl (by exact wrap_in (by decide) (by omega)) rfl ?_
       refine Y_assign ?_
       refine XD_end ?_
       refine K_roundS (a' := [(13, _), (12, _)]) (k2 + 1) (.cons (k := 13) rfl (.cons (k := 12) rfl (.cons (k := 34) rfl (.cons (k := 33) rfl (.cons (k := 32) rfl (.cons (k := 31) rfl (.cons (k := 11) rfl (.cons (k := 10) rfl (.cons (k := 9) rfl (.cons (k := 8) rfl (.cons (k := 7) rfl (.cons (k := 6) rfl (.cons (k := 4) rfl (.cons (k := 3) rfl (.cons (k := 2) rfl (.nil)))))))))))))))) (fun w hw => by first | exact hw | exact hw.c) ?_ ?_
       ·refine ⟨_, rfl, by omega, ?_⟩
        rw [mem_take_step (by omega : k2 < avoid_l.length)]
        (simp_all; done)
       ·omega
     ·replace hc7 := dF hc7
      refine C_exit ?_
      iterate 2 refine K_exit ?_
      refine K_hit ?_
      refine K_then ?_
      refine C_seq ?_
      obtain rfl : k2 = avoid_l.length := by omega
      rw [List.take_length] at hJ
      refine C_region_any (l := [0, 1, 2, 3, 4, 5, 6, 7, 8, 9, 10, 11, 12, 13, 14]) #[0, 1, 3, 0, 0, 24, 56, 120, 0, 511, 1023, 2047, 4095, 8191, 16383] _ rfl (by kernel_rfl) (by kernel_rfl) St.drawn (fun _ h => h) ?_
      refine Y_fieldAddr F.foff28_0 ?_
      refine Y_fieldAddr F.foff25_1 ?_
      refine Y_load F.lay23 ?_
      iterate 2 refine Y_move ?_
      refine X_indexAddr rfl rfl rfl rfl F.elem26 (by rfl) (by omega) (by exact SlM.plain (by assumption) (by (simp; omega))) rfl ?_
      refine X_fieldAddr_el rfl rfl rfl (by exact SlM.plain (by assumption) (by (simp; omega))) F.foff25_1 rfl ?_
      refine X_load_el rfl rfl rfl (by assumption) (by exact row_map (by omega)) F.lay23 rfl rfl rfl ?_
      refine Y_load F.lay23 ?_
      refine X_fs rfl rfl F.ok42 rfl (Open_ok _ _ _ _) rfl ?_
      rintro _ rfl
      refine Y_move ?_
      refine XD_part 66 rfl (fun hc9 => ?_) (fun hc9 => ?_)
      ·replace hc9 := dT hc9
       refine Y_move ?_
       refine Y_not ?_
       refine Y_pick ?_
       refine Y_assign ?_
       refine XD_end ?_
       refine K_then ?_
       iterate 2 refine C_seq ?_
       refine C_region_any (l := [0, 1, 2, 3, 4, 5, 6, 7, 8, 9, 10, 11, 12, 13, 14, 15, 16, 17, 18, 19, 20, 21]) #[0, 1, 3, 7, 15, 31, 63, 31, 31, 415, 927, 1951, 31, 8191, 16383, 32767, 65535, 32767, 262143, 524287, 1048575, 2097151] _ rfl (by kernel_rfl) (by kernel_rfl) St.drawn (fun _ h => h) ?_
       iterate 2 refine Y_move ?_
       refine XD_part 71 rfl (fun hc10 => ?_) (fun hc10 => ?_)
       ·skip
        refine Y_move ?_
        refine Y_not ?_
        refine Y_move ?_
        refine XD_part 74 rfl (fun hc11 => ?_) (fun hc11 => ?_)
        ·skip
         simp only [PeerV.eta, TableV.eta, RouteV.eta] at hc11
         (exfalso; first | omega | (have hb9 := near_bad hNO (List.getElem_mem (n := k) (by omega)) ⟨by assumption, fun h9 => by simp_all⟩; simp_all; done))
        ·skip
         simp only [PeerV.eta, TableV.eta, RouteV.eta] at hc11
         refine Y_fieldAddr F.foff25_1 ?_
         refine Y_load F.lay23 ?_
         iterate 2 refine Y_move ?_
         refine X_indexAddr rfl rfl rfl rfl F.elem26 (by rfl) (by omega) (by exact SlM.plain (by assumption) (by (simp; omega))) rfl ?_
         refine X_fieldAddr_el rfl rfl rfl (by exact SlM.plain (by assumption) (by (simp; omega))) F.foff25_1 rfl ?_
         refine X_load_el rfl rfl rfl (by assumption) (by exact row_map (by omega)) F.lay23 rfl rfl rfl ?_
         refine Y_load F.lay23 ?_
         refine X_fs rfl rfl F.ok42 rfl (Open_ok _ _ _ _) rfl ?_
         rintro _ rfl
         refine Y_move ?_
         refine XD_part 84 rfl (fun hc12 => ?_) (fun hc12 => ?_)
         ·replace hc12 := dT hc12
          (exfalso; first | omega | (have hb9 := near_bad hNO (List.getElem_mem (n := k) (by omega)) ⟨by assumption, fun h9 => by simp_all⟩; simp_all; done))
         ·replace hc12 := dF hc12
          iterate 4 refine Y_skip ?_
          iterate 3 refine Y_pick ?_
          refine XD_end ?_
          refine K_then ?_
          refine C_false rfl ?_
          refine C_skip ?_
          refine K_then ?_
          refine C_region_any (l := [0, 1, 2, 3, 4, 5, 6, 7, 8, 9, 10, 11, 12]) #[0, 1, 3, 7, 15, 15, 63, 127, 15, 511, 1023, 2047, 4095] _ rfl (by kernel_rfl) (by kernel_rfl) St.drawn (fun _ h => h) ?_
          iterate 2 refine Y_move ?_
          refine XD_part 93 rfl (fun hc20 => ?_) (fun hc20 => ?_)
          ·skip
           iterate 9 refine Y_skip ?_
           refine Y_pick ?_
           refine Y_assign ?_
           refine XD_end ?_
           refine K_out ?_
           refine K_then ?_
           refine C_region (l := [0, 1, 2]) rfl ?_
           refine Y_move ?_
           refine X_ari rfl rfl rfl rfl rfl (by exact wrap_in (by decide) (by omega)) rfl ?_
           refine Y_assign ?_
           refine XD_end ?_
           refine K_roundS (a' := [(11, _), (10, _)]) (k + 1) (.cons (k := 11) rfl (.cons (k := 10) rfl (.cons (k := 9) rfl (.cons (k := 8) rfl (.cons (k := 7) rfl (.cons (k := 6) rfl (.cons (k := 4) rfl (.cons (k := 3) rfl (.cons (k := 2) rfl (.nil)))))))))) (fun w hw => by first | exact hw | exact hw.c) ?_ ?_
           ·refine ⟨_, rfl, by omega, ?_⟩
            rw [ex_take (by omega : k < k7l.length)]
            have hcm : CandP ⟨t_self_addr, t_self_id⟩ id avoid_l k7l[k] → OpenP t_self_id k7l[k].id id ∧ k7l[k].addr ∉ avoid_l := fun h => h
            have hcn : OpenP t_self_id k7l[k].id id → k7l[k].addr ∉ avoid_l → CandP ⟨t_self_addr, t_self_id⟩ id avoid_l k7l[k] := fun h h2 => ⟨h, h2⟩
            simp only [List.get_eq_getElem, Bool.not_eq_true', Bool.not_eq_false'] at *
            have het : (⟨k7l[k].addr, k7l[k].id⟩ : PeerV) = k7l[k] := rfl
            simp only [het] at *
            clear s_avoid2 sk7 k7 hNO hnn s_avoid k_avoid s_t_succ s_t_fingers k_t_succ k_t_fingers ht0 okT havoid1
            (simp_all; done)
           ·omega
          ·skip
           iterate 2 refine Y_move ?_
           refine XD_part 95 rfl (fun hc21 => ?_) (fun hc21 => ?_)
           ·skip
            iterate 2 refine Y_move ?_
            refine X_indexAddr rfl rfl rfl rfl F.elem26 (by rfl) (by omega) (by exact SlM.plain (by assumption) (by (simp; omega))) rfl ?_
            refine X_load_el rfl rfl rfl (by assumption) (by exact row_map (by omega)) F.lay25 rfl rfl rfl ?_
            refine Y_load F.lay25 ?_
            refine X_same (m := 20) rfl rfl rfl rfl rfl (by constructor) (by constructor) F.lay25 F.kinds25 rfl F.guard25 (by exact FitPeerV _) (by exact FitPeerV (⟨_, _⟩)) rfl rfl rfl ?_; intro c22 he23
            replace he23 : c22 = true ↔ Segs.cells _ = Segs.cells _ := he23
            obtain rfl := eqD he23 (PeerV.inj (x := ⟨_, _⟩) (y := ⟨_, _⟩)); clear he23
            iterate 2 refine Y_pick ?_
            refine Y_assign ?_
            refine XD_end ?_
            refine K_out ?_
            refine K_then ?_
            refine C_region (l := [0, 1, 2]) rfl ?_
            refine Y_move ?_
            refine X_ari rfl rfl rfl rfl rfl (by exact wrap_in (by decide) (by omega)) rfl ?_
            refine Y_assign ?_
            refine XD_end ?_
            refine K_roundS (a' := [(11, _), (10, _)]) (k + 1) (.cons (k := 11) rfl (.cons (k := 10) rfl (.cons (k := 9) rfl (.cons (k := 8) rfl (.cons (k := 7) rfl (.cons (k := 6) rfl (.cons (k := 4) rfl (.cons (k := 3) rfl (.cons (k := 2) rfl (.nil)))))))))) (fun w hw => by first | exact hw | exact hw.c) ?_ ?_
            ·refine ⟨_, rfl, by omega, ?_⟩
             rw [ex_take (by omega : k < k7l.length)]
             have hcm : CandP ⟨t_self_addr, t_self_id⟩ id avoid_l k7l[k] → OpenP t_self_id k7l[k].id id ∧ k7l[k].addr ∉ avoid_l := fun h => h
             have hcn : OpenP t_self_id k7l[k].id id → k7l[k].addr ∉ avoid_l → CandP ⟨t_self_addr, t_self_id⟩ id avoid_l k7l[k] := fun h h2 => ⟨h, h2⟩
             simp only [List.get_eq_getElem, Bool.not_eq_true', Bool.not_eq_false'] at *
             have het : (⟨k7l[k].addr, k7l[k].id⟩ : PeerV) = k7l[k] := rfl
             simp only [het] at *
             clear s_avoid2 sk7 k7 hNO hnn s_avoid k_avoid s_t_succ s_t_fingers k_t_succ k_t_fingers ht0 okT havoid1
             (simp_all; done)
            ·omega
           ·skip
            (exfalso; first | omega | (have hb9 := near_bad hNO (List.getElem_mem (n := k) (by omega)) ⟨by assumption, fun h9 => by simp_all⟩; simp_all; done))
       ·skip
        iterate 19 refine Y_skip ?_
        refine Y_pick ?_
        refine XD_end ?_
        refine K_then ?_
        refine C_false rfl ?_
        refine C_skip ?_
        refine K_then ?_
        refine C_region_any (l := [0, 1, 2, 3, 4, 5, 6, 7, 8, 9, 10, 11, 12]) #[0, 1, 3, 7, 15, 15, 63, 127, 15, 511, 1023, 2047, 4095] _ rfl (by kernel_rfl) (by kernel_rfl) St.drawn (fun _ h => h) ?_
        iterate 2 refine Y_move ?_
        refine XD_part 93 rfl (fun hc24 => ?_) (fun hc24 => ?_)
        ·skip
         iterate 9 refine Y_skip ?_
         refine Y_pick ?_
         refine Y_assign ?_
         refine XD_end ?_
         refine K_out ?_
         refine K_then ?_
         refine C_region (l := [0, 1, 2]) rfl ?_
         refine Y_move ?_
         refine X_ari rfl rfl rfl rfl rfl (by exact wrap_in (by decide) (by omega)) rfl ?_
         refine Y_assign ?_
         refine XD_end ?_
         refine K_roundS (a' := [(11, _), (10, _)]) (k + 1) (.cons (k := 11) rfl (.cons (k := 10) rfl (.cons (k := 9) rfl (.cons (k := 8) rfl (.cons (k := 7) rfl (.cons (k := 6) rfl (.cons (k := 4) rfl (.cons (k := 3) rfl (.cons (k := 2) rfl (.nil)))))))))) (fun w hw => by first | exact hw | exact hw.c) ?_ ?_
         ·refine ⟨_, rfl, by omega, ?_⟩
          rw [ex_take (by omega : k < k7l.length)]
          have hcm : CandP ⟨t_self_addr, t_self_id⟩ id avoid_l k7l[k] → OpenP t_self_id k7l[k].id id ∧ k7l[k].addr ∉ avoid_l := fun h => h
          have hcn : OpenP t_self_id k7l[k].id id → k7l[k].addr ∉ avoid_l → CandP ⟨t_self_addr, t_self_id⟩ id avoid_l k7l[k] := fun h h2 => ⟨h, h2⟩
          simp only [List.get_eq_getElem, Bool.not_eq_true', Bool.not_eq_false'] at *
          have het : (⟨k7l[k].addr, k7l[k].id⟩ : PeerV) = k7l[k] := rfl
          simp only [het] at *
          clear s_avoid2 sk7 k7 hNO hnn s_avoid k_avoid s_t_succ s_t_fingers k_t_succ k_t_fingers ht0 okT havoid1
          (simp_all; done)
         ·omega
        ·skip
         iterate 2 refine Y_move ?_
         refine XD_part 95 rfl (fun hc25 => ?_) (fun hc25 => ?_)
         ·skip
          (exfalso; first | omega | (have hb9 := near_bad hNO (List.getElem_mem (n := k) (by omega)) ⟨by assumption, fun h9 => by simp_all⟩; simp_all; done))
         ·skip
          iterate 6 refine Y_skip ?_
          iterate 2 refine Y_pick ?_
          refine Y_assign ?_
          refine XD_end ?_
          refine K_out ?_
          refine K_then ?_
          refine C_region (l := [0, 1, 2]) rfl ?_
          refine Y_move ?_
          refine X_ari rfl rfl rfl rfl rfl (by exact wrap_in (by decide) (by omega)) rfl ?_
          refine Y_assign ?_
          refine XD_end ?_
          refine K_roundS (a' := [(11, _), (10, _)]) (k + 1) (.cons (k := 11) rfl (.cons (k := 10) rfl (.cons (k := 9) rfl (.cons (k := 8) rfl (.cons (k := 7) rfl (.cons (k := 6) rfl (.cons (k := 4) rfl (.cons (k := 3) rfl (.cons (k := 2) rfl (.nil)))))))))) (fun w hw => by first | exact hw | exact hw.c) ?_ ?_
          ·refine ⟨_, rfl, by omega, ?_⟩
           rw [ex_take (by omega : k < k7l.length)]
           have hcm : CandP ⟨t_self_addr, t_self_id⟩ id avoid_l k7l[k] → OpenP t_self_id k7l[k].id id ∧ k7l[k].addr ∉ avoid_l := fun h => h
           have hcn : OpenP t_self_id k7l[k].id id → k7l[k].addr ∉ avoid_l → CandP ⟨t_self_addr, t_self_id⟩ id avoid_l k7l[k] := fun h h2 => ⟨h, h2⟩
           simp only [List.get_eq_getElem, Bool.not_eq_true', Bool.not_eq_false'] at *
           have het : (⟨k7l[k].addr, k7l[k].id⟩ : PeerV) = k7l[k] := rfl
           simp only [het] at *
           clear s_avoid2 sk7 k7 hNO hnn s_avoid k_avoid s_t_succ s_t_fingers k_t_succ k_t_fingers ht0 okT havoid1
           (simp_all; done)
          ·omega
      ·replace hc9 := dF hc9
       iterate 2 refine Y_skip ?_
       refine Y_pick ?_
       refine Y_assign ?_
       refine XD_end ?_
       refine K_then ?_
       iterate 2 refine C_seq ?_
       refine C_region_any (l := [0, 1, 2, 3, 4, 5, 6, 7, 8, 9, 10, 11, 12, 13, 14, 15, 16, 17, 18, 19, 20, 21]) #[0, 1, 3, 7, 15, 31, 63, 31, 31, 415, 927, 1951, 31, 8191, 16383, 32767, 65535, 32767, 262143, 524287, 1048575, 2097151] _ rfl (by kernel_rfl) (by kernel_rfl) St.drawn (fun _ h => h) ?_
       iterate 2 refine Y_move ?_
       iterate 19 refine Y_skip ?_
       refine Y_pick ?_
       refine XD_end ?_
       refine K_then ?_
       refine C_false rfl ?_
       refine C_skip ?_
       refine K_then ?_
       refine C_region_any (l := [0, 1, 2, 3, 4, 5, 6, 7, 8, 9, 10, 11, 12]) #[0, 1, 3, 7, 15, 15, 63, 127, 15, 511, 1023, 2047, 4095] _ rfl (by kernel_rfl) (by kernel_rfl) St.drawn (fun _ h => h) ?_
       iterate 2 refine Y_move ?_
       refine XD_part 93 rfl (fun hc28 => ?_) (fun hc28 => ?_)
       ·skip
        iterate 9 refine Y_skip ?_
        refine Y_pick ?_
        refine Y_assign ?_
        refine XD_end ?_
        refine K_out ?_
        refine K_then ?_
        refine C_region (l := [0, 1, 2]) rfl ?_
        refine Y_move ?_
        refine X_ari rfl rfl rfl rfl rfl (by exact wrap_in (by decide) (by omega)) rfl ?_
        refine Y_assign ?_
        refine XD_end ?_
        refine K_roundS (a' := [(11, _), (10, _)]) (k + 1) (.cons (k := 11) rfl (.cons (k := 10) rfl (.cons (k := 9) rfl (.cons (k := 8) rfl (.cons (k := 7) rfl (.cons (k := 6) rfl (.cons (k := 4) rfl (.cons (k := 3) rfl (.cons (k := 2) rfl (.nil)))))))))) (fun w hw => by first | exact hw | exact hw.c) ?_ ?_
        ·refine ⟨_, rfl, by omega, ?_⟩
         rw [ex_take (by omega : k < k7l.length)]
         have hcm : CandP ⟨t_self_addr, t_self_id⟩ id avoid_l k7l[k] → OpenP t_self_id k7l[k].id id ∧ k7l[k].addr ∉ avoid_l := fun h => h
         have hcn : OpenP t_self_id k7l[k].id id → k7l[k].addr ∉ avoid_l → CandP ⟨t_self_addr, t_self_id⟩ id avoid_l k7l[k] := fun h h2 => ⟨h, h2⟩
         simp only [List.get_eq_getElem, Bool.not_eq_true', Bool.not_eq_false'] at *
         have het : (⟨k7l[k].addr, k7l[k].id⟩ : PeerV) = k7l[k] := rfl
         simp only [het] at *
         clear s_avoid2 sk7 k7 hNO hnn s_avoid k_avoid s_t_succ s_t_fingers k_t_succ k_t_fingers ht0 okT havoid1
         (simp_all; done)
        ·omega
       ·skip
        iterate 2 refine Y_move ?_
        iterate 6 refine Y_skip ?_
        iterate 2 refine Y_pick ?_
        refine Y_assign ?_
        refine XD_end ?_
        refine K_out ?_
        refine K_then ?_
        refine C_region (l := [0, 1, 2]) rfl ?_
        refine Y_move ?_
        refine X_ari rfl rfl rfl rfl rfl (by exact wrap_in (by decide) (by omega)) rfl ?_
        refine Y_assign ?_
        refine XD_end ?_
        refine K_roundS (a' := [(11, _), (10, _)]) (k + 1) (.cons (k := 11) rfl (.cons (k := 10) rfl (.cons (k := 9) rfl (.cons (k := 8) rfl (.cons (k := 7) rfl (.cons (k := 6) rfl (.cons (k := 4) rfl (.cons (k := 3) rfl (.cons (k := 2) rfl (.nil)))))))))) (fun w hw => by first | exact hw | exact hw.c) ?_ ?_
        ·refine ⟨_, rfl, by omega, ?_⟩
         rw [ex_take (by omega : k < k7l.length)]
         have hcm : CandP ⟨t_self_addr, t_self_id⟩ id avoid_l k7l[k] → OpenP t_self_id k7l[k].id id ∧ k7l[k].addr ∉ avoid_l := fun h => h
         have hcn : OpenP t_self_id k7l[k].id id → k7l[k].addr ∉ avoid_l → CandP ⟨t_self_addr, t_self_id⟩ id avoid_l k7l[k] := fun h h2 => ⟨h, h2⟩
         simp only [List.get_eq_getElem, Bool.not_eq_true', Bool.not_eq_false'] at *
         have het : (⟨k7l[k].addr, k7l[k].id⟩ : PeerV) = k7l[k] := rfl
         simp only [het] at *
         clear s_avoid2 sk7 k7 hNO hnn s_avoid k_avoid s_t_succ s_t_fingers k_t_succ k_t_fingers ht0 okT havoid1
         (simp_all; done)
        ·omega
    ·replace hc6 := dF hc6
     refine C_exit ?_
     iterate 2 refine K_exit ?_
     refine K_hit ?_
     refine K_then ?_
     refine Y_pk [10, 8, 7, 6] ?_
     refine C_seq ?_
     refine C_region_any (l := [0, 1, 2, 3, 4, 5, 6, 7, 8, 9, 10, 11, 12, 13, 14]) #[0, 1, 3, 3, 15, 31, 63, 127, 255, 511, 511, 2047, 4095, 8191, 16383] _ rfl (by kernel_rfl) (by kernel_rfl) St.drawn (fun _ h => h) ?_
     refine X_fn rfl rfl F.ok23 rfl (tabled_ok _) rfl ?_
     rintro _ M3 hm3 rfl
     refine Y_move ?_
     refine XD_part 105 rfl (fun hc29 => ?_) (fun hc29 => ?_)
     ·skip
      simp only [PeerV.eta, TableV.eta, RouteV.eta] at hc29
      iterate 2 refine Y_move ?_
      refine X_eqb rfl rfl rfl rfl rfl Try.underlying4 rfl ?_
      refine Y_pick ?_
      refine Y_move ?_
      refine XD_part 110 rfl (fun hc30 => ?_) (fun hc30 => ?_)
      ·replace hc30 := dT hc30
       simp only [PeerV.eta, TableV.eta, RouteV.eta] at hc30
       iterate 2 refine Y_move ?_
       refine XD_part 112 rfl (fun hc31 => ?_) (fun hc31 => ?_)
       ·skip
        simp only [PeerV.eta, TableV.eta, RouteV.eta] at hc31
        iterate 3 refine Y_skip ?_
        iterate 2 refine Y_pick ?_
        refine Y_assign ?_
        refine XD_end ?_
        refine K_then ?_
        refine Y_pk [6] ?_
        refine C_ret ?_
        refine K_end (.inr rfl) (.tmp rfl .nil) (fun w hw => ?_)
        refine ⟨_, _, rfl, (by (repeat first | assumption | refine Mem.le.trans (by assumption) ?_)), hw.c, ?_⟩
        clear hw
        rfl
       ·skip
        simp only [PeerV.eta, TableV.eta, RouteV.eta] at hc31
        refine Y_load F.lay25 ?_
        refine X_fs rfl rfl F.ok43 rfl (rNone_ok _) rfl ?_
        rintro _ rfl
        refine XD_is 114 rfl (show _ = aggV [.one (.int .i64 (-1)), idSeg 0] from rfl) ?_
        refine X_same (m := 20) rfl rfl rfl rfl rfl (by constructor) (by constructor) F.lay25 F.kinds25 rfl F.guard25 (by exact FitPeerV (⟨_, _⟩)) (by exact FitPeerV (⟨_, _⟩)) rfl rfl rfl ?_; intro c32 he33
        replace he33 : c32 = true ↔ Segs.cells _ = Segs.cells _ := he33
        obtain rfl := eqD he33 (PeerV.inj (x := ⟨_, _⟩) (y := ⟨_, _⟩)); clear he33
        iterate 2 refine Y_pick ?_
        refine Y_assign ?_
        refine XD_end ?_
        refine K_then ?_
        refine Y_pk [6] ?_
        refine C_ret ?_
        refine K_end (.inr rfl) (.tmp rfl .nil) (fun w hw => ?_)
        refine ⟨_, _, rfl, (by (repeat first | assumption | refine Mem.le.trans (by assumption) ?_)), hw.c, ?_⟩
        clear hw
        (obtain rfl : k = k7l.length := (by omega); rw [List.take_length, near_there hNO] at hI; have hno := hNO.no; refine congrArg Value.bool ?_; simp_all; rfl)
      ·replace hc30 := dF hc30
       simp only [PeerV.eta, TableV.eta, RouteV.eta] at hc30
       iterate 6 refine Y_skip ?_
       refine Y_pick ?_
       refine Y_assign ?_
       refine XD_end ?_
       refine K_then ?_
       refine Y_pk [6] ?_
       refine C_ret ?_
       refine K_end (.inr rfl) (.tmp rfl .nil) (fun w hw => ?_)
       refine ⟨_, _, rfl, (by (repeat first | assumption | refine Mem.le.trans (by assumption) ?_)), hw.c, ?_⟩
       clear hw
       (obtain rfl : k = k7l.length := (by omega); rw [List.take_length, near_there hNO] at hI; have hno := hNO.no; refine congrArg Value.bool ?_; simp_all; done)
     ·skip
      (exfalso; simp [eqX] at hc29; done)

end Go.Proofs.Ytbjklbmmchiahaa
/-
  More rules: scopes that nothing jumps in; maps that are nil; how many a map has; the lesser of two.
-/
set_option linter.unusedSimpArgs false
set_option linter.unusedVariables false
set_option linter.unnecessarySimpa false
namespace Go.Esp
section
variable {P : Program} {n : Sh} {ops : Array Oper} {Q : Exit → Act → World → Prop} {rest : List Nat} {M M' : Mem} {H H' H0 : Hp} {e : Env} {J S : World → Prop} {A : As} {i : Nat}
  {dst : Option Tmp} {d : Tmp} {op : Op} {ty : TypeId} {pos : String} {af : Array Edge} {gd : Option (Nat × Bool)}

theorem C_scope {c : Code} (hro : n.ro = none) (h : C P n c (Exit.noGoto Q) S e) : C P n (.scope c) Q S e := by
  intro a w ha hw
  have h1 := h a w ha hw
  rw [hro] at h1 ⊢
  rw [Fr_none] at h1 ⊢
  exact wpIn_wide.2 (wp_scope_straight (wpIn_wide.1 h1))
theorem K_scopeN (h : K n Q .normal S e) : K n (Exit.noGoto Q) .normal S e := h
theorem K_scopeR (h : K n Q .ret S e) : K n (Exit.noGoto Q) .ret S e := h
theorem K_scopeX {id : Nat} (h : K n Q (.exit id) S e) : K n (Exit.noGoto Q) (.exit id) S e := h

theorem X_lookup2_nil {t k el : TypeId} {x y : Operand} {z : Int} {zv : Value} (hi : ops[i]? = some ⟨some d, .lookup t x y true, ty, pos, af, gd⟩) (hg : want ops e gd = some true)
    (hx : ev e x = some (.map none)) (hy : ev e y = some (.int .i64 z)) (ht : mapOf P t = some (k, el)) (hz : zeroOf P el = some zv) (hd : Nat.ble (d + 1) n.sz = true)
    (hk : XD P n ops Q rest J A ((d, .tuple #[zv, .bool false]) :: e)) : XD P n ops Q (i :: rest) J A e :=
  X_read hi rfl hg (fun a' w ha hw => runs_of (by
    simp only [execOp, ha.ev hx, ha.ev hy]
    refine run_v ?_
    obtain ⟨h1, h2⟩ := mapOf_spec ht
    have hzv : (zeroValue el).run P w = .ok zv w := by
      unfold zeroOf at hz
      split at hz
      · rename_i it hit; simp [zeroValue, typeInfo, hit, hz]
      · cases hz
    unfold Instr.lookup
    rw [run_bind_ok (run_underlying' h1)]
    simp only []
    rw [run_bind_ok (show (pure #[] : Sem (Array MapEntry)).run P w = .ok #[] w from rfl), run_bind_ok (run_checkKey_int h2), run_bind_ok (run_findKey (es := #[]) (l := []) h2 rfl)]
    simp only [imGet]
    rw [run_bind_ok hzv]
    rfl)) (fun a ha => ha.put hd _) hk

theorem X_len_map {t k el : TypeId} {x : Operand} {b : Nat} {o : Obj} {l : IM} {MJ : Mem} {HJ : Hp} {ats : Array TypeId} (hi : ops[i]? = some ⟨some d, .call ⟨.builtin .len, #[x], ats⟩, ty, pos, af, gd⟩) (hg : want ops e gd = some true)
    (hx : ev e x = some (.map (some b))) (hat : ats[0]? = some t) (ht : mapOf P t = some (k, el)) (hb : (b, o) ∈ HJ) (ho : imO o l) (hd : Nat.ble (d + 1) n.sz = true) (hk : XD P n ops Q rest (St MJ HJ) A ((d, .int .i64 (l.length : Int)) :: e)) : XD P n ops Q (i :: rest) (St MJ HJ) A e :=
  X_read hi rfl hg (fun a' w ha hw => runs_of (by
    obtain ⟨h1, h2⟩ := mapOf_spec ht
    obtain ⟨es, c, rfl, hkv⟩ := ho
    have hl : es.size = l.length := by have := congrArg List.length hkv; simpa [kvs] using this
    simp only [execOp, resolve]
    simp [invoke, builtin, Builtin.len_, ha.ev hx, hat, run_underlying' h1, run_getObj' (hw.own _ _ hb), goInt, hl])) (fun a ha => ha.put hd _) hk

theorem X_min {x y : Operand} {p q r : Int} {ats : Array TypeId} (hi : ops[i]? = some ⟨some d, .call ⟨.builtin .min, #[x, y], ats⟩, ty, pos, af, gd⟩) (hg : want ops e gd = some true)
    (hx : ev e x = some (.int .i64 p)) (hy : ev e y = some (.int .i64 q)) (hr : (if q < p then q else p) = r) (hd : Nat.ble (d + 1) n.sz = true) (hk : XD P n ops Q rest J A ((d, .int .i64 r) :: e)) : XD P n ops Q (i :: rest) J A e :=
  X_read hi rfl hg (fun a' w ha _ => runs_of (by
    subst hr
    simp only [execOp, resolve]
    simp [invoke, builtin, Builtin.min_, Builtin.min2, ha.ev hx, ha.ev hy])) (fun a ha => ha.put hd _) hk
/-! Cuts: what is known behind a piece of code, told once for all ways through it. -/
theorem C_cutX {α : Type} {c rest : Code} (pre : α → Env) (F : α → Prop) {e0 : Env} (hp : Pick e e0)
    (h1 : C P n c (Exit.then (fun a w => ∃ x, F x ∧ Sat n (pre x ++ e0) a ∧ S w) Q) S e) (h2 : ∀ x, F x → C P n rest Q S (pre x ++ e0)) :
    C P n c (Exit.then (rest.wpIn (Fr n.ro) 0 P Q) Q) S e := by
  intro a w ha hw
  refine wpIn_mono (h1 a w ha hw) fun x a' w' hx => ?_
  cases x with
  | normal =>
    obtain ⟨x, hF, hs, hw2⟩ := hx
    exact h2 x hF a' w' hs hw2
  | _ => exact hx
theorem K_cutX {α : Type} {S' : World → Prop} {pre : α → Env} {F : α → Prop} {e0 e1 : Env} (x : α) (hF : F x) (hp : Pick e1 (pre x ++ e0)) (hS : ∀ w, S' w → S w) :
    K n (Exit.then (fun a w => ∃ x, F x ∧ Sat n (pre x ++ e0) a ∧ S w) Q) .normal S' e1 := fun a w ha hw => ⟨x, hF, ha.pick hp, hS w hw⟩
theorem K_is {x : Exit} {v v' : Value} (k : Nat) (hk : get e k = some v) (hv : v = v') (h : K n Q x S ((k, v') :: e)) : K n Q x S e := fun a w ha hw => h a w (ha.more (hv ▸ hk)) hw
theorem K_bool {x : Exit} {b : Bool} (k : Nat) (hk : get e k = some (.bool b)) (ht : b = true → K n Q x S ((k, .bool true) :: e)) (hf : b = false → K n Q x S ((k, .bool false) :: e)) : K n Q x S e := by
  cases b with
  | true => exact K_is k hk rfl (ht rfl)
  | false => exact K_is k hk rfl (hf rfl)
end
end Go.Esp
/-
  The sixth law.
-/
set_option linter.unusedSimpArgs false
set_option linter.unusedVariables false
set_option linter.unnecessarySimpa false
set_option maxRecDepth 8000
set_option maxHeartbeats 1000000
namespace Go.Proofs.Ytbjklbmmchiahaa
open Go.Esp


theorem lawPoints_ok (M : Mem) (t : TableV) (k : Int) (p : PeerV) (ht0 : TableV.ok M t) : Esp.Fn Try.prog 8 [t.enc, .int .i64 k, p.enc] M (fun _ v => v = .bool true) := by
  obtain ⟨⟨t_self_addr, t_self_id⟩, ⟨t_pred_addr, t_pred_id⟩, ⟨t_succ_a, t_succ_c, t_succ_l⟩, ⟨t_fingers_a, t_fingers_c, t_fingers_l⟩⟩ := t
  obtain ⟨p_addr, p_id⟩ := p
  have k_t_succ : SlK M PeerV.segs 21 ⟨t_succ_a, t_succ_c, t_succ_l⟩ := ht0.h0
  have s_t_succ : SlM M t_succ_a (t_succ_l.map PeerV.segs) 21 := k_t_succ.h1
  have n_t_succ : (t_succ_l.map PeerV.segs).length = t_succ_l.length := List.length_map ..
  have m_t_succ : t_succ_l.length ≤ 9223372036854775807 := k_t_succ.h2
  have c_t_succ : t_succ_l.length ≤ t_succ_c := k_t_succ.h3
  have k_t_fingers : SlK M PeerV.segs 21 ⟨t_fingers_a, t_fingers_c, t_fingers_l⟩ := ht0.h1
  have s_t_fingers : SlM M t_fingers_a (t_fingers_l.map PeerV.segs) 21 := k_t_fingers.h1
  have n_t_fingers : (t_fingers_l.map PeerV.segs).length = t_fingers_l.length := List.length_map ..
  have m_t_fingers : t_fingers_l.length ≤ 9223372036854775807 := k_t_fingers.h2
  have c_t_fingers : t_fingers_l.length ≤ t_fingers_c := k_t_fingers.h3
  refine fn_enter Try.func8 rfl Try.ntmps8 rfl ?_; intro H
  refine C_seq ?_
  refine C_region (l := [0, 1, 2]) rfl ?_
  refine Y_box ?_; intro b1
  refine Y_box ?_; intro b2
  refine Y_assign ?_
  refine XD_end ?_
  refine K_then ?_
  refine Y_pk [6, 5, 3, 1] ?_
  iterate 2 refine C_seq ?_
  refine C_region (l := [0, 1]) rfl ?_
  refine Y_load F.lay28 ?_
  refine X_fs rfl rfl F.ok15 rfl (BigT_ok _ ⟨⟨_, _⟩, ⟨_, _⟩, ⟨_, _, _⟩, ⟨_, _, _⟩⟩ (by assumption)) rfl ?_
  rintro _ rfl
  refine XD_end ?_
  refine K_then ?_
  refine Y_pk [16, 6, 5, 3, 1] ?_
  refine C_cond rfl (fun hc3 => ?_) (fun hc3 => ?_)
  ·replace hc3 := dT hc3
   simp only [PeerV.eta, TableV.eta, RouteV.eta] at hc3
   refine C_seq ?_
   refine C_region (l := [0]) rfl ?_
   refine Y_assign ?_
   refine XD_end ?_
   refine K_then ?_
   refine Y_pk [6, 5, 3, 1] ?_
   refine C_ret ?_
   refine K_ret ?_
   refine K_end (.inr rfl) (.tmp rfl .nil) (fun w hw => ?_)
   refine ⟨_, _, rfl, (by exact Mem.le.refl _), hw.c, ?_⟩
   clear hw
   rfl
  ·replace hc3 := dF hc3
   simp only [PeerV.eta, TableV.eta, RouteV.eta] at hc3
   refine C_skip ?_
   refine K_then ?_
   refine Y_pk [6, 5, 3, 1] ?_
   refine C_seq ?_
   refine C_region (l := [0, 1, 2, 3, 4, 5, 6, 7, 8, 9, 10, 11]) rfl ?_
   have hbig : t_succ_l.length ≤ 40 ∧ t_fingers_l.length ≤ 200 := by omega
   have okT : TableV.ok M ⟨⟨t_self_addr, t_self_id⟩, ⟨t_pred_addr, t_pred_id⟩, ⟨t_succ_a, t_succ_c, t_succ_l⟩, ⟨t_fingers_a, t_fingers_c, t_fingers_l⟩⟩ := ht0
   refine Y_load F.lay28 ?_
   refine Y_move ?_
   refine Y_load F.lay25 ?_
   refine X_fn rfl rfl F.ok21 rfl (Point_ok _ ⟨⟨t_self_addr, t_self_id⟩, ⟨t_pred_addr, t_pred_id⟩, ⟨t_succ_a, t_succ_c, t_succ_l⟩, ⟨t_fingers_a, t_fingers_c, t_fingers_l⟩⟩ k ⟨p_addr, p_id⟩ okT) rfl ?_
   rintro _ M6 hm6 h6
   obtain ⟨_, rfl, ⟨⟨a6, i6⟩, ⟨q6, j6⟩, ⟨s6a, s6c, s6l⟩, ⟨f6a, f6c, f6l⟩⟩, rfl, e6, ok6⟩ := h6
   refine Y_move ?_
   iterate 3 refine Y_extract ?_
   refine Y_alloc F.zero28 ?_; intro b4
   refine Y_store F.lay28 ?_
   iterate 2 refine Y_assign ?_
   refine XD_end ?_
   refine K_then ?_
   refine Y_pk [9, 8, 7, 6, 5, 3, 1] ?_
   iterate 2 refine C_seq ?_
   obtain ⟨nx, hnx⟩ : ∃ nx, (pointT (TableV.tb ⟨⟨t_self_addr, t_self_id⟩, ⟨t_pred_addr, t_pred_id⟩, ⟨t_succ_a, t_succ_c, t_succ_l⟩, ⟨t_fingers_a, t_fingers_c, t_fingers_l⟩⟩) k ⟨p_addr, p_id⟩).2.1 = nx := ⟨_, rfl⟩
   obtain ⟨ec, hec⟩ : ∃ ec, (pointT (TableV.tb ⟨⟨t_self_addr, t_self_id⟩, ⟨t_pred_addr, t_pred_id⟩, ⟨t_succ_a, t_succ_c, t_succ_l⟩, ⟨t_fingers_a, t_fingers_c, t_fingers_l⟩⟩) k ⟨p_addr, p_id⟩).2.2 = ec := ⟨_, rfl⟩
   rw [hnx, hec]
   have e6p := e6
   refine C_region (l := [0, 1]) rfl ?_
   refine Y_move ?_
   refine Y_cmp ?_
   refine XD_end ?_
   refine K_then ?_
   refine Y_pk [26, 8, 7, 6, 5, 3, 1] ?_
   refine C_cond rfl (fun hc5 => ?_) (fun hc5 => ?_)
   ·replace hc5 := nT hc5
    refine C_seq ?_
    refine C_region (l := [0, 1, 2, 3, 4, 5, 6, 7, 8, 9, 10, 11]) rfl ?_
    refine X_fn rfl rfl F.ok23 rfl (tabled_ok _) rfl ?_
    rintro _ M3 hm3 rfl
    refine Y_move ?_
    refine XD_part 28 rfl (fun hc6 => ?_) (fun hc6 => ?_)
    ·skip
     simp only [PeerV.eta, TableV.eta, RouteV.eta] at hc6
     refine Y_move ?_
     refine Y_cmp ?_
     refine Y_pick ?_
     refine Y_move ?_
     refine XD_part 32 rfl (fun hc7 => ?_) (fun hc7 => ?_)
     ·replace hc7 := dT hc7
      refine Y_fieldAddr F.foff28_3 ?_
      refine Y_load F.lay26 ?_
      refine Y_len_sl F.elem26 ?_
      refine Y_cmp ?_
      refine Y_pick ?_
      refine Y_assign ?_
      refine XD_end ?_
      refine K_then ?_
      refine Y_pk [6, 8, 7, 5, 3, 1] ?_
      refine C_ret ?_
      refine K_ret ?_
      refine K_end (.inr rfl) (.tmp rfl .nil) (fun w hw => ?_)
      have hz := point_zero (t := (TableV.tb ⟨⟨t_self_addr, t_self_id⟩, ⟨t_pred_addr, t_pred_id⟩, ⟨t_succ_a, t_succ_c, t_succ_l⟩, ⟨t_fingers_a, t_fingers_c, t_fingers_l⟩⟩)) (k := k) (p := ⟨p_addr, p_id⟩) (by rw [hec]; assumption)
      rw [hz] at hnx e6
      have hf0 : f6l.length = 0 := congrArg (fun t : Tb => t.fingers.length) e6
      simp only at hnx
      refine ⟨_, _, rfl, (by (repeat first | assumption | refine Mem.le.trans (by assumption) ?_)), hw.c, ?_⟩
      clear hw
      exact congrArg Value.bool (decide_eq_true (by omega))
     ·replace hc7 := dF hc7
      iterate 4 refine Y_skip ?_
      refine Y_pick ?_
      refine Y_assign ?_
      refine XD_end ?_
      refine K_then ?_
      refine Y_pk [6, 8, 7, 5, 3, 1] ?_
      refine C_ret ?_
      refine K_ret ?_
      refine K_end (.inr rfl) (.tmp rfl .nil) (fun w hw => ?_)
      have hz := point_zero (t := (TableV.tb ⟨⟨t_self_addr, t_self_id⟩, ⟨t_pred_addr, t_pred_id⟩, ⟨t_succ_a, t_succ_c, t_succ_l⟩, ⟨t_fingers_a, t_fingers_c, t_fingers_l⟩⟩)) (k := k) (p := ⟨p_addr, p_id⟩) (by rw [hec]; assumption)
      rw [hz] at hnx e6
      have hf0 : f6l.length = 0 := congrArg (fun t : Tb => t.fingers.length) e6
      simp only at hnx
      refine ⟨_, _, rfl, (by (repeat first | assumption | refine Mem.le.trans (by assumption) ?_)), hw.c, ?_⟩
      clear hw
      (refine congrArg Value.bool ?_; simp_all; done)
    ·skip
     (exfalso; simp [eqX] at hc6; done)
   ·replace hc5 := nF hc5
    refine C_skip ?_
    refine K_then ?_
    refine Y_pk [8, 7, 6, 5, 3, 1] ?_
    refine C_seq ?_
    obtain ⟨kn, en, rfl, g1, g2, hIs, g3, g4, g5⟩ := point_law (t := (TableV.tb ⟨⟨t_self_addr, t_self_id⟩, ⟨t_pred_addr, t_pred_id⟩, ⟨t_succ_a, t_succ_c, t_succ_l⟩, ⟨t_fingers_a, t_fingers_c, t_fingers_l⟩⟩)) (k := k) (p := ⟨p_addr, p_id⟩) (by rw [hec]; simpa using by assumption)
    rw [g3] at hnx e6
    have hf6 : f6l = ptW t_fingers_l kn en (fingerOf (TableV.tb ⟨⟨t_self_addr, t_self_id⟩, ⟨t_pred_addr, t_pred_id⟩, ⟨t_succ_a, t_succ_c, t_succ_l⟩, ⟨t_fingers_a, t_fingers_c, t_fingers_l⟩⟩) ⟨p_addr, p_id⟩) := congrArg Tb.fingers e6
    have hs6 : s6l = t_succ_l := congrArg Tb.succ e6
    have hp6 : PeerV.mk q6 j6 = ⟨t_pred_addr, t_pred_id⟩ := congrArg Tb.pred e6
    have hf160 : t_fingers_l.length = 160 := hIs.2.2.2.1
    have hl6 : f6l.length = 160 := by rw [hf6, ptW_len (by omega) (by omega)]; exact hf160
    have hnx2 : (en = 160 ∧ nx = 0) ∨ (en < 160 ∧ nx = (en : Int)) := by
     simp only at hnx
     rcases Nat.lt_or_ge en 160 with h9 | h9
     ·rw [if_neg (by omega)] at hnx; exact .inr ⟨h9, hnx.symm⟩
     ·obtain rfl : en = 160 := by omega
      rw [if_pos rfl] at hnx; exact .inl ⟨rfl, hnx.symm⟩
    clear hnx
    refine C_region (l := [0, 1]) rfl ?_
    refine Y_move ?_
    refine Y_assign ?_
    refine XD_end ?_
    refine K_then ?_
    refine Y_pk [10, 8, 7, 6, 5, 3, 1] ?_
    iterate 2 refine C_seq ?_
    refine C_region (l := [0, 1]) rfl ?_
    refine Y_move ?_
    refine Y_cmp ?_
    refine XD_end ?_
    refine K_then ?_
    refine Y_pk [40, 10, 7, 6, 5, 3, 1] ?_
    refine C_cutX (α := Unit) (fun _ => [(10, .int .i64 (en : Int))]) (fun _ => True) (.cons (k := 7) rfl (.cons (k := 6) rfl (.cons (k := 5) rfl (.cons (k := 3) rfl (.cons (k := 1) rfl .nil))))) ?_ ?_
    ·skip
     refine C_cond rfl (fun hc8 => ?_) (fun hc8 => ?_)
     ·replace hc8 := dT hc8
      refine C_region (l := [0]) rfl ?_
      refine Y_assign ?_
      refine XD_end ?_
      refine K_is 10 rfl (congrArg (Value.int .i64) (show _ = (en : Int) by first | (simp only at *; omega))) ?_
      exact K_cutX (()) (trivial) (.cons (k := 10) rfl (.cons (k := 7) rfl (.cons (k := 6) rfl (.cons (k := 5) rfl (.cons (k := 3) rfl (.cons (k := 1) rfl .nil)))))) (fun w hw => by first | exact hw | exact hw.c)
     ·replace hc8 := dF hc8
      refine C_skip ?_
      refine K_is 10 rfl (congrArg (Value.int .i64) (show _ = (en : Int) by first | (simp only at *; omega))) ?_
      exact K_cutX (()) (trivial) (.cons (k := 10) rfl (.cons (k := 7) rfl (.cons (k := 6) rfl (.cons (k := 5) rfl (.cons (k := 3) rfl (.cons (k := 1) rfl .nil)))))) (fun w hw => by first | exact hw | exact hw.c)
    ·rintro _ -
     iterate 2 refine C_seq ?_
     refine C_cutX (α := Unit) (fun _ => [(63, .bool false)]) (fun _ => True) (.cons (k := 10) rfl (.cons (k := 7) rfl (.cons (k := 6) rfl (.cons (k := 5) rfl (.cons (k := 3) rfl (.cons (k := 1) rfl .nil)))))) ?_ ?_
     ·skip
      refine C_region (l := [0, 1, 2, 3, 4, 5, 6, 7, 8, 9, 10, 11, 12, 13, 14, 15, 16, 17, 18, 19, 20, 21, 22]) rfl ?_
      refine Y_fieldAddr F.foff28_3 ?_
      refine Y_load F.lay26 ?_
      refine Y_len_sl F.elem26 ?_
      refine Y_cmp ?_
      refine Y_move ?_
      refine XD_part 45 rfl (fun hc9 => ?_) (fun hc9 => ?_)
      ·replace hc9 := nT hc9
       (exfalso; first | omega | exact absurd (hF1 (by omega) (by omega)) (by assumption) | exact absurd (hG1 (by omega) (by omega)) (by assumption) | exact absurd (by assumption) (hG2 (by omega) (by omega)) | exact absurd ((hF2 (by omega) (by omega) (by omega)).trans (if_pos (by assumption))) (by assumption) | exact absurd ((hF2 (by omega) (by omega) (by omega)).trans (if_neg (by assumption))) (by assumption))
      ·replace hc9 := nF hc9
       refine Y_fieldAddr F.foff28_3 ?_
       refine Y_load F.lay26 ?_
       refine Y_len_sl F.elem26 ?_
       refine Y_cmp ?_
       refine Y_pick ?_
       refine Y_move ?_
       refine XD_part 51 rfl (fun hc10 => ?_) (fun hc10 => ?_)
       ·replace hc10 := nT hc10
        (exfalso; first | omega | exact absurd (hF1 (by omega) (by omega)) (by assumption) | exact absurd (hG1 (by omega) (by omega)) (by assumption) | exact absurd (by assumption) (hG2 (by omega) (by omega)) | exact absurd ((hF2 (by omega) (by omega) (by omega)).trans (if_pos (by assumption))) (by assumption) | exact absurd ((hF2 (by omega) (by omega) (by omega)).trans (if_neg (by assumption))) (by assumption))
       ·replace hc10 := nF hc10
        refine Y_move ?_
        refine Y_cmp ?_
        refine Y_pick ?_
        refine Y_move ?_
        refine XD_part 55 rfl (fun hc11 => ?_) (fun hc11 => ?_)
        ·replace hc11 := dT hc11
         (exfalso; first | omega | exact absurd (hF1 (by omega) (by omega)) (by assumption) | exact absurd (hG1 (by omega) (by omega)) (by assumption) | exact absurd (by assumption) (hG2 (by omega) (by omega)) | exact absurd ((hF2 (by omega) (by omega) (by omega)).trans (if_pos (by assumption))) (by assumption) | exact absurd ((hF2 (by omega) (by omega) (by omega)).trans (if_neg (by assumption))) (by assumption))
        ·replace hc11 := dF hc11
         iterate 2 refine Y_move ?_
         refine Y_cmp ?_
         refine Y_pick ?_
         refine Y_move ?_
         refine XD_part 60 rfl (fun hc12 => ?_) (fun hc12 => ?_)
         ·replace hc12 := dT hc12
          (exfalso; first | omega | exact absurd (hF1 (by omega) (by omega)) (by assumption) | exact absurd (hG1 (by omega) (by omega)) (by assumption) | exact absurd (by assumption) (hG2 (by omega) (by omega)) | exact absurd ((hF2 (by omega) (by omega) (by omega)).trans (if_pos (by assumption))) (by assumption) | exact absurd ((hF2 (by omega) (by omega) (by omega)).trans (if_neg (by assumption))) (by assumption))
         ·replace hc12 := dF hc12
          refine Y_move ?_
          refine Y_cmp ?_
          refine Y_pick ?_
          refine XD_end ?_
          refine K_bool 63 rfl (fun hc13 => ?_) (fun hc13 => ?_)
          ·replace hc13 := dT hc13
           (exfalso; first | omega | exact absurd (hF1 (by omega) (by omega)) (by assumption) | exact absurd (hG1 (by omega) (by omega)) (by assumption) | exact absurd (by assumption) (hG2 (by omega) (by omega)) | exact absurd ((hF2 (by omega) (by omega) (by omega)).trans (if_pos (by assumption))) (by assumption) | exact absurd ((hF2 (by omega) (by omega) (by omega)).trans (if_neg (by assumption))) (by assumption))
          ·replace hc13 := dF hc13
           exact K_cutX (()) (trivial) (.cons (k := 63) rfl (.cons (k := 10) rfl (.cons (k := 7) rfl (.cons (k := 6) rfl (.cons (k := 5) rfl (.cons (k := 3) rfl (.cons (k := 1) rfl .nil))))))) (fun w hw => by first | exact hw | exact hw.c)
     ·rintro _ -
      refine C_false rfl ?_
      refine C_skip ?_
      refine K_then ?_
      refine Y_pk [10, 7, 6, 5, 3, 1] ?_
      iterate 2 refine C_seq ?_
      refine C_region (l := [0]) rfl ?_
      refine Y_assign ?_
      refine XD_end ?_
      refine K_then ?_
      refine C_block ?_
      refine Y_pk [11, 10, 7, 6, 5, 3, 1] ?_
      refine C_loopS (.succ .zero) (fun (j : Nat) z => z = [(11, .int .i64 (j : Int))] ∧ j ≤ 160) (fun j => 160 - j) (0) (⟨rfl, by omega⟩) ?_
      rintro j _ ⟨rfl, hj⟩
      have s_f6 := ok6.h1.h1
      simp only at s_f6
      have s_t2 := s_t_fingers.mono hm6
      have n_f6 : (f6l.map PeerV.segs).length = f6l.length := List.length_map ..
      have hA := fun (hi : j < 160) => ptW_at (l := t_fingers_l) (k := kn) (j := en) (i := j) (f := fingerOf (TableV.tb ⟨⟨t_self_addr, t_self_id⟩, ⟨t_pred_addr, t_pred_id⟩, ⟨t_succ_a, t_succ_c, t_succ_l⟩, ⟨t_fingers_a, t_fingers_c, t_fingers_l⟩⟩) ⟨p_addr, p_id⟩) (by omega) (by omega) (by omega)
      have hF1 : ∀ hi : j < 160, ¬ (kn ≤ j ∧ j < en) → f6l[j] = t_fingers_l[j] := fun hi hn => by have h8 := hA hi; rw [← hf6, if_neg hn, List.getElem?_eq_getElem (by omega)] at h8; exact Option.some.inj h8
      have hF2 : ∀ hi : j < 160, kn ≤ j → j < en → f6l[j] = fingerOf (TableV.tb ⟨⟨t_self_addr, t_self_id⟩, ⟨t_pred_addr, t_pred_id⟩, ⟨t_succ_a, t_succ_c, t_succ_l⟩, ⟨t_fingers_a, t_fingers_c, t_fingers_l⟩⟩) ⟨p_addr, p_id⟩ := fun hi hn hn2 => by have h8 := hA hi; rw [← hf6, if_pos ⟨hn, hn2⟩, List.getElem?_eq_getElem (by omega)] at h8; exact Option.some.inj h8
      have hG1 : kn < j → j < en → HalfP t_self_id (t_self_id + powP j) p_id := fun h1 h2 => of_decide_eq_true (g4 j h1 h2)
      have hG2 : j = en → en < 160 → ¬ HalfP t_self_id (t_self_id + powP j) p_id := fun h1 h2 => by subst h1; exact of_decide_eq_false (g5 h2)
      iterate 2 refine C_seq ?_
      refine C_region (l := [0, 1]) rfl ?_
      refine Y_move ?_
      refine Y_cmp ?_
      refine XD_end ?_
      refine K_then ?_
      refine C_cond rfl (fun hc14 => ?_) (fun hc14 => ?_)
      ·replace hc14 := dT hc14
       refine C_skip ?_
       refine K_then ?_
       refine C_seq ?_
       refine C_block ?_
       refine C_seq ?_
       refine C_region (l := [0, 1, 2, 3, 4, 5, 6, 7]) rfl ?_
       refine Y_move ?_
       refine X_fs rfl rfl F.ok44 rfl (Power_ok_in _ j (by omega)) rfl ?_
       rintro _ rfl
       refine Y_move ?_
       iterate 2 refine Y_extract ?_
       refine Y_alloc F.zero23 ?_; intro b15
       refine Y_store F.lay23 ?_
       refine Y_assign ?_
       refine XD_end ?_
       refine K_then ?_
       refine C_seq ?_
       refine C_region_any (l := [0, 1, 2, 3, 4, 5, 6, 7, 8, 9, 10, 11]) #[0, 1, 3, 0, 8, 24, 0, 120, 0, 256, 1023, 2047] _ rfl (by kernel_rfl) (by kernel_rfl) St.drawn (fun _ h => h) ?_
       refine Y_fieldAddr F.foff28_0 ?_
       refine Y_fieldAddr F.foff25_1 ?_
       refine Y_load F.lay23 ?_
       refine Y_fieldAddr F.foff28_0 ?_
       refine Y_fieldAddr F.foff25_1 ?_
       iterate 2 refine Y_load F.lay23 ?_
       refine X_fs rfl rfl F.ok46 rfl (Plus_ok _ _ _) rfl ?_
       rintro _ rfl
       refine Y_fieldAddr F.foff25_1 ?_
       refine Y_load F.lay23 ?_
       refine X_fs rfl rfl F.ok45 rfl (Half_ok _ _ _ _) rfl ?_
       rintro _ rfl
       refine Y_assign ?_
       refine XD_end ?_
       refine K_then ?_
       iterate 2 refine C_seq ?_
       refine C_cutX (α := Unit) (fun _ => [(130, .bool false)]) (fun _ => True) (.cons (k := 14) rfl (.cons (k := 83) rfl (.cons (k := 82) rfl (.cons (k := 81) rfl (.cons (k := 80) rfl (.cons (k := 79) rfl (.cons (k := 78) rfl (.cons (k := 77) rfl (.cons (k := 76) rfl (.cons (k := 75) rfl (.cons (k := 74) rfl (.cons (k := 73) rfl (.cons (k := 13) rfl (.cons (k := 12) rfl (.cons (k := 72) rfl (.cons (k := 71) rfl (.cons (k := 68) rfl (.cons (k := 70) rfl (.cons (k := 69) rfl (.cons (k := 65) rfl (.cons (k := 64) rfl (.cons (k := 11) rfl (.cons (k := 10) rfl (.cons (k := 7) rfl (.cons (k := 6) rfl (.cons (k := 5) rfl (.cons (k := 3) rfl (.cons (k := 1) rfl .nil)))))))))))))))))))))))))))) ?_ ?_
       ·skip
        refine C_region_any (l := [0, 1, 2, 3, 4, 5, 6, 7, 8, 9, 10, 11, 12, 13, 14, 15, 16, 17, 18, 19, 20, 21, 22, 23, 24, 25, 26, 27, 28, 29, 30, 31, 32, 33, 34, 35, 36, 37, 38, 39, 40, 41, 42, 43, 44, 45, 46]) #[0, 1, 3, 7, 7, 31, 63, 127, 127, 511, 1023, 2047, 4095, 8191, 4095, 32767, 65535, 4095, 135167, 4095, 921599, 1970175, 4194303, 8388607, 16777215, 33554431, 67108863, 67108863, 268435455, 536870911, 1073741823, 1073741823, 4294967295, 8589934591, 17179869183, 34359738367, 68719476735, 137438953471, 274877906943, 549755813887, 1099511627775, 1099511627775, 4398046511103, 8796093022207, 17592186044415, 35184372088831, 70368744177663] _ rfl (by kernel_rfl) (by kernel_rfl) St.drawn (fun _ h => h) ?_
        refine Y_move ?_
        refine Y_cmp ?_
        refine Y_move ?_
        refine XD_part 86 rfl (fun hc16 => ?_) (fun hc16 => ?_)
        ·replace hc16 := nT hc16
         simp only [PeerV.eta, TableV.eta, RouteV.eta] at hc16
         (exfalso; simp [eqX] at hc16; done)
        ·replace hc16 := nF hc16
         simp only [PeerV.eta, TableV.eta, RouteV.eta] at hc16
         iterate 2 refine Y_move ?_
         refine Y_cmp ?_
         refine Y_move ?_
         refine XD_part 90 rfl (fun hc17 => ?_) (fun hc17 => ?_)
         ·replace hc17 := dT hc17
          iterate 3 refine Y_skip ?_
          refine Y_pick ?_
          refine Y_move ?_
          refine Y_fieldAddr F.foff28_3 ?_
          refine Y_load F.lay26 ?_
          refine Y_move ?_
          refine X_indexAddr rfl rfl rfl rfl F.elem26 (by rfl) (by omega) (by exact SlM.plain (by assumption) (by (simp; omega))) rfl ?_
          refine X_load_el rfl rfl rfl (by assumption) (by exact row_map (by omega)) F.lay25 rfl rfl rfl ?_
          refine Y_fieldAddr F.foff28_3 ?_
          refine Y_load F.lay26 ?_
          refine Y_move ?_
          refine X_indexAddr rfl rfl rfl rfl F.elem26 (by rfl) (by omega) (by exact SlM.plain (by assumption) (by (simp; omega))) rfl ?_
          refine X_load_el rfl rfl rfl (by assumption) (by exact row_map (by omega)) F.lay25 rfl rfl rfl ?_
          refine X_same (m := 20) rfl rfl rfl rfl rfl (by constructor) (by constructor) F.lay25 F.kinds25 rfl F.guard25 (by exact FitPeerV _) (by exact FitPeerV _) rfl rfl rfl ?_; intro c18 he19
          replace he19 : c18 = true ↔ ¬ (Segs.cells _ = Segs.cells _) := he19
          obtain rfl := neD he19 (PeerV.inj (x := ⟨_, _⟩) (y := ⟨_, _⟩)); clear he19
          iterate 2 refine Y_pick ?_
          refine Y_move ?_
          refine XD_part 109 rfl (fun hc20 => ?_) (fun hc20 => ?_)
          ·replace hc20 := nT hc20
           simp only [PeerV.eta, TableV.eta, RouteV.eta] at hc20
           (exfalso; first | omega | exact absurd (hF1 (by omega) (by omega)) (by assumption) | exact absurd (hG1 (by omega) (by omega)) (by assumption) | exact absurd (by assumption) (hG2 (by omega) (by omega)) | exact absurd ((hF2 (by omega) (by omega) (by omega)).trans (if_pos (by assumption))) (by assumption) | exact absurd ((hF2 (by omega) (by omega) (by omega)).trans (if_neg (by assumption))) (by assumption))
          ·replace hc20 := nF hc20
           simp only [PeerV.eta, TableV.eta, RouteV.eta] at hc20
           iterate 2 refine Y_move ?_
           refine Y_cmp ?_
           refine Y_move ?_
           refine XD_part 113 rfl (fun hc21 => ?_) (fun hc21 => ?_)
           ·replace hc21 := dT hc21
            (exfalso; first | omega | exact absurd (hF1 (by omega) (by omega)) (by assumption) | exact absurd (hG1 (by omega) (by omega)) (by assumption) | exact absurd (by assumption) (hG2 (by omega) (by omega)) | exact absurd ((hF2 (by omega) (by omega) (by omega)).trans (if_pos (by assumption))) (by assumption) | exact absurd ((hF2 (by omega) (by omega) (by omega)).trans (if_neg (by assumption))) (by assumption))
           ·replace hc21 := dF hc21
            iterate 3 refine Y_skip ?_
            refine Y_pick ?_
            refine Y_move ?_
            iterate 2 refine Y_skip ?_
            iterate 2 refine Y_pick ?_
            iterate 3 refine Y_move ?_
            refine Y_cmp ?_
            refine Y_move ?_
            refine XD_part 127 rfl (fun hc28 => ?_) (fun hc28 => ?_)
            ·replace hc28 := dT hc28
             (exfalso; first | omega | exact absurd (hF1 (by omega) (by omega)) (by assumption) | exact absurd (hG1 (by omega) (by omega)) (by assumption) | exact absurd (by assumption) (hG2 (by omega) (by omega)) | exact absurd ((hF2 (by omega) (by omega) (by omega)).trans (if_pos (by assumption))) (by assumption) | exact absurd ((hF2 (by omega) (by omega) (by omega)).trans (if_neg (by assumption))) (by assumption))
            ·replace hc28 := dF hc28
             refine Y_skip ?_
             iterate 2 refine Y_pick ?_
             refine XD_end ?_
             exact K_cutX (()) (trivial) (.cons (k := 130) rfl (.cons (k := 14) rfl (.cons (k := 83) rfl (.cons (k := 82) rfl (.cons (k := 81) rfl (.cons (k := 80) rfl (.cons (k := 79) rfl (.cons (k := 78) rfl (.cons (k := 77) rfl (.cons (k := 76) rfl (.cons (k := 75) rfl (.cons (k := 74) rfl (.cons (k := 73) rfl (.cons (k := 13) rfl (.cons (k := 12) rfl (.cons (k := 72) rfl (.cons (k := 71) rfl (.cons (k := 68) rfl (.cons (k := 70) rfl (.cons (k := 69) rfl (.cons (k := 65) rfl (.cons (k := 64) rfl (.cons (k := 11) rfl (.cons (k := 10) rfl (.cons (k := 7) rfl (.cons (k := 6) rfl (.cons (k := 5) rfl (.cons (k := 3) rfl (.cons (k := 1) rfl .nil))))))))))))))))))))))))))))) (fun w hw => by first | exact hw | exact hw.c)
         ·replace hc17 := dF hc17
          iterate 2 refine Y_move ?_
          refine Y_cmp ?_
          refine Y_pick ?_
          refine Y_move ?_
          refine XD_part 95 rfl (fun hc30 => ?_) (fun hc30 => ?_)
          ·replace hc30 := dT hc30
           refine Y_fieldAddr F.foff28_3 ?_
           refine Y_load F.lay26 ?_
           refine Y_move ?_
           refine X_indexAddr rfl rfl rfl rfl F.elem26 (by rfl) (by omega) (by exact SlM.plain (by assumption) (by (simp; omega))) rfl ?_
           refine X_load_el rfl rfl rfl (by assumption) (by exact row_map (by omega)) F.lay25 rfl rfl rfl ?_
           refine Y_fieldAddr F.foff28_3 ?_
           refine Y_load F.lay26 ?_
           refine Y_move ?_
           refine X_indexAddr rfl rfl rfl rfl F.elem26 (by rfl) (by omega) (by exact SlM.plain (by assumption) (by (simp; omega))) rfl ?_
           refine X_load_el rfl rfl rfl (by assumption) (by exact row_map (by omega)) F.lay25 rfl rfl rfl ?_
           refine X_same (m := 20) rfl rfl rfl rfl rfl (by constructor) (by constructor) F.lay25 F.kinds25 rfl F.guard25 (by exact FitPeerV _) (by exact FitPeerV _) rfl rfl rfl ?_; intro c31 he32
           replace he32 : c31 = true ↔ ¬ (Segs.cells _ = Segs.cells _) := he32
           obtain rfl := neD he32 (PeerV.inj (x := ⟨_, _⟩) (y := ⟨_, _⟩)); clear he32
           iterate 2 refine Y_pick ?_
           refine Y_move ?_
           refine XD_part 109 rfl (fun hc33 => ?_) (fun hc33 => ?_)
           ·replace hc33 := nT hc33
            simp only [PeerV.eta, TableV.eta, RouteV.eta] at hc33
            (exfalso; first | omega | exact absurd (hF1 (by omega) (by omega)) (by assumption) | exact absurd (hG1 (by omega) (by omega)) (by assumption) | exact absurd (by assumption) (hG2 (by omega) (by omega)) | exact absurd ((hF2 (by omega) (by omega) (by omega)).trans (if_pos (by assumption))) (by assumption) | exact absurd ((hF2 (by omega) (by omega) (by omega)).trans (if_neg (by assumption))) (by assumption))
           ·replace hc33 := nF hc33
            simp only [PeerV.eta, TableV.eta, RouteV.eta] at hc33
            iterate 2 refine Y_move ?_
            refine Y_cmp ?_
            refine Y_move ?_
            refine XD_part 113 rfl (fun hc34 => ?_) (fun hc34 => ?_)
            ·replace hc34 := dT hc34
             iterate 2 refine Y_move ?_
             refine Y_cmp ?_
             refine Y_pick ?_
             refine Y_move ?_
             refine XD_part 118 rfl (fun hc35 => ?_) (fun hc35 => ?_)
             ·replace hc35 := dT hc35
              (exfalso; first | omega | exact absurd (hF1 (by omega) (by omega)) (by assumption) | exact absurd (hG1 (by omega) (by omega)) (by assumption) | exact absurd (by assumption) (hG2 (by omega) (by omega)) | exact absurd ((hF2 (by omega) (by omega) (by omega)).trans (if_pos (by assumption))) (by assumption) | exact absurd ((hF2 (by omega) (by omega) (by omega)).trans (if_neg (by assumption))) (by assumption))
             ·replace hc35 := dF hc35
              iterate 2 refine Y_skip ?_
              iterate 2 refine Y_pick ?_
              iterate 3 refine Y_move ?_
              refine Y_cmp ?_
              refine Y_move ?_
              refine XD_part 127 rfl (fun hc39 => ?_) (fun hc39 => ?_)
              ·replace hc39 := dT hc39
               refine Y_move ?_
               iterate 2 refine Y_pick ?_
               refine XD_end ?_
               refine K_bool 130 rfl (fun hc40 => ?_) (fun hc40 => ?_)
               ·replace hc40 := dT hc40
                (exfalso; first | omega | exact absurd (hF1 (by omega) (by omega)) (by assumption) | exact absurd (hG1 (by omega) (by omega)) (by assumption) | exact absurd (by assumption) (hG2 (by omega) (by omega)) | exact absurd ((hF2 (by omega) (by omega) (by omega)).trans (if_pos (by assumption))) (by assumption) | exact absurd ((hF2 (by omega) (by omega) (by omega)).trans (if_neg (by assumption))) (by assumption))
               ·replace hc40 := dF hc40
                exact K_cutX (()) (trivial) (.cons (k := 130) rfl (.cons (k := 14) rfl (.cons (k := 83) rfl (.cons (k := 82) rfl (.cons (k := 81) rfl (.cons (k := 80) rfl (.cons (k := 79) rfl (.cons (k := 78) rfl (.cons (k := 77) rfl (.cons (k := 76) rfl (.cons (k := 75) rfl (.cons (k := 74) rfl (.cons (k := 73) rfl (.cons (k := 13) rfl (.cons (k := 12) rfl (.cons (k := 72) rfl (.cons (k := 71) rfl (.cons (k := 68) rfl (.cons (k := 70) rfl (.cons (k := 69) rfl (.cons (k := 65) rfl (.cons (k := 64) rfl (.cons (k := 11) rfl (.cons (k := 10) rfl (.cons (k := 7) rfl (.cons (k := 6) rfl (.cons (k := 5) rfl (.cons (k := 3) rfl (.cons (k := 1) rfl .nil))))))))))))))))))))))))))))) (fun w hw => by first | exact hw | exact hw.c)
              ·replace hc39 := dF hc39
               refine Y_skip ?_
               iterate 2 refine Y_pick ?_
               refine XD_end ?_
               exact K_cutX (()) (trivial) (.cons (k := 130) rfl (.cons (k := 14) rfl (.cons (k := 83) rfl (.cons (k := 82) rfl (.cons (k := 81) rfl (.cons (k := 80) rfl (.cons (k := 79) rfl (.cons (k := 78) rfl (.cons (k := 77) rfl (.cons (k := 76) rfl (.cons (k := 75) rfl (.cons (k := 74) rfl (.cons (k := 73) rfl (.cons (k := 13) rfl (.cons (k := 12) rfl (.cons (k := 72) rfl (.cons (k := 71) rfl (.cons (k := 68) rfl (.cons (k := 70) rfl (.cons (k := 69) rfl (.cons (k := 65) rfl (.cons (k := 64) rfl (.cons (k := 11) rfl (.cons (k := 10) rfl (.cons (k := 7) rfl (.cons (k := 6) rfl (.cons (k := 5) rfl (.cons (k := 3) rfl (.cons (k := 1) rfl .nil))))))))))))))))))))))))))))) (fun w hw => by first | exact hw | exact hw.c)
            ·replace hc34 := dF hc34
             (exfalso; first | omega | exact absurd (hF1 (by omega) (by omega)) (by assumption) | exact absurd (hG1 (by omega) (by omega)) (by assumption) | exact absurd (by assumption) (hG2 (by omega) (by omega)) | exact absurd ((hF2 (by omega) (by omega) (by omega)).trans (if_pos (by assumption))) (by assumption) | exact absurd ((hF2 (by omega) (by omega) (by omega)).trans (if_neg (by assumption))) (by assumption))
          ·replace hc30 := dF hc30
           iterate 11 refine Y_skip ?_
           iterate 2 refine Y_pick ?_
           iterate 3 refine Y_move ?_
           refine Y_cmp ?_
           refine Y_move ?_
           refine XD_part 113 rfl (fun hc43 => ?_) (fun hc43 => ?_)
           ·replace hc43 := dT hc43
            iterate 2 refine Y_move ?_
            refine Y_cmp ?_
            refine Y_pick ?_
            refine Y_move ?_
            refine XD_part 118 rfl (fun hc44 => ?_) (fun hc44 => ?_)
            ·replace hc44 := dT hc44
             refine Y_move ?_
             refine Y_not ?_
             iterate 2 refine Y_pick ?_
             refine Y_move ?_
             refine XD_part 123 rfl (fun hc45 => ?_) (fun hc45 => ?_)
             ·replace hc45 := nT hc45
              (exfalso; first | omega | exact absurd (hF1 (by omega) (by omega)) (by assumption) | exact absurd (hG1 (by omega) (by omega)) (by assumption) | exact absurd (by assumption) (hG2 (by omega) (by omega)) | exact absurd ((hF2 (by omega) (by omega) (by omega)).trans (if_pos (by assumption))) (by assumption) | exact absurd ((hF2 (by omega) (by omega) (by omega)).trans (if_neg (by assumption))) (by assumption))
             ·replace hc45 := nF hc45
              iterate 2 refine Y_move ?_
              refine Y_cmp ?_
              refine Y_move ?_
              refine XD_part 127 rfl (fun hc46 => ?_) (fun hc46 => ?_)
              ·replace hc46 := dT hc46
               (exfalso; first | omega | exact absurd (hF1 (by omega) (by omega)) (by assumption) | exact absurd (hG1 (by omega) (by omega)) (by assumption) | exact absurd (by assumption) (hG2 (by omega) (by omega)) | exact absurd ((hF2 (by omega) (by omega) (by omega)).trans (if_pos (by assumption))) (by assumption) | exact absurd ((hF2 (by omega) (by omega) (by omega)).trans (if_neg (by assumption))) (by assumption))
              ·replace hc46 := dF hc46
               refine Y_skip ?_
               iterate 2 refine Y_pick ?_
               refine XD_end ?_
               exact K_cutX (()) (trivial) (.cons (k := 130) rfl (.cons (k := 14) rfl (.cons (k := 83) rfl (.cons (k := 82) rfl (.cons (k := 81) rfl (.cons (k := 80) rfl (.cons (k := 79) rfl (.cons (k := 78) rfl (.cons (k := 77) rfl (.cons (k := 76) rfl (.cons (k := 75) rfl (.cons (k := 74) rfl (.cons (k := 73) rfl (.cons (k := 13) rfl (.cons (k := 12) rfl (.cons (k := 72) rfl (.cons (k := 71) rfl (.cons (k := 68) rfl (.cons (k := 70) rfl (.cons (k := 69) rfl (.cons (k := 65) rfl (.cons (k := 64) rfl (.cons (k := 11) rfl (.cons (k := 10) rfl (.cons (k := 7) rfl (.cons (k := 6) rfl (.cons (k := 5) rfl (.cons (k := 3) rfl (.cons (k := 1) rfl .nil))))))))))))))))))))))))))))) (fun w hw => by first | exact hw | exact hw.c)
            ·replace hc44 := dF hc44
             (exfalso; first | omega | exact absurd (hF1 (by omega) (by omega)) (by assumption) | exact absurd (hG1 (by omega) (by omega)) (by assumption) | exact absurd (by assumption) (hG2 (by omega) (by omega)) | exact absurd ((hF2 (by omega) (by omega) (by omega)).trans (if_pos (by assumption))) (by assumption) | exact absurd ((hF2 (by omega) (by omega) (by omega)).trans (if_neg (by assumption))) (by assumption))
           ·replace hc43 := dF hc43
            iterate 3 refine Y_skip ?_
            refine Y_pick ?_
            refine Y_move ?_
            iterate 2 refine Y_skip ?_
            iterate 2 refine Y_pick ?_
            iterate 3 refine Y_move ?_
            refine Y_cmp ?_
            refine Y_move ?_
            refine XD_part 127 rfl (fun hc50 => ?_) (fun hc50 => ?_)
            ·replace hc50 := dT hc50
             (exfalso; first | omega | exact absurd (hF1 (by omega) (by omega)) (by assumption) | exact absurd (hG1 (by omega) (by omega)) (by assumption) | exact absurd (by assumption) (hG2 (by omega) (by omega)) | exact absurd ((hF2 (by omega) (by omega) (by omega)).trans (if_pos (by assumption))) (by assumption) | exact absurd ((hF2 (by omega) (by omega) (by omega)).trans (if_neg (by assumption))) (by assumption))
            ·replace hc50 := dF hc50
             refine Y_skip ?_
             iterate 2 refine Y_pick ?_
             refine XD_end ?_
             exact K_cutX (()) (trivial) (.cons (k := 130) rfl (.cons (k := 14) rfl (.cons (k := 83) rfl (.cons (k := 82) rfl (.cons (k := 81) rfl (.cons (k := 80) rfl (.cons (k := 79) rfl (.cons (k := 78) rfl (.cons (k := 77) rfl (.cons (k := 76) rfl (.cons (k := 75) rfl (.cons (k := 74) rfl (.cons (k := 73) rfl (.cons (k := 13) rfl (.cons (k := 12) rfl (.cons (k := 72) rfl (.cons (k := 71) rfl (.cons (k := 68) rfl (.cons (k := 70) rfl (.cons (k := 69) rfl (.cons (k := 65) rfl (.cons (k := 64) rfl (.cons (k := 11) rfl (.cons (k := 10) rfl (.cons (k := 7) rfl (.cons (k := 6) rfl (.cons (k := 5) rfl (.cons (k := 3) rfl (.cons (k := 1) rfl .nil))))))))))))))))))))))))))))) (fun w hw => by first | exact hw | exact hw.c)
       ·rintro _ -
        refine C_false rfl ?_
        refine C_skip ?_
        refine K_then ?_
        refine C_seq ?_
        refine C_cutX (α := Unit) (fun _ => [(168, .bool false)]) (fun _ => True) (.cons (k := 130) rfl (.cons (k := 14) rfl (.cons (k := 83) rfl (.cons (k := 82) rfl (.cons (k := 81) rfl (.cons (k := 80) rfl (.cons (k := 79) rfl (.cons (k := 78) rfl (.cons (k := 77) rfl (.cons (k := 76) rfl (.cons (k := 75) rfl (.cons (k := 74) rfl (.cons (k := 73) rfl (.cons (k := 13) rfl (.cons (k := 12) rfl (.cons (k := 72) rfl (.cons (k := 71) rfl (.cons (k := 68) rfl (.cons (k := 70) rfl (.cons (k := 69) rfl (.cons (k := 65) rfl (.cons (k := 64) rfl (.cons (k := 11) rfl (.cons (k := 10) rfl (.cons (k := 7) rfl (.cons (k := 6) rfl (.cons (k := 5) rfl (.cons (k := 3) rfl (.cons (k := 1) rfl .nil))))))))))))))))))))))))))))) ?_ ?_
        ·skip
         refine C_region_any (l := [0, 1, 2, 3, 4, 5, 6, 7, 8, 9, 10, 11, 12, 13, 14, 15, 16, 17, 18, 19, 20, 21, 22, 23, 24, 25, 26, 27, 28, 29, 30, 31, 32, 33, 34, 35, 36, 37]) #[0, 0, 3, 7, 15, 15, 63, 127, 255, 511, 511, 1535, 4095, 8191, 16383, 32767, 16383, 131071, 262143, 16383, 1048575, 2097151, 4194303, 8388607, 8388607, 25165823, 67108863, 134217727, 268435455, 536870911, 268435455, 2147483647, 4294967295, 268435455, 17179869183, 34359738367, 68719476735, 137438953471] _ rfl (by kernel_rfl) (by kernel_rfl) St.drawn (fun _ h => h) ?_
         iterate 2 refine Y_move ?_
         refine Y_cmp ?_
         refine Y_move ?_
         refine XD_part 134 rfl (fun hc52 => ?_) (fun hc52 => ?_)
         ·replace hc52 := dT hc52
          iterate 2 refine Y_move ?_
          refine Y_cmp ?_
          refine Y_pick ?_
          refine Y_move ?_
          refine XD_part 139 rfl (fun hc53 => ?_) (fun hc53 => ?_)
          ·replace hc53 := dT hc53
           refine Y_load F.lay25 ?_
           refine Y_fieldAddr F.foff28_0 ?_
           refine Y_load F.lay25 ?_
           refine X_same (m := 20) rfl rfl rfl rfl rfl (by constructor) (by constructor) F.lay25 F.kinds25 rfl F.guard25 (by exact FitPeerV (⟨_, _⟩)) (by exact FitPeerV (⟨_, _⟩)) rfl rfl rfl ?_; intro c54 he55
           replace he55 : c54 = true ↔ Segs.cells _ = Segs.cells _ := he55
           obtain rfl := eqD he55 (PeerV.inj (x := ⟨_, _⟩) (y := ⟨_, _⟩)); clear he55
           refine Y_move ?_
           refine XD_part 144 rfl (fun hc56 => ?_) (fun hc56 => ?_)
           ·replace hc56 := dT hc56
            refine Y_fieldAddr F.foff28_3 ?_
            refine Y_load F.lay26 ?_
            refine Y_move ?_
            refine X_indexAddr rfl rfl rfl rfl F.elem26 (by rfl) (by omega) (by exact SlM.plain (by assumption) (by (simp; omega))) rfl ?_
            refine X_load_el rfl rfl rfl (by assumption) (by exact row_map (by omega)) F.lay25 rfl rfl rfl ?_
            refine X_fs rfl rfl F.ok43 rfl (rNone_ok _) rfl ?_
            rintro _ rfl
            refine XD_is 150 rfl (show _ = aggV [.one (.int .i64 (-1)), idSeg 0] from rfl) ?_
            refine X_same (m := 20) rfl rfl rfl rfl rfl (by constructor) (by constructor) F.lay25 F.kinds25 rfl F.guard25 (by exact FitPeerV _) (by exact FitPeerV (⟨_, _⟩)) rfl rfl rfl ?_; intro c57 he58
            replace he58 : c57 = true ↔ ¬ (Segs.cells _ = Segs.cells _) := he58
            obtain rfl := neD he58 (PeerV.inj (x := ⟨_, _⟩) (y := ⟨_, _⟩)); clear he58
            refine Y_pick ?_
            refine Y_move ?_
            refine XD_part 153 rfl (fun hc59 => ?_) (fun hc59 => ?_)
            ·replace hc59 := nT hc59
             simp only [PeerV.eta, TableV.eta, RouteV.eta] at hc59
             (exfalso; first | omega | exact absurd (hF1 (by omega) (by omega)) (by assumption) | exact absurd (hG1 (by omega) (by omega)) (by assumption) | exact absurd (by assumption) (hG2 (by omega) (by omega)) | exact absurd ((hF2 (by omega) (by omega) (by omega)).trans (if_pos (by assumption))) (by assumption) | exact absurd ((hF2 (by omega) (by omega) (by omega)).trans (if_neg (by assumption))) (by assumption))
            ·replace hc59 := nF hc59
             simp only [PeerV.eta, TableV.eta, RouteV.eta] at hc59
             refine Y_load F.lay25 ?_
             refine Y_fieldAddr F.foff28_0 ?_
             refine Y_load F.lay25 ?_
             refine X_same (m := 20) rfl rfl rfl rfl rfl (by constructor) (by constructor) F.lay25 F.kinds25 rfl F.guard25 (by exact FitPeerV (⟨_, _⟩)) (by exact FitPeerV (⟨_, _⟩)) rfl rfl rfl ?_; intro c60 he61
             replace he61 : c60 = true ↔ ¬ (Segs.cells _ = Segs.cells _) := he61
             obtain rfl := neD he61 (PeerV.inj (x := ⟨_, _⟩) (y := ⟨_, _⟩)); clear he61
             refine Y_move ?_
             refine XD_part 158 rfl (fun hc62 => ?_) (fun hc62 => ?_)
             ·replace hc62 := nT hc62
              contradiction
             ·replace hc62 := nF hc62
              iterate 7 refine Y_skip ?_
              iterate 3 refine Y_pick ?_
              refine XD_end ?_
              exact K_cutX (()) (trivial) (.cons (k := 168) rfl (.cons (k := 130) rfl (.cons (k := 14) rfl (.cons (k := 83) rfl (.cons (k := 82) rfl (.cons (k := 81) rfl (.cons (k := 80) rfl (.cons (k := 79) rfl (.cons (k := 78) rfl (.cons (k := 77) rfl (.cons (k := 76) rfl (.cons (k := 75) rfl (.cons (k := 74) rfl (.cons (k := 73) rfl (.cons (k := 13) rfl (.cons (k := 12) rfl (.cons (k := 72) rfl (.cons (k := 71) rfl (.cons (k := 68) rfl (.cons (k := 70) rfl (.cons (k := 69) rfl (.cons (k := 65) rfl (.cons (k := 64) rfl (.cons (k := 11) rfl (.cons (k := 10) rfl (.cons (k := 7) rfl (.cons (k := 6) rfl (.cons (k := 5) rfl (.cons (k := 3) rfl (.cons (k := 1) rfl .nil)))))))))))))))))))))))))))))) (fun w hw => by first | exact hw | exact hw.c)
           ·replace hc56 := dF hc56
            iterate 7 refine Y_skip ?_
            refine Y_pick ?_
            refine Y_move ?_
            refine Y_load F.lay25 ?_
            refine Y_fieldAddr F.foff28_0 ?_
            refine Y_load F.lay25 ?_
            refine X_same (m := 20) rfl rfl rfl rfl rfl (by constructor) (by constructor) F.lay25 F.kinds25 rfl F.guard25 (by exact FitPeerV (⟨_, _⟩)) (by exact FitPeerV (⟨_, _⟩)) rfl rfl rfl ?_; intro c66 he67
            replace he67 : c66 = true ↔ ¬ (Segs.cells _ = Segs.cells _) := he67
            obtain rfl := neD he67 (PeerV.inj (x := ⟨_, _⟩) (y := ⟨_, _⟩)); clear he67
            refine Y_move ?_
            refine XD_part 158 rfl (fun hc68 => ?_) (fun hc68 => ?_)
            ·replace hc68 := nT hc68
             refine Y_fieldAddr F.foff28_3 ?_
             refine Y_load F.lay26 ?_
             refine Y_move ?_
             refine X_indexAddr rfl rfl rfl rfl F.elem26 (by rfl) (by omega) (by exact SlM.plain (by assumption) (by (simp; omega))) rfl ?_
             refine X_load_el rfl rfl rfl (by assumption) (by exact row_map (by omega)) F.lay25 rfl rfl rfl ?_
             refine Y_load F.lay25 ?_
             refine X_same (m := 20) rfl rfl rfl rfl rfl (by constructor) (by constructor) F.lay25 F.kinds25 rfl F.guard25 (by exact FitPeerV _) (by exact FitPeerV (⟨_, _⟩)) rfl rfl rfl ?_; intro c69 he70
             replace he70 : c69 = true ↔ ¬ (Segs.cells _ = Segs.cells _) := he70
             obtain rfl := neD he70 (PeerV.inj (x := ⟨_, _⟩) (y := ⟨_, _⟩)); clear he70
             iterate 3 refine Y_pick ?_
             refine XD_end ?_
             refine K_bool 168 rfl (fun hc71 => ?_) (fun hc71 => ?_)
             ·replace hc71 := nT hc71
              simp only [PeerV.eta, TableV.eta, RouteV.eta] at hc71
              (exfalso; first | omega | exact absurd (hF1 (by omega) (by omega)) (by assumption) | exact absurd (hG1 (by omega) (by omega)) (by assumption) | exact absurd (by assumption) (hG2 (by omega) (by omega)) | exact absurd ((hF2 (by omega) (by omega) (by omega)).trans (if_pos (by assumption))) (by assumption) | exact absurd ((hF2 (by omega) (by omega) (by omega)).trans (if_neg (by assumption))) (by assumption))
             ·replace hc71 := nF hc71
              simp only [PeerV.eta, TableV.eta, RouteV.eta] at hc71
              exact K_cutX (()) (trivial) (.cons (k := 168) rfl (.cons (k := 130) rfl (.cons (k := 14) rfl (.cons (k := 83) rfl (.cons (k := 82) rfl (.cons (k := 81) rfl (.cons (k := 80) rfl (.cons (k := 79) rfl (.cons (k := 78) rfl (.cons (k := 77) rfl (.cons (k := 76) rfl (.cons (k := 75) rfl (.cons (k := 74) rfl (.cons (k := 73) rfl (.cons (k := 13) rfl (.cons (k := 12) rfl (.cons (k := 72) rfl (.cons (k := 71) rfl (.cons (k := 68) rfl (.cons (k := 70) rfl (.cons (k := 69) rfl (.cons (k := 65) rfl (.cons (k := 64) rfl (.cons (k := 11) rfl (.cons (k := 10) rfl (.cons (k := 7) rfl (.cons (k := 6) rfl (.cons (k := 5) rfl (.cons (k := 3) rfl (.cons (k := 1) rfl .nil)))))))))))))))))))))))))))))) (fun w hw => by first | exact hw | exact hw.c)
            ·replace hc68 := nF hc68
             contradiction
          ·replace hc53 := dF hc53
           iterate 28 refine Y_skip ?_
           refine Y_pick ?_
           refine XD_end ?_
           exact K_cutX (()) (trivial) (.cons (k := 168) rfl (.cons (k := 130) rfl (.cons (k := 14) rfl (.cons (k := 83) rfl (.cons (k := 82) rfl (.cons (k := 81) rfl (.cons (k := 80) rfl (.cons (k := 79) rfl (.cons (k := 78) rfl (.cons (k := 77) rfl (.cons (k := 76) rfl (.cons (k := 75) rfl (.cons (k := 74) rfl (.cons (k := 73) rfl (.cons (k := 13) rfl (.cons (k := 12) rfl (.cons (k := 72) rfl (.cons (k := 71) rfl (.cons (k := 68) rfl (.cons (k := 70) rfl (.cons (k := 69) rfl (.cons (k := 65) rfl (.cons (k := 64) rfl (.cons (k := 11) rfl (.cons (k := 10) rfl (.cons (k := 7) rfl (.cons (k := 6) rfl (.cons (k := 5) rfl (.cons (k := 3) rfl (.cons (k := 1) rfl .nil)))))))))))))))))))))))))))))) (fun w hw => by first | exact hw | exact hw.c)
         ·replace hc52 := dF hc52
          iterate 3 refine Y_skip ?_
          refine Y_pick ?_
          refine Y_move ?_
          iterate 28 refine Y_skip ?_
          refine Y_pick ?_
          refine XD_end ?_
          exact K_cutX (()) (trivial) (.cons (k := 168) rfl (.cons (k := 130) rfl (.cons (k := 14) rfl (.cons (k := 83) rfl (.cons (k := 82) rfl (.cons (k := 81) rfl (.cons (k := 80) rfl (.cons (k := 79) rfl (.cons (k := 78) rfl (.cons (k := 77) rfl (.cons (k := 76) rfl (.cons (k := 75) rfl (.cons (k := 74) rfl (.cons (k := 73) rfl (.cons (k := 13) rfl (.cons (k := 12) rfl (.cons (k := 72) rfl (.cons (k := 71) rfl (.cons (k := 68) rfl (.cons (k := 70) rfl (.cons (k := 69) rfl (.cons (k := 65) rfl (.cons (k := 64) rfl (.cons (k := 11) rfl (.cons (k := 10) rfl (.cons (k := 7) rfl (.cons (k := 6) rfl (.cons (k := 5) rfl (.cons (k := 3) rfl (.cons (k := 1) rfl .nil)))))))))))))))))))))))))))))) (fun w hw => by first | exact hw | exact hw.c)
        ·rintro _ -
         refine C_false rfl ?_
         refine C_skip ?_
         refine K_out ?_
         refine K_then ?_
         refine C_region (l := [0, 1, 2]) rfl ?_
         refine Y_move ?_
         refine X_ari rfl rfl rfl rfl rfl (by exact wrap_in (by decide) (by omega)) rfl ?_
         refine Y_assign ?_
         refine XD_end ?_
         refine K_roundS (a' := [(11, _)]) (j + 1) (.cons (k := 11) rfl (.cons (k := 10) rfl (.cons (k := 7) rfl (.cons (k := 6) rfl (.cons (k := 5) rfl (.cons (k := 3) rfl (.cons (k := 1) rfl (.nil)))))))) (fun w hw => by first | exact hw | exact hw.c) ?_ ?_
         ·exact ⟨rfl, by omega⟩
         ·omega
      ·replace hc14 := dF hc14
       refine C_exit ?_
       iterate 2 refine K_exit ?_
       refine K_hit ?_
       refine K_then ?_
       refine Y_pk [7, 6, 3] ?_
       refine C_seq ?_
       refine C_region (l := [0, 1, 2, 3, 4, 5, 6, 7, 8, 9, 10, 11, 12, 13, 14, 15]) rfl ?_
       refine X_fn rfl rfl F.ok23 rfl (tabled_ok _) rfl ?_
       rintro _ M3 hm3 rfl
       refine Y_move ?_
       refine XD_part 170 rfl (fun hc72 => ?_) (fun hc72 => ?_)
       ·skip
        simp only [PeerV.eta, TableV.eta, RouteV.eta] at hc72
        refine Y_fieldAddr F.foff28_1 ?_
        refine Y_load F.lay25 ?_
        refine Y_fieldAddr F.foff28_1 ?_
        refine Y_load F.lay25 ?_
        refine X_same (m := 20) rfl rfl rfl rfl rfl (by constructor) (by constructor) F.lay25 F.kinds25 rfl F.guard25 (by exact FitPeerV (⟨_, _⟩)) (by exact FitPeerV (⟨_, _⟩)) rfl rfl rfl ?_; intro c73 he74
        replace he74 : c73 = true ↔ Segs.cells _ = Segs.cells _ := he74
        obtain rfl := eqD he74 (PeerV.inj (x := ⟨_, _⟩) (y := ⟨_, _⟩)); clear he74
        refine Y_pick ?_
        refine Y_move ?_
        refine XD_part 177 rfl (fun hc75 => ?_) (fun hc75 => ?_)
        ·replace hc75 := dT hc75
         refine Y_fieldAddr F.foff28_2 ?_
         refine Y_load F.lay26 ?_
         refine Y_fieldAddr F.foff28_2 ?_
         refine Y_load F.lay26 ?_
         refine X_fs rfl rfl F.ok37 rfl (SameP_ok _ ⟨s6a, s6c, s6l⟩ ⟨t_succ_a, t_succ_c, t_succ_l⟩ (ok6.h0.mono hm3) (k_t_succ.mono (hm6.trans hm3))) rfl ?_
         rintro _ hv
         simp only [hs6, decide_true] at hv
         subst hv
         refine Y_pick ?_
         refine Y_assign ?_
         refine XD_end ?_
         refine K_then ?_
         refine Y_pk [6] ?_
         refine C_ret ?_
         refine K_end (.inr rfl) (.tmp rfl .nil) (fun w hw => ?_)
         refine ⟨_, _, rfl, (by (repeat first | assumption | refine Mem.le.trans (by assumption) ?_)), hw.c, ?_⟩
         clear hw
         rfl
        ·replace hc75 := dF hc75
         contradiction
       ·skip
        (exfalso; simp [eqX] at hc72; done)

end Go.Proofs.Ytbjklbmmchiahaa
