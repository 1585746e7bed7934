/-
  Texts of this claim, one behind the other: T15, TableS, T16, SortL, SortM, T17, T18, T19, SmallN, T20, TableL, TableN, Rules8, WalkM, V1, V2, V3, V4, CircleN.
-/
import Derived.Test.YtbjklbmmchiahaaPw3
import Derived.Shelf.SlSortCmp.WholeK
import Derived.Shelf.SlGeneric
import Derived.Ground.SlsfProg
import Derived.Test.YtbjklbmmchiahaaRows
import Derived.Scope
import Derived.Lib.AppendZeros
/-
  Who is known, by the document.
-/
set_option linter.unusedSimpArgs false
set_option linter.unusedVariables false
set_option linter.unnecessarySimpa false
set_option maxRecDepth 8000
set_option maxHeartbeats 1000000
namespace Go.Proofs.Ytbjklbmmchiahaa
open Go.Esp


theorem rKnown_ok (M : Mem) (t : TableV) (ht0 : TableV.ok M t) (hbig : t.succ.l.length ≤ 40 ∧ t.fingers.l.length ≤ 200) : Esp.Fn Try.prog 39 [t.enc] M (fun M' v => PsIs M' v (knownT t.tb)) := by
  obtain ⟨⟨t_self_addr, t_self_id⟩, ⟨t_pred_addr, t_pred_id⟩, ⟨t_succ_a, t_succ_c, t_succ_l⟩, ⟨t_fingers_a, t_fingers_c, t_fingers_l⟩⟩ := t
  have k_t_succ : SlK M PeerV.segs 21 ⟨t_succ_a, t_succ_c, t_succ_l⟩ := ht0.h0
  have s_t_succ : SlM M t_succ_a (t_succ_l.map PeerV.segs) 21 := k_t_succ.h1
  have n_t_succ : (t_succ_l.map PeerV.segs).length = t_succ_l.length := List.length_map ..
  have m_t_succ : t_succ_l.length ≤ 9223372036854775807 := k_t_succ.h2
  have c_t_succ : t_succ_l.length ≤ t_succ_c := k_t_succ.h3
  have k_t_fingers : SlK M PeerV.segs 21 ⟨t_fingers_a, t_fingers_c, t_fingers_l⟩ := ht0.h1
  have s_t_fingers : SlM M t_fingers_a (t_fingers_l.map PeerV.segs) 21 := k_t_fingers.h1
  have n_t_fingers : (t_fingers_l.map PeerV.segs).length = t_fingers_l.length := List.length_map ..
  have m_t_fingers : t_fingers_l.length ≤ 9223372036854775807 := k_t_fingers.h2
  have c_t_fingers : t_fingers_l.length ≤ t_fingers_c := k_t_fingers.h3
  simp only at hbig
  refine fn_enter Try.func39 rfl Try.ntmps39 rfl ?_; intro H
  refine C_seq ?_
  refine C_region (l := [0, 1]) rfl ?_
  refine Y_box ?_; intro b1
  refine Y_assign ?_
  refine XD_end ?_
  refine K_then ?_
  refine Y_pk [2, 1] ?_
  refine C_seq ?_
  refine C_region (l := [0, 1, 2, 3]) rfl ?_
  refine Y_fieldAddr F.foff28_1 ?_
  refine Y_load F.lay25 ?_
  refine X_buildSliceF rfl rfl F.elem26 F.zero25 rfl rfl (.cons rfl (by constructor) .nil) rfl rfl (by simp only [List.map_cons, List.map_nil] <;> rfl) rfl ?_; intro b2 hob3
  refine Y_assign ?_
  refine XD_end ?_
  refine K_then ?_
  refine Y_pk [3, 2, 1] ?_
  refine C_seq ?_
  refine C_region (l := [0, 1, 2, 3, 4]) rfl ?_
  refine Y_move ?_
  refine Y_fieldAddr F.foff28_2 ?_
  refine Y_load F.lay26 ?_
  refine X_appendK (m := 1000000) rfl rfl rfl rfl rfl F.elem26 F.zero25 (by exact agg_size rfl) rfl (by assumption) (by repeat first | exact Rem.here _ | exact Rem.two | apply Rem.skip | apply Rem.over) (s_t_succ) PeerV.flat (by (simp; omega)) (by decide) rfl ?_; intro v6 hs5 ho4; obtain ⟨adv6, cpv6, rfl⟩ := ho4.valAt (n := 1 + t_succ_l.length) (by (simp; omega))
  refine Y_assign ?_
  refine XD_end ?_
  refine K_then ?_
  refine Y_pk [3, 2, 1] ?_
  refine C_seq ?_
  refine C_region (l := [0, 1, 2, 3, 4]) rfl ?_
  refine Y_move ?_
  refine Y_fieldAddr F.foff28_3 ?_
  refine Y_load F.lay26 ?_
  refine X_appendK (m := 1000000) rfl rfl rfl rfl rfl F.elem26 F.zero25 (by exact agg_size rfl) rfl (by assumption) (by repeat first | exact Rem.here _ | exact Rem.two | apply Rem.skip | apply Rem.over) (s_t_fingers) PeerV.flat (by (simp; omega)) (by decide) rfl ?_; intro v9 hs8 ho7; obtain ⟨adv9, cpv9, rfl⟩ := ho7.valAt (n := (1 + t_succ_l.length + t_fingers_l.length)) (by (simp; omega))
  refine Y_assign ?_
  refine XD_end ?_
  refine K_then ?_
  refine Y_pk [3, 2, 1] ?_
  refine C_seq ?_
  obtain ⟨all, hall⟩ : ∃ all : List PeerV, all = (⟨t_pred_addr, t_pred_id⟩ :: (t_succ_l ++ t_fingers_l)) := ⟨_, rfl⟩
  have nal : all.length = (1 + t_succ_l.length + t_fingers_l.length) := by rw [hall]; simp only [List.length_cons, List.length_append]; omega
  have hml : (all.map PeerV.segs).length = all.length := List.length_map ..
  replace ho7 : OSl 25 21 (.slice adv9 (1 + t_succ_l.length + t_fingers_l.length) cpv9) hs8 (all.map PeerV.segs) := by rw [hall]; have h9 := ho7; simp only [List.map_cons, List.map_append, List.cons_append, List.nil_append, List.append_assoc, List.map_take, List.map_drop] at h9 ⊢; exact h9
  refine C_frz ho7 (by repeat first | exact Rem.here _ | exact Rem.two | apply Rem.skip | apply Rem.over) (fun M1 hm1 k_all => ?_)
  have s_all := k_all.h1
  refine C_region (l := [0]) rfl ?_
  refine Y_assign ?_
  refine XD_end ?_
  refine K_then ?_
  iterate 2 refine C_seq ?_
  refine C_region (l := [0]) rfl ?_
  refine Y_assign ?_
  refine XD_end ?_
  refine K_then ?_
  refine C_block ?_
  refine Y_pk [5, 4, 3, 2, 1] ?_
  refine C_loopO (Hin := []) (.succ (.succ .zero)) (by repeat first | exact Rem.here _ | exact Rem.two | apply Rem.skip | apply Rem.over) (fun (k : Nat) M9 h1 z => ∃ s : Sl PeerV, h1 = [] ∧ z = [(5, .int .i64 (k : Int)), (4, s.val)] ∧ k ≤ all.length ∧ SlK M9 PeerV.segs 21 s ∧ s.l.length ≤ k ∧ s.l = (all.take (k)).foldl (knownStep ⟨t_self_addr, t_self_id⟩) []) (fun k => all.length - k) (0) (⟨⟨none, 0, []⟩, rfl, rfl, by omega, SlK.nil, by simp, rfl⟩) ?_
  rintro k M2 h1 z hm2 ⟨⟨out_a, out_c, out_l⟩, rfl, rfl, hk, k_out, hol, hI⟩
  simp only at hol hI
  have s_out := k_out.h1
  have n_out : (out_l.map PeerV.segs).length = out_l.length := List.length_map ..
  have m_out := k_out.h2
  have c_out := k_out.h3
  simp only at m_out c_out
  have s_all2 := s_all.mono hm2
  iterate 2 refine C_seq ?_
  refine C_region (l := [0, 1, 2, 3]) rfl ?_
  iterate 2 refine Y_move ?_
  refine Y_len_sl F.elem26 ?_
  refine Y_cmp ?_
  refine XD_end ?_
  refine K_then ?_
  refine C_cond rfl (fun hc10 => ?_) (fun hc10 => ?_)
  ·replace hc10 := dT hc10
   refine C_skip ?_
   refine K_then ?_
   refine C_seq ?_
   refine C_block ?_
   refine C_seq ?_
   refine C_region (l := [0, 1, 2, 3, 4, 5]) rfl ?_
   iterate 2 refine Y_move ?_
   refine X_indexAddr rfl rfl rfl rfl F.elem26 (by rfl) (by omega) (by exact SlM.plain (by assumption) (by (simp; omega))) rfl ?_
   refine X_load_el rfl rfl rfl (by assumption) (by exact row_map (by (simp; omega))) F.lay25 rfl rfl rfl ?_
   refine Y_alloc F.zero25 ?_; intro b11
   refine Y_store F.lay25 ?_
   refine XD_end ?_
   refine K_then ?_
   iterate 2 refine C_seq ?_
   refine C_region (l := [0, 1, 2, 3, 4, 5, 6, 7, 8, 9, 10, 11, 12, 13, 14, 15, 16]) rfl ?_
   refine Y_fieldAddr F.foff25_0 ?_
   refine Y_load F.lay3 ?_
   refine Y_cmp ?_
   refine Y_move ?_
   refine XD_part 33 rfl (fun hc12 => ?_) (fun hc12 => ?_)
   ·replace hc12 := dT hc12
    simp only [PeerV.eta, TableV.eta, RouteV.eta] at hc12
    iterate 6 refine Y_skip ?_
    refine Y_pick ?_
    refine Y_move ?_
    iterate 4 refine Y_skip ?_
    refine Y_pick ?_
    refine XD_end ?_
    refine K_then ?_
    refine C_true rfl ?_
    refine C_exit ?_
    refine K_exit ?_
    refine K_hit ?_
    refine K_then ?_
    refine C_region (l := [0, 1, 2]) rfl ?_
    refine Y_move ?_
    refine X_ari rfl rfl rfl rfl rfl (by exact wrap_in (by decide) (by omega)) rfl ?_
    refine Y_assign ?_
    refine XD_end ?_
    refine K_roundO (a' := [(5, _), (4, _)]) (k + 1) ([]) (.cons (k := 5) rfl (.cons (k := 4) rfl (.cons (k := 3) rfl (.cons (k := 2) rfl (.cons (k := 1) rfl (.nil)))))) hm2 (fun w hw => by first | exact hw | exact hw.c) ?_ ?_
    ·refine ⟨⟨out_a, out_c, out_l⟩, rfl, rfl, by omega, k_out, by simp only; omega, ?_⟩
     simp only
     rw [foldl_take (by omega : k < all.length), ← hI]; unfold knownStep; rw [if_pos (by exact .inl (by omega))]
    ·omega
   ·replace hc12 := dF hc12
    simp only [PeerV.eta, TableV.eta, RouteV.eta] at hc12
    refine Y_fieldAddr F.foff25_0 ?_
    refine Y_load F.lay3 ?_
    refine Y_fieldAddr F.foff28_0 ?_
    refine Y_fieldAddr F.foff25_0 ?_
    refine Y_load F.lay3 ?_
    refine Y_cmp ?_
    refine Y_pick ?_
    refine Y_move ?_
    refine XD_part 41 rfl (fun hc13 => ?_) (fun hc13 => ?_)
    ·replace hc13 := dT hc13
     simp only [PeerV.eta, TableV.eta, RouteV.eta] at hc13
     iterate 4 refine Y_skip ?_
     refine Y_pick ?_
     refine XD_end ?_
     refine K_then ?_
     refine C_true rfl ?_
     refine C_exit ?_
     refine K_exit ?_
     refine K_hit ?_
     refine K_then ?_
     refine C_region (l := [0, 1, 2]) rfl ?_
     refine Y_move ?_
     refine X_ari rfl rfl rfl rfl rfl (by exact wrap_in (by decide) (by omega)) rfl ?_
     refine Y_assign ?_
     refine XD_end ?_
     refine K_roundO (a' := [(5, _), (4, _)]) (k + 1) ([]) (.cons (k := 5) rfl (.cons (k := 4) rfl (.cons (k := 3) rfl (.cons (k := 2) rfl (.cons (k := 1) rfl (.nil)))))) hm2 (fun w hw => by first | exact hw | exact hw.c) ?_ ?_
     ·refine ⟨⟨out_a, out_c, out_l⟩, rfl, rfl, by omega, k_out, by simp only; omega, ?_⟩
      simp only
      rw [foldl_take (by omega : k < all.length), ← hI]; unfold knownStep; rw [if_pos (by exact .inr (.inl (by assumption)))]
     ·omega
    ·replace hc13 := dF hc13
     simp only [PeerV.eta, TableV.eta, RouteV.eta] at hc13
     refine Y_move ?_
     refine Y_fieldAddr F.foff25_0 ?_
     refine Y_load F.lay3 ?_
     refine X_fs rfl rfl F.ok66 rfl (rhas_ok _ ⟨_, _, _⟩ _ k_out) rfl ?_
     rintro _ rfl
     refine Y_pick ?_
     refine XD_end ?_
     refine K_then ?_
     refine C_cond rfl (fun hc14 => ?_) (fun hc14 => ?_)
     ·replace hc14 := dT hc14
      simp only [PeerV.eta, TableV.eta, RouteV.eta] at hc14
      refine C_exit ?_
      refine K_exit ?_
      refine K_hit ?_
      refine K_then ?_
      refine C_region (l := [0, 1, 2]) rfl ?_
      refine Y_move ?_
      refine X_ari rfl rfl rfl rfl rfl (by exact wrap_in (by decide) (by omega)) rfl ?_
      refine Y_assign ?_
      refine XD_end ?_
      refine K_roundO (a' := [(5, _), (4, _)]) (k + 1) ([]) (.cons (k := 5) rfl (.cons (k := 4) rfl (.cons (k := 3) rfl (.cons (k := 2) rfl (.cons (k := 1) rfl (.nil)))))) hm2 (fun w hw => by first | exact hw | exact hw.c) ?_ ?_
      ·refine ⟨⟨out_a, out_c, out_l⟩, rfl, rfl, by omega, k_out, by simp only; omega, ?_⟩
       simp only
       rw [foldl_take (by omega : k < all.length), ← hI]; unfold knownStep; rw [if_pos (by exact .inr (.inr (by assumption)))]
      ·omega
     ·replace hc14 := dF hc14
      simp only [PeerV.eta, TableV.eta, RouteV.eta] at hc14
      refine C_skip ?_
      refine K_then ?_
      refine C_seq ?_
      refine C_region (l := [0]) rfl ?_
      refine Y_assign ?_
      refine XD_end ?_
      refine K_then ?_
      refine C_seq ?_
      refine C_region (l := [0]) rfl ?_
      refine Y_assign ?_
      refine XD_end ?_
      refine K_then ?_
      refine C_seq ?_
      refine C_block ?_
      refine Y_pk [8, 7, 46, 45, 44, 43, 42, 41, 40, 39, 38, 37, 36, 35, 34, 33, 32, 31, 30, 6, 29, 28, 27, 26, 23, 22, 21, 20, 5, 4, 3, 2, 1] ?_
      refine C_loopS (.succ .zero) (fun (i : Nat) z => z = [(8, .int .i64 (i : Int))] ∧ i ≤ out_l.length ∧ ∀ j (h : j < i) (h2 : j < out_l.length), out_l[j].addr < all[k].addr) (fun i => out_l.length - i) (0) (⟨rfl, by omega, by intro j hj; omega⟩) ?_
      rintro at9 _ ⟨rfl, hat, hJ⟩
      have k_tk := k_out.take at9 hat
      have k_dr := k_out.drop at9 hat
      iterate 2 refine C_seq ?_
      refine C_region_any (l := [0, 1, 2, 3, 4, 5, 6, 7, 8, 9, 10, 11, 12, 13]) #[0, 0, 2, 7, 15, 31, 31, 127, 255, 511, 31, 1055, 4095, 8191] _ rfl (by kernel_rfl) (by kernel_rfl) St.drawn (fun _ h => h) ?_
      iterate 2 refine Y_move ?_
      refine Y_len_sl F.elem26 ?_
      refine Y_cmp ?_
      refine Y_move ?_
      refine XD_part 51 rfl (fun hc15 => ?_) (fun hc15 => ?_)
      ·replace hc15 := dT hc15
       iterate 2 refine Y_move ?_
       refine X_indexAddr rfl rfl rfl rfl F.elem26 (by rfl) (by omega) (by exact SlM.plain (by assumption) (by (simp; omega))) rfl ?_
       refine X_fieldAddr_el rfl rfl rfl (by exact SlM.plain (by assumption) (by (simp; omega))) F.foff25_0 rfl ?_
       refine X_load_el rfl rfl rfl (by assumption) (by exact row_map (by (simp; omega))) F.lay3 rfl rfl rfl ?_
       refine Y_fieldAddr F.foff25_0 ?_
       refine Y_load F.lay3 ?_
       refine Y_cmp ?_
       refine Y_pick ?_
       refine XD_end ?_
       refine K_then ?_
       refine C_cond rfl (fun hc16 => ?_) (fun hc16 => ?_)
       ·replace hc16 := dT hc16
        simp only [PeerV.eta, TableV.eta, RouteV.eta] at hc16
        refine C_skip ?_
        refine K_then ?_
        refine C_block ?_
        refine C_region (l := [0, 1, 2]) rfl ?_
        refine Y_move ?_
        refine X_ari rfl rfl rfl rfl rfl (by exact wrap_in (by decide) (by omega)) rfl ?_
        refine Y_assign ?_
        refine XD_end ?_
        refine K_out ?_
        refine K_roundS (a' := [(8, _)]) (at9 + 1) (.cons (k := 8) rfl (.cons (k := 7) rfl (.cons (k := 46) rfl (.cons (k := 45) rfl (.cons (k := 44) rfl (.cons (k := 43) rfl (.cons (k := 42) rfl (.cons (k := 41) rfl (.cons (k := 40) rfl (.cons (k := 39) rfl (.cons (k := 38) rfl (.cons (k := 37) rfl (.cons (k := 36) rfl (.cons (k := 35) rfl (.cons (k := 34) rfl (.cons (k := 33) rfl (.cons (k := 32) rfl (.cons (k := 31) rfl (.cons (k := 30) rfl (.cons (k := 6) rfl (.cons (k := 29) rfl (.cons (k := 28) rfl (.cons (k := 27) rfl (.cons (k := 26) rfl (.cons (k := 23) rfl (.cons (k := 22) rfl (.cons (k := 21) rfl (.cons (k := 20) rfl (.cons (k := 5) rfl (.cons (k := 4) rfl (.cons (k := 3) rfl (.cons (k := 2) rfl (.cons (k := 1) rfl (.nil)))))))))))))))))))))))))))))))))) (fun w hw => by first | exact hw | exact hw.c) ?_ ?_
        ·exact ⟨rfl, by omega, fun j hj hj2 => by rcases Nat.lt_or_ge j at9 with h9 | h9; exact hJ j h9 hj2; obtain rfl : j = at9 := (by omega); assumption⟩
        ·omega
       ·replace hc16 := dF hc16
        simp only [PeerV.eta, TableV.eta, RouteV.eta] at hc16
        refine C_exit ?_
        iterate 2 refine K_exit ?_
        refine K_hit ?_
        refine K_then ?_
        refine C_seq ?_
        refine C_region (l := [0, 1, 2, 3, 4, 5]) rfl ?_
        iterate 3 refine Y_move ?_
        refine X_slice rfl rfl rfl .none (.some (k := at9) rfl rfl) .none F.elem26 (by simp only [Option.getD_none]; omega) (by simp only [Option.getD_some, Option.getD_none]; omega) (by simp only [Option.getD_some, Option.getD_none]; omega) (by simp) (pieceV_take (l := out_l) (k := at9) (by omega)) rfl ?_
        refine X_appendK (m := 1000000) rfl rfl rfl rfl rfl F.elem26 F.zero25 (by exact agg_size rfl) rfl (by exact OSl.nil) (by repeat first | exact Rem.here _ | exact Rem.two | apply Rem.skip | apply Rem.over) (k_tk.h1) PeerV.flat (by (simp; omega)) (by decide) rfl ?_; intro v19 hs18 ho17; obtain ⟨adv19, cpv19, rfl⟩ := ho17.valAt (n := at9) (by (simp; omega))
        refine Y_assign ?_
        refine XD_end ?_
        refine K_then ?_
        refine C_seq ?_
        refine C_region (l := [0, 1, 2, 3, 4]) rfl ?_
        refine Y_move ?_
        refine Y_load F.lay25 ?_
        refine X_buildSliceF rfl rfl F.elem26 F.zero25 rfl rfl (.cons rfl (by constructor) .nil) rfl rfl (by simp only [List.map_cons, List.map_nil] <;> rfl) rfl ?_; intro b20 hob21
        refine X_append (m := 1000000) rfl rfl rfl rfl rfl F.elem26 F.zero25 (by exact agg_size rfl) rfl (by assumption) (by repeat first | exact Rem.here _ | exact Rem.two | apply Rem.skip | apply Rem.over) (Src.own hob21.lens (by (refine rows_one1 ?_; (repeat (first | exact flat_nil | refine flat_id ?_ | (refine flat_one ?_ ?_; rfl))); done)) rfl (by repeat first | exact List.Mem.head _ | refine List.Mem.tail _ ?_ | refine List.mem_append_right _ ?_)) (by (simp; omega)) (by decide) rfl ?_; intro v24 hs23 ho22; obtain ⟨adv24, cpv24, rfl⟩ := ho22.valAt (n := at9 + 1) (by (simp; omega))
        refine Y_assign ?_
        refine XD_end ?_
        refine K_then ?_
        refine C_seq ?_
        refine C_region (l := [0, 1, 2, 3, 4, 5]) rfl ?_
        iterate 3 refine Y_move ?_
        refine X_slice rfl rfl rfl (.some (k := at9) rfl rfl) .none .none F.elem26 (by simp only [Option.getD_none]; omega) (by simp only [Option.getD_some, Option.getD_none]; omega) (by simp only [Option.getD_some, Option.getD_none]; omega) (by simp) (pieceV_drop (l := out_l) (k := at9)) rfl ?_
        refine X_appendK (m := 1000000) rfl rfl rfl rfl rfl F.elem26 F.zero25 (by exact agg_size rfl) rfl (by assumption) (by repeat first | exact Rem.here _ | exact Rem.two | apply Rem.skip | apply Rem.over) (k_dr.h1) PeerV.flat (by (simp; omega)) (by decide) rfl ?_; intro v27 hs26 ho25; obtain ⟨adv27, cpv27, rfl⟩ := ho25.valAt (n := out_l.length + 1) (by (simp; omega))
        have hnew : out_l.take at9 ++ all[k] :: out_l.drop at9 = insP all[k] out_l := insP_at hat hJ (by intro h9; first | assumption | omega)
        have nnew : out_l.length + 1 = (out_l.length + 1 : Nat) := rfl
        have ho_ : OSl 25 21 (.slice adv27 (out_l.length + 1) cpv27) hs26 ((insP all[k] out_l).map PeerV.segs) := by rw [← hnew]; have h9 := ho25; simp only [List.map_cons, List.map_append, List.cons_append, List.nil_append, List.append_assoc, List.map_take, List.map_drop] at h9 ⊢; exact h9
        refine Y_assign ?_
        refine XD_end ?_
        refine K_then ?_
        refine C_region (l := [0, 1]) rfl ?_
        refine Y_move ?_
        refine Y_assign ?_
        refine XD_end ?_
        refine K_out ?_
        refine K_then ?_
        refine C_region (l := [0, 1, 2]) rfl ?_
        refine Y_move ?_
        refine X_ari rfl rfl rfl rfl rfl (by exact wrap_in (by decide) (by omega)) rfl ?_
        refine Y_assign ?_
        refine XD_end ?_
        refine K_frz (l := insP all[k] out_l) ho_ (by repeat first | exact Rem.here _ | exact Rem.two | apply Rem.skip | apply Rem.over) (fun M4 hm4 k_new => ?_)
        refine K_roundO (a' := [(5, _), (4, _)]) (k + 1) ([]) (.cons (k := 5) rfl (.cons (k := 4) rfl (.cons (k := 3) rfl (.cons (k := 2) rfl (.cons (k := 1) rfl (.nil)))))) (hm2.trans hm4) (fun w hw => by first | exact hw | exact hw.c) ?_ ?_
        ·refine ⟨⟨adv27, cpv27, insP all[k] out_l⟩, rfl, ?_, by omega, k_new, by simp only [insP_len]; omega, ?_⟩
         ·simp only [Sl.val, insP_len]; rfl
         ·rw [foldl_take (by omega : k < all.length), ← hI]; unfold knownStep; rw [if_neg (by rintro (g1 | g1 | g1); exact absurd g1 (by assumption); exact absurd g1 (by assumption); exact absurd g1 (by assumption))]
        ·omega
      ·replace hc15 := dF hc15
       iterate 8 refine Y_skip ?_
       refine Y_pick ?_
       refine XD_end ?_
       refine K_then ?_
       refine C_false rfl ?_
       refine C_exit ?_
       iterate 2 refine K_exit ?_
       refine K_hit ?_
       refine K_then ?_
       refine C_seq ?_
       refine C_region (l := [0, 1, 2, 3, 4, 5]) rfl ?_
       iterate 3 refine Y_move ?_
       refine X_slice rfl rfl rfl .none (.some (k := at9) rfl rfl) .none F.elem26 (by simp only [Option.getD_none]; omega) (by simp only [Option.getD_some, Option.getD_none]; omega) (by simp only [Option.getD_some, Option.getD_none]; omega) (by simp) (pieceV_take (l := out_l) (k := at9) (by omega)) rfl ?_
       refine X_appendK (m := 1000000) rfl rfl rfl rfl rfl F.elem26 F.zero25 (by exact agg_size rfl) rfl (by exact OSl.nil) (by repeat first | exact Rem.here _ | exact Rem.two | apply Rem.skip | apply Rem.over) (k_tk.h1) PeerV.flat (by (simp; omega)) (by decide) rfl ?_; intro v30 hs29 ho28; obtain ⟨adv30, cpv30, rfl⟩ := ho28.valAt (n := at9) (by (simp; omega))
       refine Y_assign ?_
       refine XD_end ?_
       refine K_then ?_
       refine C_seq ?_
       refine C_region (l := [0, 1, 2, 3, 4]) rfl ?_
       refine Y_move ?_
       refine Y_load F.lay25 ?_
       refine X_buildSliceF rfl rfl F.elem26 F.zero25 rfl rfl (.cons rfl (by constructor) .nil) rfl rfl (by simp only [List.map_cons, List.map_nil] <;> rfl) rfl ?_; intro b31 hob32
       refine X_append (m := 1000000) rfl rfl rfl rfl rfl F.elem26 F.zero25 (by exact agg_size rfl) rfl (by assumption) (by repeat first | exact Rem.here _ | exact Rem.two | apply Rem.skip | apply Rem.over) (Src.own hob32.lens (by (refine rows_one1 ?_; (repeat (first | exact flat_nil | refine flat_id ?_ | (refine flat_one ?_ ?_; rfl))); done)) rfl (by repeat first | exact List.Mem.head _ | refine List.Mem.tail _ ?_ | refine List.mem_append_right _ ?_)) (by (simp; omega)) (by decide) rfl ?_; intro v35 hs34 ho33; obtain ⟨adv35, cpv35, rfl⟩ := ho33.valAt (n := at9 + 1) (by (simp; omega))
       refine Y_assign ?_
       refine XD_end ?_
       refine K_then ?_
       refine C_seq ?_
       refine C_region (l := [0, 1, 2, 3, 4, 5]) rfl ?_
       iterate 3 refine Y_move ?_
       refine X_slice rfl rfl rfl (.some (k := at9) rfl rfl) .none .none F.elem26 (by simp only [Option.getD_none]; omega) (by simp only [Option.getD_some, Option.getD_none]; omega) (by simp only [Option.getD_some, Option.getD_none]; omega) (by simp) (pieceV_drop (l := out_l) (k := at9)) rfl ?_
       refine X_appendK (m := 1000000) rfl rfl rfl rfl rfl F.elem26 F.zero25 (by exact agg_size rfl) rfl (by assumption) (by repeat first | exact Rem.here _ | exact Rem.two | apply Rem.skip | apply Rem.over) (k_dr.h1) PeerV.flat (by (simp; omega)) (by decide) rfl ?_; intro v38 hs37 ho36; obtain ⟨adv38, cpv38, rfl⟩ := ho36.valAt (n := out_l.length + 1) (by (simp; omega))
       have hnew : out_l.take at9 ++ all[k] :: out_l.drop at9 = insP all[k] out_l := insP_at hat hJ (by intro h9; first | assumption | omega)
       have nnew : out_l.length + 1 = (out_l.length + 1 : Nat) := rfl
       have ho_ : OSl 25 21 (.slice adv38 (out_l.length + 1) cpv38) hs37 ((insP all[k] out_l).map PeerV.segs) := by rw [← hnew]; have h9 := ho36; simp only [List.map_cons, List.map_append, List.cons_append, List.nil_append, List.append_assoc, List.map_take, List.map_drop] at h9 ⊢; exact h9
       refine Y_assign ?_
       refine XD_end ?_
       refine K_then ?_
       refine C_region (l := [0, 1]) rfl ?_
       refine Y_move ?_
       refine Y_assign ?_
       refine XD_end ?_
       refine K_out ?_
       refine K_then ?_
       refine C_region (l := [0, 1, 2]) rfl ?_
       refine Y_move ?_
       refine X_ari rfl rfl rfl rfl rfl (by exact wrap_in (by decide) (by omega)) rfl ?_
       refine Y_assign ?_
       refine XD_end ?_
       refine K_frz (l := insP all[k] out_l) ho_ (by repeat first | exact Rem.here _ | exact Rem.two | apply Rem.skip | apply Rem.over) (fun M4 hm4 k_new => ?_)
       refine K_roundO (a' := [(5, _), (4, _)]) (k + 1) ([]) (.cons (k := 5) rfl (.cons (k := 4) rfl (.cons (k := 3) rfl (.cons (k := 2) rfl (.cons (k := 1) rfl (.nil)))))) (hm2.trans hm4) (fun w hw => by first | exact hw | exact hw.c) ?_ ?_
       ·refine ⟨⟨adv38, cpv38, insP all[k] out_l⟩, rfl, ?_, by omega, k_new, by simp only [insP_len]; omega, ?_⟩
        ·simp only [Sl.val, insP_len]; rfl
        ·rw [foldl_take (by omega : k < all.length), ← hI]; unfold knownStep; rw [if_neg (by rintro (g1 | g1 | g1); exact absurd g1 (by assumption); exact absurd g1 (by assumption); exact absurd g1 (by assumption))]
       ·omega
  ·replace hc10 := dF hc10
   refine C_exit ?_
   iterate 2 refine K_exit ?_
   refine K_hit ?_
   refine K_then ?_
   refine Y_pk [4, 2] ?_
   refine C_seq ?_
   refine C_region (l := [0, 1]) rfl ?_
   refine Y_move ?_
   refine Y_assign ?_
   refine XD_end ?_
   refine K_then ?_
   refine Y_pk [2] ?_
   refine C_ret ?_
   refine K_end (.inr rfl) (.tmp rfl .nil) (fun w hw => ?_)
   obtain rfl : k = all.length := by omega
   rw [List.take_length] at hI
   exact ⟨_, M2, rfl, hm1.trans hm2, hw.c, ⟨_, _, _⟩, rfl, by simp only [hI]; rw [hall]; rfl, k_out⟩

end Go.Proofs.Ytbjklbmmchiahaa
/-
  Who is known: those met, sorted.
-/
set_option linter.unusedSimpArgs false
set_option linter.unusedVariables false
set_option linter.unnecessarySimpa false
namespace Go.Esp

def cmp3 (x y : Int) : Int := if x < y then -1 else if y < x then 1 else 0
/-- One more is met. -/
def collStep (s : PeerV) (acc : List PeerV) (p : PeerV) : List PeerV := if 0 ≤ p.addr ∧ p.addr ≠ s.addr ∧ ¬ hasA acc p.addr then acc ++ [p] else acc
def metT (t : Tb) : List PeerV := (t.pred :: (t.succ ++ t.fingers)).foldl (collStep t.self) []
theorem insP_perm {p : PeerV} : ∀ {l : List PeerV}, (insP p l).Perm (p :: l)
  | [] => .refl _
  | q :: l => by
    unfold insP
    split
    · exact (insP_perm.cons q).trans (.swap _ _ _)
    · exact .refl _
theorem insP_sorted {p : PeerV} : ∀ {l : List PeerV}, l.Pairwise (fun a b => a.addr < b.addr) → ¬ hasA l p.addr → (insP p l).Pairwise (fun a b => a.addr < b.addr)
  | [], _, _ => List.pairwise_singleton _ _
  | q :: l, h, hn => by
    obtain ⟨h1, h2⟩ := List.pairwise_cons.1 h
    have hq : p.addr ≠ q.addr := fun e => hn (by unfold hasA; rw [List.map_cons, e]; exact .head _)
    have hl : ¬ hasA l p.addr := fun e => hn (by unfold hasA at *; rw [List.map_cons]; exact .tail _ e)
    unfold insP
    split
    · rename_i hlt
      refine List.pairwise_cons.2 ⟨fun a ha => ?_, insP_sorted h2 hl⟩
      rcases List.mem_cons.1 (insP_perm.mem_iff.1 ha) with rfl | ha
      · exact hlt
      · exact h1 a ha
    · rename_i hge
      refine List.pairwise_cons.2 ⟨fun a ha => ?_, h⟩
      rcases List.mem_cons.1 ha with rfl | ha
      · omega
      · have := h1 a ha; omega
theorem hasA_perm {l l' : List PeerV} (h : l.Perm l') {a : Int} : hasA l a ↔ hasA l' a := (h.map PeerV.addr).mem_iff
theorem known_met {s : PeerV} : ∀ {xs out acc : List PeerV}, out.Perm acc → out.Pairwise (fun a b => a.addr < b.addr) →
    (xs.foldl (knownStep s) out).Perm (xs.foldl (collStep s) acc) ∧ (xs.foldl (knownStep s) out).Pairwise (fun a b => a.addr < b.addr)
  | [], out, acc, h1, h2 => ⟨h1, h2⟩
  | p :: xs, out, acc, h1, h2 => by
    rw [List.foldl_cons, List.foldl_cons]
    unfold knownStep collStep
    by_cases hc : p.addr < 0 ∨ p.addr = s.addr ∨ hasA out p.addr
    · rw [if_pos hc, if_neg (by rintro ⟨g1, g2, g3⟩; rcases hc with hc | hc | hc; omega; exact g2 hc; exact g3 ((hasA_perm h1).1 hc))]
      exact known_met h1 h2
    · rw [if_neg hc, if_pos ⟨by have : ¬ p.addr < 0 := fun h => hc (.inl h); omega, fun h => hc (.inr (.inl h)), fun h => hc (.inr (.inr ((hasA_perm h1).2 h)))⟩]
      exact known_met (insP_perm.trans ((h1.cons p).trans (List.perm_append_singleton p acc).symm)) (insP_sorted h2 fun h => hc (.inr (.inr h)))
/-- Two rows with the same peers, each rising. -/
theorem sorted_one : ∀ {l l' : List PeerV}, l.Perm l' → l.Pairwise (fun a b => a.addr < b.addr) → l'.Pairwise (fun a b => a.addr ≤ b.addr) → l = l'
  | [], l', h, _, _ => (h.symm.eq_nil).symm
  | a :: l, [], h, _, _ => (h.eq_nil)
  | a :: l, b :: l', h, h1, h2 => by
    obtain ⟨g1, g2⟩ := List.pairwise_cons.1 h1
    obtain ⟨g3, g4⟩ := List.pairwise_cons.1 h2
    have hab : a = b := by
      rcases List.mem_cons.1 (h.mem_iff.1 (.head _) : a ∈ b :: l') with e | e
      · exact e
      · rcases List.mem_cons.1 (h.mem_iff.2 (.head _) : b ∈ a :: l) with e2 | e2
        · exact e2.symm
        · have := g1 b e2; have := g3 a e; omega
    subst hab
    rw [sorted_one (h.cons_inv) g2 g4]
theorem known_is {t : Tb} {l : List PeerV} (h1 : l.Perm (metT t)) (h2 : l.Pairwise (fun a b => a.addr ≤ b.addr)) : l = knownT t := by
  have h := known_met (s := t.self) (xs := t.pred :: (t.succ ++ t.fingers)) (List.Perm.refl []) List.Pairwise.nil
  exact (sorted_one (h.1.trans h1.symm) h.2 h2).symm
theorem met_step {s p : PeerV} {xs : List PeerV} {acc : List PeerV} (h : acc = xs.foldl (collStep s) []) : (xs ++ [p]).foldl (collStep s) [] = collStep s acc p := by
  rw [List.foldl_append, ← h]; rfl
theorem flat_at {rows : List (Sl PeerV)} {i k : Nat} {a : Option Addr} {c : Nat} {l : List PeerV} (hi : i < rows.length) (hr : rows[i] = ⟨a, c, l⟩) (hk : k < l.length) :
    (rows.map Sl.l).flatten = (((rows.take i).map Sl.l).flatten ++ l.take k) ++ l[k] :: (l.drop (k + 1) ++ ((rows.drop (i + 1)).map Sl.l).flatten) := by
  conv => lhs; rw [← List.take_append_drop i rows, List.drop_eq_getElem_cons hi, hr]
  simp only [List.map_append, List.flatten_append, List.map_cons, List.flatten_cons]
  conv => lhs; rw [← List.take_append_drop k l, List.drop_eq_getElem_cons hk]
  simp only [List.append_assoc, List.cons_append]
theorem flat_next {rows : List (Sl PeerV)} {i : Nat} {a : Option Addr} {c : Nat} {l : List PeerV} (hi : i < rows.length) (hr : rows[i] = ⟨a, c, l⟩) : ((rows.take (i + 1)).map Sl.l).flatten = ((rows.take i).map Sl.l).flatten ++ l := by
  rw [List.take_add_one, List.getElem?_eq_getElem hi, hr]
  simp
theorem flat_rest {rows : List (Sl PeerV)} {i k : Nat} {a : Option Addr} {c : Nat} {l : List PeerV} (hi : i < rows.length) (hr : rows[i] = ⟨a, c, l⟩) (hk : k < l.length) :
    (rows.map Sl.l).flatten = ((((rows.take i).map Sl.l).flatten ++ l.take k) ++ [l[k]]) ++ (l.drop (k + 1) ++ ((rows.drop (i + 1)).map Sl.l).flatten) := by
  rw [flat_at hi hr hk, List.append_assoc _ [l[k]]]; rfl
/-! Which one is nearer. -/
theorem sub_shift (p b s : Plc) : (p + s) - (b + s) = p - b := by
  apply BitVec.eq_of_toNat_eq
  have h1 := p.isLt; have h2 := b.isLt; have h3 := s.isLt
  simp only [BitVec.toNat_sub, BitVec.toNat_add]
  omega
theorem open_less {s b p i : Plc} (h1 : OpenP s b i) (h2 : OpenP s p i) : OpenP b p i ↔ LessP (b - s) (p - s) := by
  obtain ⟨B, rfl⟩ : ∃ B, b = B + s := ⟨b - s, (BitVec.sub_add_cancel b s).symm⟩
  obtain ⟨Q, rfl⟩ : ∃ Q, p = Q + s := ⟨p - s, (BitVec.sub_add_cancel p s).symm⟩
  obtain ⟨I, rfl⟩ : ∃ I, i = I + s := ⟨i - s, (BitVec.sub_add_cancel i s).symm⟩
  unfold OpenP LessP at *
  simp only [sub_shift, BitVec.add_sub_cancel] at *
  have e : ∀ x y : Plc, (x + s = y + s) ↔ x = y := fun x y => ⟨fun h => by have := congrArg (· - s) h; simpa [BitVec.add_sub_cancel] using this, fun h => by rw [h]⟩
  have e0 : ∀ x : Plc, (x + s = s) ↔ x = 0 := fun x => by have := e x 0; simpa using this
  have e1 : ∀ x : Plc, (s = x + s) ↔ x = 0 := fun x => by rw [eq_comm, e0]
  simp only [ne_eq, e, e0, e1] at *
  have q1 := B.isLt; have q2 := Q.isLt; have q3 := I.isLt
  have z : ∀ x : Plc, x = 0 ↔ x.toNat = 0 := fun x => ⟨fun h => by rw [h]; rfl, fun h => BitVec.eq_of_toNat_eq h⟩
  have n : ∀ x y : Plc, x = y ↔ x.toNat = y.toNat := fun x y => ⟨fun h => by rw [h], fun h => BitVec.eq_of_toNat_eq h⟩
  simp only [z, n, BitVec.toNat_sub] at *
  omega
end Go.Esp
/-
  Rows, one behind the other; what compares.
-/
set_option linter.unusedSimpArgs false
set_option linter.unusedVariables false
set_option linter.unnecessarySimpa false
set_option maxRecDepth 8000
set_option maxHeartbeats 1000000
namespace Go.Proofs.Ytbjklbmmchiahaa
open Go.Esp
theorem F.elem117 : slOf Try.prog 117 = some (26, 1, 24) := by kernel_rfl
theorem F.lay117 : lay Try.prog 117 = some (false, 1) := by kernel_rfl
theorem F.ok107 : okFn Try.prog 107 = true := by kernel_rfl
theorem F.ok85 : okFn Try.prog 85 = true := by kernel_rfl

theorem all_ok (M : Mem) (b : Nat) (hs12 hs7 : Hp) (v7 : Value) (p : PeerV) (a2 : Option Addr) (c2 : Nat) (l2 : List PeerV) (a3 : Option Addr) (c3 : Nat) (l3 : List PeerV) (ho12 : OSl 26 1 (.slice (some ⟨b, 0, none⟩) 3 3) hs12 [[.one v7], [.one (Sl.val ⟨a2, c2, l2⟩)], [.one (Sl.val ⟨a3, c3, l3⟩)]]) (ho7 : OSl 25 21 v7 hs7 ([p].map PeerV.segs)) (k2 : SlK M PeerV.segs 21 ⟨a2, c2, l2⟩) (k3 : SlK M PeerV.segs 21 ⟨a3, c3, l3⟩) : Fh Try.prog 82 [.slice (some ⟨b, 0, none⟩) 3 3] M (hs12 ++ hs7) (fun M' v Hout => Hout = [] ∧ ∃ (q1 c : Nat) (ad : Option Addr) (rows : List (Sl PeerV)), v = .func (.func 104) #[] #[.pointer (some ⟨q1, 0, none⟩)] ∧ M' q1 = some (rowO [.one (.slice ad rows.length c)] 117) ∧ SlM M' ad (rows.map (fun s => [.one s.val])) 1 ∧ rows.length = 3 ∧ (∀ s ∈ rows, SlK M' PeerV.segs 21 s) ∧ (rows.map Sl.l).flatten = p :: (l2 ++ l3)) := by
  refine fh_enterF (fun H => hs12 ++ (hs7 ++ H)) (fun _ => (List.append_assoc _ _ _)) Try.func82 rfl Try.ntmps82 rfl ?_; intro H
  refine C_seq ?_
  refine C_region (l := [0, 1]) rfl ?_
  refine Y_box ?_; intro b1
  refine Y_assign ?_
  refine XD_end ?_
  refine K_then ?_
  refine Y_pk [2, 1] ?_
  refine C_seq ?_
  refine C_region (l := [0, 1]) rfl ?_
  refine X_makeFunc rfl rfl rfl rfl rfl ?_
  refine Y_assign ?_
  refine XD_end ?_
  refine K_then ?_
  refine Y_pk [2] ?_
  refine C_ret ?_
  refine K_end (.inr rfl) (.tmp rfl .nil) (fun w hw => ?_)
  obtain ⟨g1, g2⟩ := hw.freeze
  obtain ⟨M7, ad7, cp7, e1, e2, e3, e4⟩ := ho12.freeze g2
  obtain ⟨M8, s7, d1, d2, d3, d4, d5⟩ := OSl.freezeK (f := PeerV.segs) (l := [p]) (H := H) ho7 e2
  simp only [Value.slice.injEq, List.length_cons, List.length_nil] at e3
  obtain ⟨rfl, _, rfl⟩ := e3
  have hle := g1.trans (e1.trans d1)
  refine ⟨_, M8, [], rfl, hle, d2, rfl, _, 3, _, [s7, ⟨a2, c2, l2⟩, ⟨a3, c3, l3⟩], rfl, Mem.get_of (Mem.add_self _ _ _) (e1.trans d1), ?_, rfl, ?_, ?_⟩
  ·have e5 := e4.mono d1; rw [d3] at e5; exact e5
  ·intro s hs; simp only [List.mem_cons, List.not_mem_nil, or_false] at hs; rcases hs with rfl | rfl | rfl; exact d5; exact k2.mono hle; exact k3.mono hle
  ·simp [d4]

theorem all_seq (M : Mem) (q1 c : Nat) (ad : Option Addr) (rows : List (Sl PeerV)) (h1 : M q1 = some (rowO [.one (.slice ad rows.length c)] 117)) (h2 : SlM M ad (rows.map (fun s => [.one s.val])) 1) (hn : rows.length = 3) (h3 : ∀ s ∈ rows, SlK M PeerV.segs 21 s) : Seqs Try.prog 104 [.pointer (some ⟨q1, 0, none⟩)] (fun p : PeerV => [p.enc]) (rows.map Sl.l).flatten M [] := by
  intro lp J Jx hR M0 Jb G w hm0 hJ hw
  have nrows : (rows.map (fun s : Sl PeerV => [Seg.one s.val])).length = rows.length := List.length_map ..
  refine enter (S := St M0 (Jb ++ G)) Try.func104 rfl Try.ntmps104 rfl hw ?_
  refine C_seq ?_
  refine C_region (l := [0, 1, 2]) rfl ?_
  refine X_load_mem rfl rfl rfl (by exact Mem.get_of (by assumption) (by repeat first | assumption | refine Mem.le.trans (by assumption) ?_)) F.lay117 rfl rfl rfl ?_
  refine Y_len_sl F.elem117 ?_
  refine Y_move ?_
  refine XD_end ?_
  refine K_then ?_
  refine Y_pk [9, 8, 7, 0] ?_
  refine C_block ?_
  refine Y_pk [9, 8, 7, 0] ?_
  refine C_loopO (Hin := Jb) (.succ .zero) (by repeat first | exact Rem.here _ | exact Rem.two | apply Rem.skip | apply Rem.over) (fun (i : Nat) M9 h1 z => z = [(9, .int .i64 (i : Int))] ∧ i ≤ rows.length ∧ J ((rows.take i).map Sl.l).flatten M9 h1) (fun i => rows.length - i) (0) (⟨rfl, by omega, hJ⟩) ?_
  rintro i M1 h1 z hm1 ⟨rfl, hi, hJ1⟩
  have h2b := h2.mono (hm0.trans hm1)
  refine C_seq ?_
  refine C_region (l := [0]) rfl ?_
  refine Y_cmp ?_
  refine XD_end ?_
  refine K_then ?_
  refine C_seq ?_
  refine C_cond rfl (fun hc1 => ?_) (fun hc1 => ?_)
  ·replace hc1 := dT hc1
   refine C_skip ?_
   refine K_then ?_
   refine C_seq ?_
   refine C_block ?_
   refine C_seq ?_
   have hi2 : i < rows.length := by omega
   obtain ⟨⟨r_a, r_c, r_l⟩, hr⟩ : ∃ s, rows[i] = s := ⟨_, rfl⟩
   have k_r : SlK M1 PeerV.segs 21 ⟨r_a, r_c, r_l⟩ := hr ▸ (h3 rows[i] (List.getElem_mem hi2)).mono (hm0.trans hm1)
   have s_r := k_r.h1
   have n_r : (r_l.map PeerV.segs).length = r_l.length := List.length_map ..
   have m_r : r_l.length ≤ 9223372036854775807 := k_r.h2
   simp only at s_r
   refine C_region (l := [0, 1, 2]) rfl ?_
   refine X_indexAddr rfl rfl rfl rfl F.elem117 (by rfl) (by omega) (by exact SlM.plain (by assumption) (by (simp; omega))) rfl ?_
   refine X_load_el rfl rfl rfl (by assumption) (by exact row_map (by omega)) F.lay26 rfl rfl rfl ?_
   rw [hr]
   refine Y_assign ?_
   refine XD_end ?_
   refine K_then ?_
   refine C_seq ?_
   refine C_region (l := [0, 1, 2]) rfl ?_
   refine Y_move ?_
   refine Y_len_sl F.elem26 ?_
   refine Y_move ?_
   refine XD_end ?_
   refine K_then ?_
   refine C_block ?_
   refine Y_pk [15, 14, 13, 4, 12, 11, 10, 9, 8, 7, 0] ?_
   refine C_loopO (Hin := h1) (.succ .zero) (by repeat first | exact Rem.here _ | exact Rem.two | apply Rem.skip | apply Rem.over) (fun (k : Nat) M9 h1 z => z = [(15, .int .i64 (k : Int))] ∧ k ≤ r_l.length ∧ J (((rows.take i).map Sl.l).flatten ++ r_l.take k) M9 h1) (fun k => r_l.length - k) (0) (⟨rfl, by omega, by rw [List.take_zero, List.append_nil]; exact hJ1⟩) ?_
   rintro k M2 h2 z hm2 ⟨rfl, hk, hJ2⟩
   have s_r2 := s_r.mono hm2
   refine C_seq ?_
   refine C_region (l := [0]) rfl ?_
   refine Y_cmp ?_
   refine XD_end ?_
   refine K_then ?_
   refine C_seq ?_
   refine C_cond rfl (fun hc2 => ?_) (fun hc2 => ?_)
   ·replace hc2 := dT hc2
    refine C_skip ?_
    refine K_then ?_
    refine C_seq ?_
    refine C_block ?_
    refine C_seq ?_
    refine C_region (l := [0, 1, 2, 3]) rfl ?_
    refine X_indexAddr rfl rfl rfl rfl F.elem26 (by rfl) (by omega) (by exact SlM.plain (by assumption) (by (simp; omega))) rfl ?_
    refine X_load_el rfl rfl rfl (by assumption) (by exact row_map (by omega)) F.lay25 rfl rfl rfl ?_
    refine Y_alloc F.zero25 ?_; intro b3
    refine Y_store F.lay25 ?_
    refine XD_end ?_
    refine K_then ?_
    refine C_seq ?_
    refine C_regionR (l := [0, 1, 2, 3]) (Hin := h2) (by repeat first | exact Rem.here _ | exact Rem.two | apply Rem.skip | apply Rem.over) rfl ?_
    refine Y_move ?_
    refine Y_load F.lay25 ?_
    refine X_yield (x := r_l[k]) (pre := ((rows.take i).map Sl.l).flatten ++ r_l.take k) (post := r_l.drop (k + 1) ++ ((rows.drop (i + 1)).map Sl.l).flatten) (Hb := h2) rfl rfl rfl rfl rfl hR (flat_at hi2 hr (by omega)) (hm0.trans (hm1.trans hm2)) hJ2 (by repeat first | exact Rem.here _ | exact Rem.two | apply Rem.skip | apply Rem.over) rfl (fun _ _ _ hm hw => (hw.lower hm).c) rfl ?_ ?_
    ·intro M3 Jb3 hm3 hJ3
     refine Y_not ?_
     refine XD_end ?_
     refine K_then ?_
     refine C_false rfl ?_
     refine C_skip ?_
     refine K_out ?_
     refine K_then ?_
     refine C_region (l := [0, 1]) rfl ?_
     refine X_ari rfl rfl rfl rfl rfl (by exact wrap_in (by decide) (by omega)) rfl ?_
     refine Y_move ?_
     refine XD_end ?_
     refine K_roundO (a' := [(15, _)]) (k + 1) (Jb3) (.cons (k := 15) rfl (.cons (k := 14) rfl (.cons (k := 13) rfl (.cons (k := 4) rfl (.cons (k := 12) rfl (.cons (k := 11) rfl (.cons (k := 10) rfl (.cons (k := 9) rfl (.cons (k := 8) rfl (.cons (k := 7) rfl (.cons (k := 0) rfl (.nil)))))))))))) (hm2.trans hm3) (fun w hw => by first | exact hw | exact hw.c) ?_ ?_
     ·exact ⟨rfl, by omega, by rw [List.take_add_one, List.getElem?_eq_getElem (by omega : k < r_l.length), ← List.append_assoc]; exact hJ3⟩
     ·omega
    ·intro M3 Jb3 hm3 hJ3
     refine Y_not ?_
     refine XD_end ?_
     refine K_then ?_
     refine C_true rfl ?_
     refine C_ret ?_
     refine K_retB ?_
     iterate 2 refine K_ret ?_
     iterate 2 refine K_retB ?_
     iterate 2 refine K_ret ?_
     refine K_retB ?_
     refine K_end (.inr rfl) (.nil) (fun w hw => ?_)
     exact ⟨_, M3, Jb3, rfl, hm1.trans (hm2.trans hm3), hw.c, .inr ⟨_, _, flat_rest hi2 hr (by omega), hJ3⟩⟩
   ·replace hc2 := dF hc2
    refine C_exit ?_
    iterate 2 refine K_exit ?_
    refine K_hit ?_
    refine K_out ?_
    refine K_then ?_
    refine C_region (l := [0, 1]) rfl ?_
    refine X_ari rfl rfl rfl rfl rfl (by exact wrap_in (by decide) (by omega)) rfl ?_
    refine Y_move ?_
    refine XD_end ?_
    refine K_roundO (a' := [(9, _)]) (i + 1) (h2) (.cons (k := 9) rfl (.cons (k := 8) rfl (.cons (k := 7) rfl (.cons (k := 0) rfl (.nil))))) (hm1.trans hm2) (fun w hw => by first | exact hw | exact hw.c) ?_ ?_
    ·exact ⟨rfl, by omega, by obtain rfl : k = r_l.length := (by omega); rw [flat_next hi2 hr, ← List.take_length (l := r_l)]; exact hJ2⟩
    ·omega
  ·replace hc1 := dF hc1
   refine C_exit ?_
   iterate 2 refine K_exit ?_
   refine K_hit ?_
   refine K_end (.inl rfl) (.nil) (fun w hw => ?_)
   obtain rfl : i = rows.length := by omega
   exact ⟨_, M1, h1, rfl, hm1, hw.c, .inl (by rw [List.take_length] at hJ1; exact hJ1)⟩

theorem isNaN_ok (M : Mem) (x : Int) : Fs Try.prog 107 [.int .i64 x] M (fun v => v = Value.bool (decide (False))) := by
  refine fs_enter Try.func107 rfl Try.ntmps107 rfl ?_; intro H
  refine C_seq ?_
  refine C_region (l := [0]) rfl ?_
  refine Y_assign ?_
  refine XD_end ?_
  refine K_then ?_
  refine C_seq ?_
  refine C_region (l := [0, 1, 2, 3]) rfl ?_
  iterate 2 refine Y_move ?_
  refine Y_cmp ?_
  refine Y_assign ?_
  refine XD_end ?_
  refine K_then ?_
  refine Y_pk [2] ?_
  refine C_ret ?_
  refine K_end (.inr rfl) (.tmp rfl .nil) (fun w hw => ?_)
  refine ⟨_, rfl, (hw.c), ?_⟩
  clear hw
  refine congrArg Value.bool ?_
  simp

theorem Compare_ok (M : Mem) (x : Int) (y : Int) : Fs Try.prog 85 [.int .i64 x, .int .i64 y] M (fun v => v =  (.int .i64 (cmp3 x y))) := by
  refine fs_enter Try.func85 rfl Try.ntmps85 rfl ?_; intro H
  refine C_seq ?_
  refine C_region (l := [0]) rfl ?_
  refine Y_assign ?_
  refine XD_end ?_
  refine K_then ?_
  refine C_seq ?_
  refine C_region (l := [0, 1, 2]) rfl ?_
  refine Y_move ?_
  refine X_fs rfl rfl F.ok107 rfl (isNaN_ok _ _) rfl ?_
  rintro _ rfl
  refine Y_assign ?_
  refine XD_end ?_
  refine K_then ?_
  refine Y_pk [5, 4, 0, 1] ?_
  refine C_seq ?_
  refine C_region (l := [0, 1, 2]) rfl ?_
  refine Y_move ?_
  refine X_fs rfl rfl F.ok107 rfl (isNaN_ok _ _) rfl ?_
  rintro _ rfl
  refine Y_assign ?_
  refine XD_end ?_
  refine K_then ?_
  refine Y_pk [6, 5, 4, 0, 1] ?_
  iterate 2 refine C_seq ?_
  refine C_region (l := [0]) rfl ?_
  refine Y_move ?_
  refine XD_end ?_
  refine K_then ?_
  refine Y_pk [11, 6, 4, 0, 1] ?_
  refine C_cond rfl (fun hc1 => ?_) (fun hc1 => ?_)
  ·replace hc1 := dT hc1
   (exfalso; omega)
  ·replace hc1 := dF hc1
   refine C_skip ?_
   refine K_then ?_
   refine Y_pk [6, 4, 0, 1] ?_
   iterate 2 refine C_seq ?_
   refine C_region (l := [0]) rfl ?_
   refine Y_move ?_
   refine XD_end ?_
   refine K_then ?_
   refine Y_pk [13, 4, 0, 1] ?_
   refine C_cond rfl (fun hc2 => ?_) (fun hc2 => ?_)
   ·replace hc2 := dT hc2
    (exfalso; omega)
   ·replace hc2 := dF hc2
    refine C_skip ?_
    refine K_then ?_
    refine Y_pk [4, 0, 1] ?_
    iterate 2 refine C_seq ?_
    refine C_region (l := [0, 1, 2]) rfl ?_
    iterate 2 refine Y_move ?_
    refine Y_cmp ?_
    refine XD_end ?_
    refine K_then ?_
    refine Y_pk [16, 4, 0, 1] ?_
    refine C_cond rfl (fun hc3 => ?_) (fun hc3 => ?_)
    ·replace hc3 := dT hc3
     refine C_seq ?_
     refine C_region (l := [0]) rfl ?_
     refine Y_assign ?_
     refine XD_end ?_
     refine K_then ?_
     refine Y_pk [4, 0, 1] ?_
     refine C_ret ?_
     refine K_ret ?_
     refine K_end (.inr rfl) (.tmp rfl .nil) (fun w hw => ?_)
     refine ⟨_, rfl, (hw.c), ?_⟩
     clear hw
     refine congrArg (Value.int .i64) ?_
     unfold cmp3
     (rw [if_pos (by omega)]; done)
    ·replace hc3 := dF hc3
     refine C_skip ?_
     refine K_then ?_
     refine Y_pk [4, 0, 1] ?_
     iterate 2 refine C_seq ?_
     refine C_region (l := [0, 1, 2]) rfl ?_
     iterate 2 refine Y_move ?_
     refine Y_cmp ?_
     refine XD_end ?_
     refine K_then ?_
     refine Y_pk [19, 4] ?_
     refine C_cond rfl (fun hc4 => ?_) (fun hc4 => ?_)
     ·replace hc4 := dT hc4
      refine C_seq ?_
      refine C_region (l := [0]) rfl ?_
      refine Y_assign ?_
      refine XD_end ?_
      refine K_then ?_
      refine Y_pk [4] ?_
      refine C_ret ?_
      refine K_ret ?_
      refine K_end (.inr rfl) (.tmp rfl .nil) (fun w hw => ?_)
      refine ⟨_, rfl, (hw.c), ?_⟩
      clear hw
      refine congrArg (Value.int .i64) ?_
      unfold cmp3
      (rw [if_neg (by omega), if_pos (by omega)]; done)
     ·replace hc4 := dF hc4
      refine C_skip ?_
      refine K_then ?_
      refine Y_pk [4] ?_
      refine C_seq ?_
      refine C_region (l := [0]) rfl ?_
      refine Y_assign ?_
      refine XD_end ?_
      refine K_then ?_
      refine C_ret ?_
      refine K_end (.inr rfl) (.tmp rfl .nil) (fun w hw => ?_)
      refine ⟨_, rfl, (hw.c), ?_⟩
      clear hw
      refine congrArg (Value.int .i64) ?_
      unfold cmp3
      (rw [if_neg (by omega), if_neg (by omega)]; done)

theorem byAddr_ok (M : Mem) (x : PeerV) (y : PeerV) : Fs Try.prog 84 [x.enc, y.enc] M (fun v => v =  (.int .i64 (cmp3 x.addr y.addr))) := by
  obtain ⟨x_addr, x_id⟩ := x
  obtain ⟨y_addr, y_id⟩ := y
  refine fs_enter Try.func84 rfl Try.ntmps84 rfl ?_; intro H
  refine C_seq ?_
  refine C_region (l := [0, 1, 2]) rfl ?_
  refine Y_box ?_; intro b1
  refine Y_box ?_; intro b2
  refine Y_assign ?_
  refine XD_end ?_
  refine K_then ?_
  refine Y_pk [4, 3, 2] ?_
  refine C_seq ?_
  refine C_region (l := [0, 1, 2, 3, 4, 5]) rfl ?_
  refine Y_fieldAddr F.foff25_0 ?_
  refine Y_load F.lay3 ?_
  refine Y_fieldAddr F.foff25_0 ?_
  refine Y_load F.lay3 ?_
  refine X_fs rfl rfl F.ok85 rfl (Compare_ok _ _ _) rfl ?_
  rintro _ rfl
  refine Y_assign ?_
  refine XD_end ?_
  refine K_then ?_
  refine Y_pk [4] ?_
  refine C_ret ?_
  refine K_end (.inr rfl) (.tmp rfl .nil) (fun w hw => ?_)
  refine ⟨_, rfl, (hw.c), ?_⟩
  clear hw
  rfl

end Go.Proofs.Ytbjklbmmchiahaa
/-
  DERIVED: THE SHELF's CONTRACTS AT THIS DUMP, IN PLAIN WORDS (tools/lay-plain.mjs out of 'YtbjklbmmchiahaaLayTmp.lean', which tools/lay-shelf.mjs wrote): THE SAME DECLARATIONS UNDER THE SAME NAMES: 'import', 'namespace', 'open', 'def', 'theorem' AND NOTHING ELSE: no command of the shelf's: FOR A HAND-IN. Each laying: the table of numbers ('.._ren') and one theorem, a field a fact of the dump's own or the kernel's comparison; each contract: ONE APPLICATION.
-/
namespace Go.Proofs
open Go.Shelf
def Try.sortL_ren : Go.Shelf.Ren := ⟨fun | 6 => 83 | 15 => 106 | 14 => 105 | 28 => 123 | 29 => 124 | 20 => 115 | 21 => 116 | 22 => 117 | 23 => 118 | 24 => 119 | 25 => 120 | 26 => 121 | 27 => 122 | 46 => 125 | 47 => 126 | 48 => 127 | 49 => 128 | 50 => 129 | 57 => 130 | n => n, fun | 22 => 26 | 24 => 25 | 25 => 97 | 3 => 3 | 39 => 99 | 0 => 0 | 53 => 121 | 55 => 124 | 4 => 4 | 46 => 129 | 45 => 128 | 50 => 133 | 5 => 5 | 9 => 9 | 66 => 137 | 70 => 141 | 76 => 143 | 77 => 144 | n => n, fun | n => n⟩
theorem Try.sortL : Go.Proofs.SlLaysF0.n6 Try.prog Try.sortL_ren := {
  mixed := by kernel_rfl
  f6 := ⟨Try.f83.name, by decide, Try.func83.trans (congrArg some (by kernel_rfl))⟩
  f14 := ⟨Try.f105.name, by decide, Try.func105.trans (congrArg some (by kernel_rfl))⟩
  f15 := Try.func106.trans (congrArg some (by kernel_rfl))
  f20 := ⟨Try.f115.name, by decide, Try.func115.trans (congrArg some (by kernel_rfl))⟩
  f21 := ⟨Try.f116.name, by decide, Try.func116.trans (congrArg some (by kernel_rfl))⟩
  f22 := ⟨Try.f117.name, by decide, Try.func117.trans (congrArg some (by kernel_rfl))⟩
  f23 := ⟨Try.f118.name, by decide, Try.func118.trans (congrArg some (by kernel_rfl))⟩
  f24 := ⟨Try.f119.name, by decide, Try.func119.trans (congrArg some (by kernel_rfl))⟩
  f25 := ⟨Try.f120.name, by decide, Try.func120.trans (congrArg some (by kernel_rfl))⟩
  f26 := ⟨Try.f121.name, by decide, Try.func121.trans (congrArg some (by kernel_rfl))⟩
  f27 := ⟨Try.f122.name, by decide, Try.func122.trans (congrArg some (by kernel_rfl))⟩
  f28 := Try.func123.trans (congrArg some (by kernel_rfl))
  f29 := Try.func124.trans (congrArg some (by kernel_rfl))
  f46 := ⟨Try.f125.name, by decide, Try.func125.trans (congrArg some (by kernel_rfl))⟩
  f47 := Try.func126.trans (congrArg some (by kernel_rfl))
  f48 := Try.func127.trans (congrArg some (by kernel_rfl))
  f49 := ⟨Try.f128.name, by decide, Try.func128.trans (congrArg some (by kernel_rfl))⟩
  f50 := ⟨Try.f129.name, by decide, Try.func129.trans (congrArg some (by kernel_rfl))⟩
  f57 := ⟨Try.f130.name, by decide, Try.func130.trans (congrArg some (by kernel_rfl))⟩
  t0 := Try.underlying0
  a0 := Try.isAgg0
  z0 := Try.sizeOf0
  v0 := Try.zeroValue0
  t3 := Try.underlying3
  a3 := Try.isAgg3
  z3 := Try.sizeOf3
  v3 := Try.zeroValue3
  t4 := Try.underlying4
  a4 := Try.isAgg4
  z4 := Try.sizeOf4
  v4 := Try.zeroValue4
  t5 := Try.underlying5
  a5 := Try.isAgg5
  z5 := Try.sizeOf5
  v5 := Try.zeroValue5
  t9 := Try.underlying9
  a9 := Try.isAgg9
  z9 := Try.sizeOf9
  v9 := Try.zeroValue9
  t22 := Try.underlying26
  a22 := Try.isAgg26
  z22 := Try.sizeOf26
  v22 := Try.zeroValue26
  t25 := Try.underlying97
  a25 := Try.isAgg97
  z25 := Try.sizeOf97
  v25 := Try.zeroValue97
  t39 := Try.underlying99
  a39 := Try.isAgg99
  z39 := Try.sizeOf99
  v39 := Try.zeroValue99
  t45 := Try.underlying128
  a45 := Try.isAgg128
  z45 := Try.sizeOf128
  v45 := Try.zeroValue128
  t46 := Try.underlying129
  a46 := Try.isAgg129
  z46 := Try.sizeOf129
  v46 := Try.zeroValue129
  t50 := Try.underlying133
  a50 := Try.isAgg133
  z50 := Try.sizeOf133
  v50 := Try.zeroValue133
  t53 := Try.underlying121
  a53 := Try.isAgg121
  z53 := Try.sizeOf121
  v53 := Try.zeroValue121
  t55 := Try.underlying124
  a55 := Try.isAgg124
  z55 := Try.sizeOf124
  v55 := Try.zeroValue124
  t66 := Try.underlying137
  a66 := Try.isAgg137
  z66 := Try.sizeOf137
  v66 := Try.zeroValue137
  t70 := Try.underlying141
  a70 := Try.isAgg141
  z70 := Try.sizeOf141
  v70 := Try.zeroValue141
  t76 := Try.underlying143
  a76 := Try.isAgg143
  z76 := Try.sizeOf143
  v76 := Try.zeroValue143
  t77 := Try.underlying144
  a77 := Try.isAgg144
  z77 := Try.sizeOf144
  v77 := Try.zeroValue144 }
end Go.Proofs
/-
  slices.SortFunc, at rows of structs of our own: the shelf's contract, in our terms.
-/
set_option linter.unusedSimpArgs false
set_option linter.unusedVariables false
set_option linter.unnecessarySimpa false
namespace Go.Esp
open Go.Proofs Go.Shelf Go.RowKit Go.Lib Go.Sort

theorem lays_of_fs {P : Program} {g : FuncId} {vs : List Value} {r : Value} (h : ∀ M, Fs P g vs M (fun v => v = r)) (W : World) : Calls P g vs.toArray W fun e w' => e = .returned r ∧ ∃ q os', w' = grow (W.drewN q) os' := by
  refine (h (memOf W) [] W (St.start W)).mono ?_
  rintro e w' ⟨v, rfl, hst, rfl⟩
  refine ⟨rfl, w'.drawn - W.drawn, w'.heap.extract W.heap.size w'.heap.size, ?_⟩
  have hp : ∀ b o, W.heap[b]? = some o → w'.heap[b]? = some o := hst.mem
  obtain ⟨h1, h2, h3, h4⟩ := hst.io
  have hle : W.heap.size ≤ w'.heap.size := by
    rcases Nat.eq_zero_or_pos W.heap.size with h0 | h0
    · omega
    · have := hp (W.heap.size - 1) _ (Array.getElem?_eq_getElem (by omega))
      have := (Array.getElem?_eq_some_iff.1 this).1
      omega
  have hh : w'.heap = W.heap ++ w'.heap.extract W.heap.size w'.heap.size := by
    apply Array.ext_getElem?
    intro i
    rw [Array.getElem?_append]
    split
    · rename_i hi
      rw [hp i _ (Array.getElem?_eq_getElem hi), Array.getElem?_eq_getElem hi]
    · rename_i hi
      rw [Array.getElem?_extract]
      rw [show W.heap.size + (i - W.heap.size) = i by omega]
      split
      · rfl
      · rw [Array.getElem?_eq_none]; omega
  cases w' with
  | mk heap tape drawn os output =>
    simp only [grow, World.drewN, World.mk.injEq]
    simp only [memOf] at h1 h2 h3 h4
    exact ⟨hh, h2, (Nat.add_sub_cancel' h4).symm, h1, h3⟩

theorem OSl.noneAll {α : Type} {T sz c : Nat} {f : α → Segs} {l : List α} {hs : Hp} (h : OSl T sz (.slice none l.length c) hs (l.map f)) : l = [] ∧ c = 0 ∧ hs = [] := by
  generalize hv : Value.slice none l.length c = v at h
  generalize hr : l.map f = r at h
  cases h with
  | nil => simp only [Value.slice.injEq] at hv; exact ⟨List.map_eq_nil_iff.1 hr, hv.2.2, rfl⟩
  | own => simp at hv
theorem OSl.someAll {T sz l c : Nat} {ad : Addr} {hs : Hp} {rows : List Segs} (h : OSl T sz (.slice (some ad) l c) hs rows) : ∃ b, ad = ⟨b, 0, none⟩ := by
  generalize hv : Value.slice (some ad) l c = v at h
  cases h with
  | nil => simp at hv
  | own b => simp only [Value.slice.injEq, Option.some.injEq] at hv; exact ⟨b, hv.1⟩
section
variable {α : Type} [Inhabited α] {f : α → Segs} {sz : Nat}
theorem rowsCells_get {rows : List Segs} (h : lens sz rows) {j i : Nat} {r : Segs} (hr : rows[j]? = some r) (hi : i < sz) : (rowsCells rows)[j * sz + i]? = (Segs.cells r)[i]? := by
  rw [← rowsCells_at h hr, List.getElem?_take, if_pos hi, List.getElem?_drop]
theorem flat_get (hpos : 0 < sz) (hk : ∀ x, (Segs.cells (f x)).length = sz) {l : List α} (hl : lens sz (l.map f)) {t : Nat} (ht : t < l.length * sz) :
    (rowsCells (l.map f))[t]? = some ((flatK (fun x => Segs.cells (f x)) sz l.toArray)[t]!) := by
  have hj : t / sz < l.length := (Nat.div_lt_iff_lt_mul hpos).2 ht
  have hm := Nat.mod_lt t hpos
  have h := rowsCells_get hl (j := t / sz) (i := t % sz) (r := f l[t / sz]) (by rw [List.getElem?_map, List.getElem?_eq_getElem hj]; rfl) hm
  rw [Nat.div_add_mod'] at h
  rw [h, get_flatK _ _ _ _ (by simpa using ht)]
  have e : l.toArray[t / sz]! = l[t / sz] := by rw [getElem!_pos _ _ (by simpa using hj)]; simp
  rw [e, List.getElem?_eq_getElem (by rw [hk]; exact hm)]
  congr 1
  rw [getElem!_pos _ _ (by rw [hk]; exact hm)]
theorem st_sorted {M : Mem} {H : Hp} {w : World} {b T : Nat} {cur F : Array Value} (hw : St M ((b, .cells cur T (0, 0)) :: H) w) (n : Nat) (os : Array Obj) :
    St M ((b, .cells (putCells id 0 F cur) T (0, 0)) :: H) (grow (putRow id (Sort.ahead w n) b 0 F) os) := by
  have hb := hw.own b _ (.head _)
  have hlt := (Array.getElem?_eq_some_iff.1 hb).1
  refine hw.upd .head ?_ (fun c hc x hx => ?_) ⟨rfl, rfl, rfl, Nat.le_add_right _ _⟩
  · show ((w.heap.modify b _) ++ os)[b]? = _
    rw [Array.getElem?_append_left (by simpa using hlt), Array.getElem?_modify, if_pos rfl, hb]
    rfl
  · show ((w.heap.modify b _) ++ os)[c]? = _
    have hcl := (Array.getElem?_eq_some_iff.1 hx).1
    rw [Array.getElem?_append_left (by simpa using hcl), Array.getElem?_modify, if_neg (Ne.symm hc), hx]

theorem sort_fh {P : Program} {ρ : Ren} (L : SlLaysF0.n6 P ρ) (aE : ∀ w, (isAgg (ρ.t 24)).run P w = .ok true w) (zE : ∀ w, (Go.sizeOf (ρ.t 24)).run P w = .ok sz w) (hpos : 0 < sz) (hk : ∀ x, (Segs.cells (f x)).length = sz)
    (h1 : ∀ x, ∀ v ∈ Segs.cells (f x), v.oneCell' = true) (cf : α → α → Int) (hO : SWO (ltOf cf)) (g : FuncId) (hg : okFn P g = true) (hc : ∀ M x y, Fs P g [aggV (f x), aggV (f y)] M (fun v => v = .int .i64 (cf x y)))
    {T b c : Nat} {l : List α} {hs : Hp} (ho : OSl T sz (.slice (some ⟨b, 0, none⟩) l.length c) hs (l.map f)) (hl : l.length ≤ 1000000) (M : Mem) :
    Fh P (ρ.f 6) [.slice (some ⟨b, 0, none⟩) l.length c, .func (.func g) #[] #[]] M hs (fun M' v Hout => M' = M ∧ v = .tuple #[] ∧ ∃ l' : List α, l'.Perm l ∧ l'.Pairwise (fun x y => ¬ cf y x < 0) ∧ OSl T sz (.slice (some ⟨b, 0, none⟩) l.length c) Hout (l'.map f)) := by
  obtain ⟨cur, rfl, hl0, hlens, hle, hcm, hcs, htk⟩ := ho.inv
  have hml : (l.map f).length = l.length := List.length_map ..
  rw [hml] at hle htk
  intro H w hw
  have hb := hw.own b _ (.head _)
  have hlt := (Array.getElem?_eq_some_iff.1 hb).1
  have hsz : l.length * sz ≤ cur.size := by rw [hcs]; exact Nat.mul_le_mul_right _ hle
  have hH : HoldsK (fun x => Segs.cells (f x)) sz w b 0 l.toArray := by
    intro j hj
    have hj' : j < l.length * sz := by simpa using hj
    refine ⟨?_, ?_⟩
    · unfold World.cell?
      simp only [hb, Option.isSome_none, Bool.false_eq_true, if_false, Nat.zero_add, id]
      rw [← flat_get hpos hk hlens hj', ← htk, List.getElem?_take, if_pos hj']
      simp
    · unfold World.frozen?
      simp only [hb]
      simp
  have hcl : CmpLays P g #[] (fun x => Segs.cells (f x)) sz cf b 0 l.toArray.size w := fun m os dk _ x y => lays_of_fs (fun M => hc M x y) _
  have key := AnyQ.slices_SortFunc L sz aE zE (fun x => Segs.cells (f x)) hk h1 cf hO g #[] b 0 c l.toArray w (fun args w => callFunc_run hg) hcl hH hlt (by simp; omega)
  rw [show l.toArray.size = l.length from by simp] at key
  refine key.mono ?_
  rintro e w' ⟨rfl, d', n, os, ⟨hp1, _, hp3⟩, hs1, rfl⟩
  have hd : d'.size = l.length := by simpa using hp1
  have hst := st_sorted (F := flatK (fun x => Segs.cells (f x)) sz d') hw n os
  have hperm : d'.toList.Perm l := by
    have h9 := hp3
    rw [show d'.extract 0 l.length = d' from by rw [← hd]; simp, show l.toArray.extract 0 l.length = l.toArray from by rw [show l.length = l.toArray.size from by simp]; simp] at h9
    simpa using h9
  have hlens' : lens sz (d'.toList.map f) := fun r hr => by
    obtain ⟨x, hx, rfl⟩ := List.mem_map.1 hr
    rw [← Segs.cells_length]; exact hk x
  refine ⟨_, M, [(b, .cells (putCells id 0 (flatK (fun x => Segs.cells (f x)) sz d') cur) T (0, 0))], rfl, Mem.le.refl M, hst, rfl, rfl, d'.toList, hperm, ?_, ?_⟩
  · rw [List.pairwise_iff_getElem]
    intro i j hi hj hij
    have h9 := hs1 i j (Nat.zero_le _) hij (by rw [← hd]; simpa using hj)
    rw [getElem!_pos _ _ (by simpa using hj), getElem!_pos _ _ (by simpa using hi)] at h9
    unfold ltOf at h9
    simpa using h9
  · have hln : (d'.toList.map f).length = l.length := by simpa using hd
    have := OSl.own (T := T) b c (d'.toList.map f) (putCells id 0 (flatK (fun x => Segs.cells (f x)) sz d') cur) hlens' (by rw [hln]; exact hle) hcm (by simpa [putCells] using hcs) ?_
    · rw [hln] at this; exact this
    · apply List.ext_getElem?
      intro t
      rw [List.getElem?_take]
      by_cases ht : t < (d'.toList.map f).length * sz
      · rw [if_pos ht]
        have ht' : t < d'.toList.length * sz := by simpa using ht
        rw [flat_get hpos hk hlens' ht']
        have htc : t < cur.size := by rw [hln] at ht; omega
        simp only [putCells, Array.getElem?_toList, Array.getElem?_mapIdx, Array.getElem?_eq_getElem htc, Option.map_some]
        rw [if_pos ⟨Nat.zero_le _, by simpa using ht⟩]
        simp
      · rw [if_neg ht, List.getElem?_eq_none]
        rw [rowsCells_len hlens']; omega
end
end Go.Esp
/-
  Rows that are sorted.
-/
set_option linter.unusedSimpArgs false
set_option linter.unusedVariables false
set_option linter.unnecessarySimpa false
set_option maxRecDepth 8000
set_option maxHeartbeats 1000000
namespace Go.Proofs.Ytbjklbmmchiahaa
open Go.Esp
theorem F.ok105 : okFn Try.prog 105 = true := by kernel_rfl
theorem F.ok106 : okFn Try.prog 106 = true := by kernel_rfl
theorem F.ok115 : okFn Try.prog 115 = true := by kernel_rfl
theorem F.ok84 : okFn Try.prog 84 = true := by kernel_rfl

theorem Ins_nil (M : Mem) (g : FuncId) : Fs Try.prog 115 [.slice none 0 0, .int .i64 0, .int .i64 0, .func (.func g) #[] #[]] M (fun v => v = .tuple #[]) := by
  refine fs_enter Try.func115 rfl Try.ntmps115 rfl ?_; intro H
  refine C_seq ?_
  refine C_region (l := [0, 1, 2]) rfl ?_
  refine Y_move ?_
  refine X_ari rfl rfl rfl rfl rfl (by exact wrap_in (by decide) (by omega)) rfl ?_
  refine Y_assign ?_
  refine XD_end ?_
  refine K_then ?_
  refine Y_pk [8, 0, 1, 2, 3] ?_
  refine C_block ?_
  refine Y_pk [8, 0, 1, 2, 3] ?_
  refine C_loopS (.succ .zero) (fun (_ : Nat) z => z = [(8, .int .i64 1)]) (fun _ => 1) (0) (rfl) ?_
  rintro _ _ rfl
  iterate 2 refine C_seq ?_
  refine C_region (l := [0, 1, 2]) rfl ?_
  iterate 2 refine Y_move ?_
  refine Y_cmp ?_
  refine XD_end ?_
  refine K_then ?_
  refine C_cond rfl (fun hc1 => ?_) (fun hc1 => ?_)
  ·replace hc1 := dT hc1
   (exfalso; omega)
  ·replace hc1 := dF hc1
   refine C_exit ?_
   iterate 2 refine K_exit ?_
   refine K_hit ?_
   refine K_end (.inl rfl) (.nil) (fun w hw => ?_)
   exact ⟨_, rfl, hw.c, rfl⟩

theorem Pdq_nil (M : Mem) (g : FuncId) (lim : Int) : Fs Try.prog 105 [.slice none 0 0, .int .i64 0, .int .i64 0, .int .i64 lim, .func (.func g) #[] #[]] M (fun v => v = .tuple #[]) := by
  refine fs_enter Try.func105 rfl Try.ntmps105 rfl ?_; intro H
  refine C_seq ?_
  refine C_region (l := [0]) rfl ?_
  refine Y_assign ?_
  refine XD_end ?_
  refine K_then ?_
  refine C_seq ?_
  refine C_region (l := [0]) rfl ?_
  refine Y_assign ?_
  refine XD_end ?_
  refine K_then ?_
  refine C_block ?_
  refine Y_pk [1, 2, 3, 10, 11, 0, 4] ?_
  refine C_loopS (.succ (.succ (.succ (.succ (.succ .zero))))) (fun (_ : Nat) z => z = [(1, .int .i64 0), (2, .int .i64 0), (3, .int .i64 lim), (10, .bool true), (11, .bool true)]) (fun _ => 1) (0) (rfl) ?_
  rintro _ _ rfl
  refine C_block ?_
  refine C_seq ?_
  refine C_region (l := [0, 1, 2, 3]) rfl ?_
  iterate 2 refine Y_move ?_
  refine X_ari rfl rfl rfl rfl rfl (by exact wrap_in (by decide) (by omega)) rfl ?_
  refine Y_assign ?_
  refine XD_end ?_
  refine K_then ?_
  iterate 2 refine C_seq ?_
  refine C_region (l := [0, 1]) rfl ?_
  refine Y_move ?_
  refine Y_cmp ?_
  refine XD_end ?_
  refine K_then ?_
  refine C_cond rfl (fun hc1 => ?_) (fun hc1 => ?_)
  ·replace hc1 := dT hc1
   refine C_seq ?_
   refine C_region (l := [0, 1, 2, 3, 4]) rfl ?_
   iterate 4 refine Y_move ?_
   refine X_fs rfl rfl F.ok115 rfl (Ins_nil M g) rfl ?_
   rintro _ rfl
   refine XD_end ?_
   refine K_then ?_
   refine Y_pk [29, 28, 27, 26, 25, 24, 12, 23, 22, 21, 1, 2, 3, 10, 11, 0, 4] ?_
   refine C_ret ?_
   refine K_ret ?_
   refine K_retB ?_
   refine K_ret ?_
   refine K_retB ?_
   refine K_end (.inr rfl) (.nil) (fun w hw => ?_)
   exact ⟨_, rfl, hw.c, rfl⟩
  ·replace hc1 := dF hc1
   (exfalso; omega)

theorem Len_nil (M : Mem) : Fs Try.prog 106 [.int .u64 0] M (fun v => v = .int .i64 (Lib.bitLen 0)) := fun H w hw => (Any.bits_Len (SlLaysF0.n15.bits (P := Try.prog) (ρ := Try.sortL_ren) { Try.sortL with }) 0 w (by omega) (by omega)).mono fun _ _ ⟨he, hw2⟩ => ⟨_, he, by rw [hw2]; exact hw, rfl⟩

theorem Sort_nil (M : Mem) (g : FuncId) : Fs Try.prog 83 [.slice none 0 0, .func (.func g) #[] #[]] M (fun v => v = .tuple #[]) := by
  refine fs_enter Try.func83 rfl Try.ntmps83 rfl ?_; intro H
  refine C_seq ?_
  refine C_region (l := [0, 1, 2]) rfl ?_
  refine Y_move ?_
  refine Y_len_sl F.elem26 ?_
  refine Y_assign ?_
  refine XD_end ?_
  refine K_then ?_
  refine Y_pk [4, 0, 1] ?_
  refine C_region (l := [0, 1, 2, 3, 4, 5, 6]) rfl ?_
  iterate 3 refine Y_move ?_
  refine X_conv rfl rfl rfl Try.underlying3 Try.underlying99 (by exact wrap_u64_in (by decide) (by omega)) rfl ?_
  refine X_fs rfl rfl F.ok106 rfl (Len_nil M) rfl ?_
  rintro _ rfl
  refine Y_move ?_
  refine X_fs rfl rfl F.ok105 rfl (Pdq_nil M g _) rfl ?_
  rintro _ rfl
  refine XD_end ?_
  refine K_end (.inl rfl) (.nil) (fun w hw => ?_)
  exact ⟨_, rfl, hw.c, rfl⟩

instance : Inhabited PeerV := ⟨⟨0, 0⟩⟩
theorem byAddr_swo : Sort.SWO (ltOf fun x y : PeerV => cmp3 x.addr y.addr) := by
  have e : ∀ x y : PeerV, ltOf (fun x y : PeerV => cmp3 x.addr y.addr) x y = decide (x.addr < y.addr) := by
   intro x y; unfold ltOf cmp3; by_cases h : x.addr < y.addr <;> simp [h]; split <;> omega
  exact ⟨fun x => by rw [e]; simp, fun x y z h1 h2 => by rw [e] at *; simp at *; omega, fun x y z h1 h2 => by rw [e] at *; simp at *; omega⟩

theorem Sort_ok (M : Mem) (a : Option Addr) (c : Nat) (l : List PeerV) (hs : Hp) (ho : OSl 25 21 (.slice a l.length c) hs (l.map PeerV.segs)) (hl : l.length ≤ 1000000) : Fh Try.prog 83 [.slice a l.length c, .func (.func 84) #[] #[]] M hs (fun M' v Hout => M' = M ∧ v = .tuple #[] ∧ ∃ l' : List PeerV, l'.Perm l ∧ l'.Pairwise (fun x y => x.addr ≤ y.addr) ∧ OSl 25 21 (.slice a l.length c) Hout (l'.map PeerV.segs)) := by
  cases a with
  |none =>
   obtain ⟨rfl, rfl, rfl⟩ := ho.noneAll
   exact fun H w hw => (Sort_nil M 84 H w hw).mono fun e w' ⟨v, he, hst, hv⟩ => ⟨v, M, [], he, Mem.le.refl M, hst, rfl, hv, [], .refl _, .nil, OSl.nil⟩
  |some ad =>
   obtain ⟨b, rfl⟩ := ho.someAll
   have key := sort_fh (f := PeerV.segs) (sz := 21) Try.sortL Try.isAgg25 Try.sizeOf25 (by decide) (fun x => (Segs.cells_length _).trans (PeerV.len x)) (fun x => PeerV.flat x) (fun x y : PeerV => cmp3 x.addr y.addr) byAddr_swo 84 F.ok84 (fun M x y => byAddr_ok M x y) ho hl M
   exact fun H w hw => (key H w hw).mono fun e w' ⟨v, M2, Ho, he, hle, hst, hM, hv, l2, h1, h2, h3⟩ => ⟨v, M2, Ho, he, hle, hst, hM, hv, l2, h1, h2.imp (fun h => by unfold cmp3 at h; split at h <;> (try split at h) <;> omega), h3⟩

end Go.Proofs.Ytbjklbmmchiahaa
/-
  Who is known.
-/
set_option linter.unusedSimpArgs false
set_option linter.unusedVariables false
set_option linter.unnecessarySimpa false
set_option maxRecDepth 8000
set_option maxHeartbeats 1000000
namespace Go.Proofs.Ytbjklbmmchiahaa
open Go.Esp
theorem F.ok104 : okFn Try.prog 104 = true := by kernel_rfl
theorem F.ok82 : okFn Try.prog 82 = true := by kernel_rfl
theorem F.ok83 : okFn Try.prog 83 = true := by kernel_rfl
theorem F.zero26 : zeroOf Try.prog 26 = some ((.slice none 0 0)) := by kernel_rfl

theorem Known_ok (M : Mem) (t : TableV) (ht0 : TableV.ok M t) (hbig : t.succ.l.length ≤ 40 ∧ t.fingers.l.length ≤ 200) : Esp.Fn Try.prog 38 [t.enc] M (fun M' v => PsIs M' v (knownT t.tb)) := by
  obtain ⟨⟨t_self_addr, t_self_id⟩, ⟨t_pred_addr, t_pred_id⟩, ⟨t_succ_a, t_succ_c, t_succ_l⟩, ⟨t_fingers_a, t_fingers_c, t_fingers_l⟩⟩ := t
  have k_t_succ : SlK M PeerV.segs 21 ⟨t_succ_a, t_succ_c, t_succ_l⟩ := ht0.h0
  have s_t_succ : SlM M t_succ_a (t_succ_l.map PeerV.segs) 21 := k_t_succ.h1
  have n_t_succ : (t_succ_l.map PeerV.segs).length = t_succ_l.length := List.length_map ..
  have m_t_succ : t_succ_l.length ≤ 9223372036854775807 := k_t_succ.h2
  have c_t_succ : t_succ_l.length ≤ t_succ_c := k_t_succ.h3
  have k_t_fingers : SlK M PeerV.segs 21 ⟨t_fingers_a, t_fingers_c, t_fingers_l⟩ := ht0.h1
  have s_t_fingers : SlM M t_fingers_a (t_fingers_l.map PeerV.segs) 21 := k_t_fingers.h1
  have n_t_fingers : (t_fingers_l.map PeerV.segs).length = t_fingers_l.length := List.length_map ..
  have m_t_fingers : t_fingers_l.length ≤ 9223372036854775807 := k_t_fingers.h2
  have c_t_fingers : t_fingers_l.length ≤ t_fingers_c := k_t_fingers.h3
  simp only at hbig
  refine fnM_enter Try.func38 rfl Try.ntmps38 rfl ?_; intro H
  refine C_seq ?_
  refine C_region (l := [0, 1]) rfl ?_
  refine Y_box ?_; intro b1
  refine Y_assign ?_
  refine XD_end ?_
  refine K_then ?_
  refine Y_pk [2, 1] ?_
  refine C_seq ?_
  refine C_region (l := [0]) rfl ?_
  refine Y_alloc F.zero26 ?_; intro b2
  refine XD_end ?_
  refine K_then ?_
  iterate 2 refine C_seq ?_
  refine C_region (l := [0, 1, 2, 3, 4, 5, 6, 7, 8]) rfl ?_
  refine Y_fieldAddr F.foff28_1 ?_
  refine Y_load F.lay25 ?_
  refine X_buildSliceF rfl rfl F.elem26 F.zero25 rfl rfl (.cons rfl (by constructor) .nil) rfl rfl (by simp only [List.map_cons, List.map_nil] <;> rfl) rfl ?_; intro b3 hob4
  refine Y_fieldAddr F.foff28_2 ?_
  refine Y_load F.lay26 ?_
  refine Y_fieldAddr F.foff28_3 ?_
  refine Y_load F.lay26 ?_
  refine X_buildSliceF rfl rfl F.elem117 F.zero26 rfl rfl (.cons rfl (by constructor) (.cons rfl (by constructor) (.cons rfl (by constructor) .nil))) rfl rfl (by simp only [List.map_cons, List.map_nil] <;> rfl) rfl ?_; intro b5 hob6
  refine X_fhR2 rfl rfl F.ok82 rfl (all_ok M _ _ _ _ ⟨t_pred_addr, t_pred_id⟩ t_succ_a t_succ_c t_succ_l t_fingers_a t_fingers_c t_fingers_l hob6 hob4 k_t_succ k_t_fingers) (by repeat first | exact Rem.here _ | exact Rem.two | apply Rem.skip | apply Rem.over) (by repeat first | exact Rem.here _ | exact Rem.two | apply Rem.skip | apply Rem.over) (by rintro v M9 Hout w hm ⟨rfl, _⟩ hw; exact (hw.lower hm).c) (putE_some rfl) ?_
  rintro _ M1 _ hm1 ⟨rfl, q1, qc, qad, qrows, rfl, hq1, hq2, hqn, hq3, hqx⟩
  simp only [List.nil_append]
  refine XD_end ?_
  refine K_then ?_
  refine Y_pk [13, 3, 2, 1] ?_
  refine C_block ?_
  refine Y_pk [13, 3, 2, 1] ?_
  refine C_rangeFunc (enc := fun p : PeerV => [p.enc]) (xs := (qrows.map Sl.l).flatten) (Hi := []) (Hu := (b1, rowO [.one (.int .i64 t_self_addr), idSeg t_self_id, .one (.int .i64 t_pred_addr), idSeg t_pred_id, .one (Sl.val ⟨t_succ_a, t_succ_c, t_succ_l⟩), .one (Sl.val ⟨t_fingers_a, t_fingers_c, t_fingers_l⟩)] 28) :: (b2, rowO [.one (.slice none 0 0)] 26) :: []) (H0 := H) (fun pre M9 Hu => ∃ (acc : List PeerV) (v : Value) (hs : Hp), Hu = (b1, rowO [.one (.int .i64 t_self_addr), idSeg t_self_id, .one (.int .i64 t_pred_addr), idSeg t_pred_id, .one (Sl.val ⟨t_succ_a, t_succ_c, t_succ_l⟩), .one (Sl.val ⟨t_fingers_a, t_fingers_c, t_fingers_l⟩)] 28) :: (b2, rowO [.one v] 26) :: hs ∧ OSl 25 21 v hs (acc.map PeerV.segs) ∧ acc.length ≤ pre.length ∧ acc = pre.foldl (collStep ⟨t_self_addr, t_self_id⟩) []) (fun _ _ _ _ => False) rfl F.ok104 (all_seq M1 q1 qc qad qrows hq1 hq2 hqn hq3) (fun w hw => hw.c) ⟨[], _, [], rfl, OSl.nil, by simp, rfl⟩ (fun _ => rfl) rfl ?_ ?_ ?_
  ·rintro lp rdy bsy pre ⟨x_addr, x_id⟩ post M3 _ G hxs hm3 ⟨acc, v0, hs0, rfl, ho, hal, hI⟩
   obtain ⟨ad0, cp0, rfl⟩ := ho.valL
   have hml : (acc.map PeerV.segs).length = acc.length := List.length_map ..
   have hpl : pre.length ≤ 1000 := by
    have h9 := congrArg List.length (hqx.symm.trans hxs)
    simp only [List.length_cons, List.length_append] at h9
    omega
   simp only [List.cons_append, rEnv]
   refine C_region (l := [0, 1]) rfl ?_
   refine Y_alloc F.zero25 ?_; intro b7
   refine Y_store F.lay25 ?_
   refine XD_end ?_
   refine K_assign1 ?_
   refine C_block ?_
   refine C_seq ?_
   refine C_region (l := [0, 1, 2, 3, 4, 5, 6, 7, 8, 9, 10, 11, 12, 13, 14, 15, 16, 17]) rfl ?_
   refine Y_fieldAddr F.foff25_0 ?_
   refine Y_load F.lay3 ?_
   refine Y_cmp ?_
   refine Y_move ?_
   refine XD_part 18 rfl (fun hc8 => ?_) (fun hc8 => ?_)
   ·replace hc8 := dT hc8
    refine Y_fieldAddr F.foff25_0 ?_
    refine Y_load F.lay3 ?_
    refine Y_fieldAddr F.foff28_0 ?_
    refine Y_fieldAddr F.foff25_0 ?_
    refine Y_load F.lay3 ?_
    refine Y_cmp ?_
    refine Y_pick ?_
    refine Y_move ?_
    refine XD_part 26 rfl (fun hc9 => ?_) (fun hc9 => ?_)
    ·replace hc9 := nT hc9
     refine Y_load F.lay26 ?_
     refine Y_fieldAddr F.foff25_0 ?_
     refine Y_load F.lay3 ?_
     refine X_fo rfl rfl F.ok64 rfl (has_rd _ hs0 ⟨ad0, cp0, acc⟩ _ (ho.rd _) (by show acc.length ≤ 9223372036854775807; omega)) (by repeat first | exact Rem.here _ | exact Rem.two | apply Rem.skip | apply Rem.over) (putE_some rfl) ?_
     rintro _ M1 _ ⟨hM1, rfl⟩; subst M1
     refine Y_not ?_
     refine Y_pick ?_
     refine XD_end ?_
     refine K_then ?_
     refine Y_pk [32, 4, 3, 2] ?_
     refine C_cond rfl (fun hc10 => ?_) (fun hc10 => ?_)
     ·replace hc10 := nT hc10
      simp only [PeerV.eta, TableV.eta, RouteV.eta] at hc10
      refine C_region (l := [0, 1, 2, 3, 4]) rfl ?_
      refine Y_load F.lay26 ?_
      refine Y_load F.lay25 ?_
      refine X_buildSliceF rfl rfl F.elem26 F.zero25 rfl rfl (.cons rfl (by constructor) .nil) rfl rfl (by simp only [List.map_cons, List.map_nil] <;> rfl) rfl ?_; intro b11 hob12
      refine X_append (m := 1000000) rfl rfl rfl rfl rfl F.elem26 F.zero25 (by exact agg_size rfl) rfl (by assumption) (by repeat first | exact Rem.here _ | exact Rem.two | apply Rem.skip | apply Rem.over) (Src.own hob12.lens (by (refine rows_one1 ?_; (repeat (first | exact flat_nil | refine flat_id ?_ | (refine flat_one ?_ ?_; rfl))); done)) rfl (by repeat first | exact List.Mem.head _ | refine List.Mem.tail _ ?_ | refine List.mem_append_right _ ?_)) (by (simp; omega)) (by decide) rfl ?_; intro v15 hs14 ho13; obtain ⟨adv15, cpv15, rfl⟩ := ho13.valAt (n := acc.length + 1) (by (simp; done))
      refine Y_store F.lay26 ?_
      refine XD_end ?_
      refine K_out ?_
      refine K_rnd (Hu := (b1, rowO [.one (.int .i64 t_self_addr), idSeg t_self_id, .one (.int .i64 t_pred_addr), idSeg t_pred_id, .one (Sl.val ⟨t_succ_a, t_succ_c, t_succ_l⟩), .one (Sl.val ⟨t_fingers_a, t_fingers_c, t_fingers_l⟩)] 28) :: (b2, rowO [.one (.slice adv15 (acc.length + 1) cpv15)] 26) :: hs14) (Mem.le.refl _) (fun w hw => hw.c) ⟨acc ++ [⟨x_addr, x_id⟩], _, _, rfl, by rw [List.map_append]; exact ho13, by simp only [List.length_append, List.length_cons, List.length_nil]; omega, ?_⟩
      rw [met_step hI]; unfold collStep; rw [if_pos ⟨by assumption, by assumption, by assumption⟩]
     ·replace hc10 := nF hc10
      simp only [PeerV.eta, TableV.eta, RouteV.eta] at hc10
      refine C_skip ?_
      refine K_out ?_
      refine K_rnd (Hu := (b1, rowO [.one (.int .i64 t_self_addr), idSeg t_self_id, .one (.int .i64 t_pred_addr), idSeg t_pred_id, .one (Sl.val ⟨t_succ_a, t_succ_c, t_succ_l⟩), .one (Sl.val ⟨t_fingers_a, t_fingers_c, t_fingers_l⟩)] 28) :: (b2, rowO [.one (.slice ad0 acc.length cp0)] 26) :: hs0) (Mem.le.refl _) (fun w hw => hw.c) ⟨acc, _, _, rfl, ho, by simp only [List.length_append, List.length_cons, List.length_nil]; omega, ?_⟩
      rw [met_step hI]; unfold collStep; rw [if_neg (by rintro ⟨g1, g2, g3⟩; first | exact absurd g1 (by assumption) | exact absurd g2 (by assumption) | exact absurd (by assumption) g2 | exact absurd (by assumption) g3 | omega)]
    ·replace hc9 := nF hc9
     iterate 5 refine Y_skip ?_
     refine Y_pick ?_
     refine XD_end ?_
     refine K_then ?_
     refine Y_pk [32, 4, 3, 2] ?_
     refine C_false rfl ?_
     refine C_skip ?_
     refine K_out ?_
     refine K_rnd (Hu := (b1, rowO [.one (.int .i64 t_self_addr), idSeg t_self_id, .one (.int .i64 t_pred_addr), idSeg t_pred_id, .one (Sl.val ⟨t_succ_a, t_succ_c, t_succ_l⟩), .one (Sl.val ⟨t_fingers_a, t_fingers_c, t_fingers_l⟩)] 28) :: (b2, rowO [.one (.slice ad0 acc.length cp0)] 26) :: hs0) (Mem.le.refl _) (fun w hw => hw.c) ⟨acc, _, _, rfl, ho, by simp only [List.length_append, List.length_cons, List.length_nil]; omega, ?_⟩
     rw [met_step hI]; unfold collStep; rw [if_neg (by rintro ⟨g1, g2, g3⟩; first | exact absurd g1 (by assumption) | exact absurd g2 (by assumption) | exact absurd (by assumption) g2 | exact absurd (by assumption) g3 | omega)]
   ·replace hc8 := dF hc8
    iterate 6 refine Y_skip ?_
    refine Y_pick ?_
    refine Y_move ?_
    iterate 5 refine Y_skip ?_
    refine Y_pick ?_
    refine XD_end ?_
    refine K_then ?_
    refine Y_pk [32, 4, 3, 2] ?_
    refine C_false rfl ?_
    refine C_skip ?_
    refine K_out ?_
    refine K_rnd (Hu := (b1, rowO [.one (.int .i64 t_self_addr), idSeg t_self_id, .one (.int .i64 t_pred_addr), idSeg t_pred_id, .one (Sl.val ⟨t_succ_a, t_succ_c, t_succ_l⟩), .one (Sl.val ⟨t_fingers_a, t_fingers_c, t_fingers_l⟩)] 28) :: (b2, rowO [.one (.slice ad0 acc.length cp0)] 26) :: hs0) (Mem.le.refl _) (fun w hw => hw.c) ⟨acc, _, _, rfl, ho, by simp only [List.length_append, List.length_cons, List.length_nil]; omega, ?_⟩
    rw [met_step hI]; unfold collStep; rw [if_neg (by rintro ⟨g1, g2, g3⟩; first | exact absurd g1 (by assumption) | exact absurd g2 (by assumption) | exact absurd (by assumption) g2 | exact absurd (by assumption) g3 | omega)]
  ·rintro D L o M3 _ hm3 ⟨acc, v0, hs0, rfl, ho, hal, hI⟩
   obtain ⟨ad0, cp0, rfl⟩ := ho.valL
   have hpl : acc.length ≤ 1000 := by
    have h9 := congrArg List.length hqx
    simp only [List.length_cons, List.length_append] at h9
    omega
   simp only [List.cons_append, List.nil_append]
   refine K_out ?_
   refine K_then ?_
   refine Y_pk [3, 2] ?_
   refine C_seq ?_
   refine C_regionR (l := [0, 1]) (Hin := hs0) (by repeat first | exact Rem.here _ | exact Rem.two | apply Rem.skip | apply Rem.over) rfl ?_
   refine Y_load F.lay26 ?_
   refine X_fhR rfl rfl F.ok83 rfl (Sort_ok M3 ad0 cp0 acc hs0 ho (by omega)) (by repeat first | exact Rem.here _ | exact Rem.two | apply Rem.skip | apply Rem.over) (fun _ _ _ hm hw => (hw.lower (by exact hm)).c) (putE_some rfl) ?_
   rintro _ M4 hs9 hm4 ⟨hM4, rfl, l9, hp9, hs99, ho9⟩; subst M4
   refine XD_end ?_
   refine K_then ?_
   refine Y_pk [3, 2] ?_
   refine C_seq ?_
   refine C_region (l := [0, 1]) rfl ?_
   refine Y_load F.lay26 ?_
   refine Y_assign ?_
   refine XD_end ?_
   refine K_then ?_
   refine Y_pk [2] ?_
   refine C_ret ?_
   refine K_endM (Ds := [D]) (Hd := [(D, .deferred (some []))]) (H := hs9 ++ H) (.inr rfl) (.tmp rfl .nil) (fun w hw => hw.c) (by simp) (by simp) (fun w hw => ?_)
   obtain ⟨M9, j1, j2, j3⟩ := OSl.frz ho9 hw
   exact ⟨_, M9, rfl, hm1.trans (hm3.trans j1), j2, ⟨ad0, cp0, l9⟩, congrArg (fun n => Value.slice ad0 n cp0) (by simpa using hp9.length_eq.symm), known_is (by rw [hI, hqx] at hp9; exact hp9) hs99, j3⟩
  ·intro c D L o M2 Hu2 pre post _ _ h; exact h.elim

end Go.Proofs.Ytbjklbmmchiahaa
/-
  Who is nearest.
-/
set_option linter.unusedSimpArgs false
set_option linter.unusedVariables false
set_option linter.unnecessarySimpa false
set_option maxRecDepth 8000
set_option maxHeartbeats 1000000
namespace Go.Proofs.Ytbjklbmmchiahaa
open Go.Esp
theorem F.elem41 : slOf Try.prog 41 = some (3, 1, 8) := by kernel_rfl
theorem F.ok102 : okFn Try.prog 102 = true := by kernel_rfl
theorem F.ok38 : okFn Try.prog 38 = true := by kernel_rfl
theorem F.ok39 : okFn Try.prog 39 = true := by kernel_rfl
theorem F.ok75 : okFn Try.prog 75 = true := by kernel_rfl
theorem F.ok76 : okFn Try.prog 76 = true := by kernel_rfl

theorem IndexI_rd (M : Mem) (Hin : Hp) (l : Sl Int) (x : Int) (hl : RdS M Hin l.a (l.l.map (oneI .i64)) 1) (bl : l.l.length ≤ 9223372036854775807) : Fo Try.prog 102 [l.val, .int .i64 x] M Hin (fun M' v => M' = M ∧ v = .int .i64 (idxI x l.l)) := by
  have nl : (l.l.map (oneI .i64)).length = l.l.length := List.length_map ..
  refine fo_enter Try.func102 rfl Try.ntmps102 rfl ?_; intro H
  have hrd := hl.app H
  refine C_seq ?_
  refine C_region (l := [0]) rfl ?_
  refine Y_assign ?_
  refine XD_end ?_
  refine K_then ?_
  iterate 2 refine C_seq ?_
  refine C_region (l := [0, 1, 2]) rfl ?_
  refine Y_move ?_
  refine Y_len_sl F.elem41 ?_
  refine Y_move ?_
  refine XD_end ?_
  refine K_then ?_
  refine Y_pk [8, 7, 4, 0, 1] ?_
  refine C_block ?_
  refine Y_pk [8, 7, 4, 0, 1] ?_
  refine C_loopS (.succ .zero) (fun (k : Nat) z => z = [(8, .int .i64 (k : Int))] ∧ k ≤ l.l.length ∧ (x ∉ l.l.take k)) (fun k => l.l.length - k) (0) (⟨rfl, by omega, by simp⟩) ?_
  rintro k _ ⟨rfl, hk, hI⟩
  refine C_seq ?_
  refine C_region (l := [0]) rfl ?_
  refine Y_cmp ?_
  refine XD_end ?_
  refine K_then ?_
  refine C_seq ?_
  refine C_cond rfl (fun hc1 => ?_) (fun hc1 => ?_)
  ·replace hc1 := dT hc1
   refine C_skip ?_
   refine K_then ?_
   refine C_seq ?_
   refine C_block ?_
   refine C_seq ?_
   refine C_region (l := [0, 1]) rfl ?_
   refine Y_move ?_
   refine Y_assign ?_
   refine XD_end ?_
   refine K_then ?_
   refine C_seq ?_
   refine C_region (l := [0, 1, 2, 3, 4, 5]) rfl ?_
   iterate 3 refine Y_move ?_
   refine X_indexAddr rfl rfl rfl rfl F.elem41 (by rfl) (by omega) (by exact RdS.plain (by assumption) (by (simp; omega))) rfl ?_
   refine X_load_rd rfl rfl rfl (by assumption) (by exact row_map (by omega)) F.lay3 rfl rfl rfl ?_
   refine Y_cmp ?_
   refine XD_end ?_
   refine K_then ?_
   refine C_cond rfl (fun hc2 => ?_) (fun hc2 => ?_)
   ·replace hc2 := dT hc2
    refine C_seq ?_
    refine C_region (l := [0, 1]) rfl ?_
    refine Y_move ?_
    refine Y_assign ?_
    refine XD_end ?_
    refine K_then ?_
    refine C_ret ?_
    refine K_retB ?_
    iterate 2 refine K_ret ?_
    refine K_retB ?_
    refine K_ret ?_
    refine K_end (.inr rfl) (.tmp rfl .nil) (fun w hw => ?_)
    refine ⟨_, M, rfl, Mem.le.refl M, hw.c, rfl, ?_⟩
    refine congrArg (Value.int .i64) ?_
    exact (idxI_at (by omega) hI (by assumption)).symm
   ·replace hc2 := dF hc2
    refine C_skip ?_
    refine K_out ?_
    refine K_then ?_
    refine C_region (l := [0, 1]) rfl ?_
    refine X_ari rfl rfl rfl rfl rfl (by exact wrap_in (by decide) (by omega)) rfl ?_
    refine Y_move ?_
    refine XD_end ?_
    refine K_roundS (a' := [(8, _)]) (k + 1) (.cons (k := 8) rfl (.cons (k := 7) rfl (.cons (k := 4) rfl (.cons (k := 0) rfl (.cons (k := 1) rfl (.nil)))))) (fun w hw => by first | exact hw | exact hw.c) ?_ ?_
    ·refine ⟨rfl, by omega, ?_⟩
     exact not_take_succ (by omega) hI (by assumption)
    ·omega
  ·replace hc1 := dF hc1
   refine C_exit ?_
   iterate 2 refine K_exit ?_
   refine K_hit ?_
   refine K_then ?_
   refine Y_pk [4] ?_
   refine C_seq ?_
   refine C_region (l := [0]) rfl ?_
   refine Y_assign ?_
   refine XD_end ?_
   refine K_then ?_
   refine C_ret ?_
   refine K_end (.inr rfl) (.tmp rfl .nil) (fun w hw => ?_)
   refine ⟨_, M, rfl, Mem.le.refl M, hw.c, rfl, ?_⟩
   refine congrArg (Value.int .i64) ?_
   (have hk9 : k = l.l.length := (by omega); subst hk9; rw [List.take_length] at hI; exact (idxI_none hI).symm)

theorem ContainsI_rd (M : Mem) (Hin : Hp) (l : Sl Int) (x : Int) (hl : RdS M Hin l.a (l.l.map (oneI .i64)) 1) (bl : l.l.length ≤ 9223372036854775807) : Fo Try.prog 75 [l.val, .int .i64 x] M Hin (fun M' v => M' = M ∧ v = .bool (decide (x ∈ l.l))) := by
  refine fo_enter Try.func75 rfl Try.ntmps75 rfl ?_; intro H
  refine C_seq ?_
  refine C_region (l := [0]) rfl ?_
  refine Y_assign ?_
  refine XD_end ?_
  refine K_then ?_
  refine C_seq ?_
  refine C_region (l := [0, 1, 2, 3, 4]) rfl ?_
  iterate 2 refine Y_move ?_
  refine X_fo rfl rfl F.ok102 rfl (IndexI_rd _ Hin ⟨_, _, _⟩ _ hl bl) (by repeat first | exact Rem.here _ | exact Rem.two | apply Rem.skip | apply Rem.over) (putE_some rfl) ?_
  rintro _ M1 _ ⟨hM1, rfl⟩; subst M1
  refine Y_cmp ?_
  refine Y_assign ?_
  refine XD_end ?_
  refine K_then ?_
  refine Y_pk [4] ?_
  refine C_ret ?_
  refine K_end (.inr rfl) (.tmp rfl .nil) (fun w hw => ?_)
  exact ⟨_, M, rfl, Mem.le.refl M, hw.c, rfl, congrArg Value.bool (by simp [idxI_nn])⟩

theorem IndexI_ok (M : Mem) (l : Sl Int) (x : Int) (hl : SlM M l.a (l.l.map (oneI .i64)) 1) (bl : l.l.length ≤ maxLen) : Fs Try.prog 102 [l.val, .int .i64 x] M (fun v => v = .int .i64 (idxI x l.l)) :=
  fs_of_fo (IndexI_rd M [] l x (hl.rd []) bl)

theorem ContainsI_ok (M : Mem) (l : Sl Int) (x : Int) (hl : SlM M l.a (l.l.map (oneI .i64)) 1) (bl : l.l.length ≤ maxLen) : Fs Try.prog 75 [l.val, .int .i64 x] M (fun v => v = .bool (decide (x ∈ l.l))) :=
  fs_of_fo (ContainsI_rd M [] l x (hl.rd []) bl)

theorem in_ok (M : Mem) (l : (Sl Int)) (n : Int) (hl0 : SlK M (oneI .i64) 1 l) : Fs Try.prog 76 [Sl.val l, .int .i64 n] M (fun v => v = Value.bool (decide (n ∈ l.l))) := by
  obtain ⟨l_a, l_c, l_l⟩ := l
  have k_l : SlK M (oneI .i64) 1 ⟨l_a, l_c, l_l⟩ := hl0
  have s_l : SlM M l_a (l_l.map (oneI .i64)) 1 := k_l.h1
  have n_l : (l_l.map (oneI .i64)).length = l_l.length := List.length_map ..
  have m_l : l_l.length ≤ 9223372036854775807 := k_l.h2
  have c_l : l_l.length ≤ l_c := k_l.h3
  refine fs_enter Try.func76 rfl Try.ntmps76 rfl ?_; intro H
  refine C_seq ?_
  refine C_region (l := [0]) rfl ?_
  refine Y_assign ?_
  refine XD_end ?_
  refine K_then ?_
  iterate 2 refine C_seq ?_
  refine C_region (l := [0]) rfl ?_
  refine Y_assign ?_
  refine XD_end ?_
  refine K_then ?_
  refine C_block ?_
  refine Y_pk [5, 4, 0, 1] ?_
  refine C_loopS (.succ .zero) (fun (k : Nat) z => z = [(5, .int .i64 (k : Int))] ∧ k ≤ l_l.length ∧ (n ∉ l_l.take k)) (fun k => l_l.length - k) (0) (⟨rfl, by omega, by simp⟩) ?_
  rintro k _ ⟨rfl, hk, hI⟩
  iterate 2 refine C_seq ?_
  refine C_region (l := [0, 1, 2, 3]) rfl ?_
  iterate 2 refine Y_move ?_
  refine Y_len_sl F.elem41 ?_
  refine Y_cmp ?_
  refine XD_end ?_
  refine K_then ?_
  refine C_cond rfl (fun hc1 => ?_) (fun hc1 => ?_)
  ·replace hc1 := dT hc1
   refine C_skip ?_
   refine K_then ?_
   refine C_seq ?_
   refine C_block ?_
   refine C_seq ?_
   refine C_region (l := [0, 1, 2, 3, 4, 5]) rfl ?_
   iterate 2 refine Y_move ?_
   refine X_indexAddr rfl rfl rfl rfl F.elem41 (by rfl) (by omega) (by exact SlM.plain (by assumption) (by (simp; omega))) rfl ?_
   refine X_load_el rfl rfl rfl (by assumption) (by exact row_map (by omega)) F.lay3 rfl rfl rfl ?_
   refine Y_move ?_
   refine Y_cmp ?_
   refine XD_end ?_
   refine K_then ?_
   refine C_cond rfl (fun hc2 => ?_) (fun hc2 => ?_)
   ·replace hc2 := dT hc2
    refine C_seq ?_
    refine C_region (l := [0]) rfl ?_
    refine Y_assign ?_
    refine XD_end ?_
    refine K_then ?_
    refine C_ret ?_
    refine K_retB ?_
    iterate 2 refine K_ret ?_
    refine K_retB ?_
    refine K_ret ?_
    refine K_end (.inr rfl) (.tmp rfl .nil) (fun w hw => ?_)
    refine ⟨_, rfl, (hw.c), ?_⟩
    clear hw
    refine congrArg Value.bool ?_
    (refine (decide_eq_true ?_).symm; have h9 := List.getElem_mem (l := l_l) (n := k) (by omega); simp_all)
   ·replace hc2 := dF hc2
    refine C_skip ?_
    refine K_out ?_
    refine K_then ?_
    refine C_region (l := [0, 1, 2]) rfl ?_
    refine Y_move ?_
    refine X_ari rfl rfl rfl rfl rfl (by exact wrap_in (by decide) (by omega)) rfl ?_
    refine Y_assign ?_
    refine XD_end ?_
    refine K_roundS (a' := [(5, _)]) (k + 1) (.cons (k := 5) rfl (.cons (k := 4) rfl (.cons (k := 0) rfl (.cons (k := 1) rfl (.nil))))) (fun w hw => by first | exact hw | exact hw.c) ?_ ?_
    ·refine ⟨rfl, by omega, ?_⟩
     exact not_take_succ (by omega) hI (fun h9 => absurd h9.symm (by assumption))
    ·omega
  ·replace hc1 := dF hc1
   refine C_exit ?_
   iterate 2 refine K_exit ?_
   refine K_hit ?_
   refine K_then ?_
   refine Y_pk [4] ?_
   refine C_seq ?_
   refine C_region (l := [0]) rfl ?_
   refine Y_assign ?_
   refine XD_end ?_
   refine K_then ?_
   refine C_ret ?_
   refine K_end (.inr rfl) (.tmp rfl .nil) (fun w hw => ?_)
   refine ⟨_, rfl, (hw.c), ?_⟩
   clear hw
   refine congrArg Value.bool ?_
   (have hk9 : k = l_l.length := (by omega); subst hk9; rw [List.take_length] at hI; exact (decide_eq_false hI).symm)

theorem Nearest_ok (M : Mem) (t : TableV) (id : Plc) (avoid : (Sl Int)) (ht0 : TableV.ok M t) (havoid1 : SlK M (oneI .i64) 1 avoid) (hbig : t.succ.l.length ≤ 40 ∧ t.fingers.l.length ≤ 200) : Esp.Fn Try.prog 27 [t.enc, aggV [idSeg id], Sl.val avoid] M (fun M' v => v = ofPB (nearestT t.tb id avoid.l)) := by
  obtain ⟨⟨t_self_addr, t_self_id⟩, ⟨t_pred_addr, t_pred_id⟩, ⟨t_succ_a, t_succ_c, t_succ_l⟩, ⟨t_fingers_a, t_fingers_c, t_fingers_l⟩⟩ := t
  obtain ⟨avoid_a, avoid_c, avoid_l⟩ := avoid
  have k_t_succ : SlK M PeerV.segs 21 ⟨t_succ_a, t_succ_c, t_succ_l⟩ := ht0.h0
  have s_t_succ : SlM M t_succ_a (t_succ_l.map PeerV.segs) 21 := k_t_succ.h1
  have n_t_succ : (t_succ_l.map PeerV.segs).length = t_succ_l.length := List.length_map ..
  have m_t_succ : t_succ_l.length ≤ 9223372036854775807 := k_t_succ.h2
  have c_t_succ : t_succ_l.length ≤ t_succ_c := k_t_succ.h3
  have k_t_fingers : SlK M PeerV.segs 21 ⟨t_fingers_a, t_fingers_c, t_fingers_l⟩ := ht0.h1
  have s_t_fingers : SlM M t_fingers_a (t_fingers_l.map PeerV.segs) 21 := k_t_fingers.h1
  have n_t_fingers : (t_fingers_l.map PeerV.segs).length = t_fingers_l.length := List.length_map ..
  have m_t_fingers : t_fingers_l.length ≤ 9223372036854775807 := k_t_fingers.h2
  have c_t_fingers : t_fingers_l.length ≤ t_fingers_c := k_t_fingers.h3
  have k_avoid : SlK M (oneI .i64) 1 ⟨avoid_a, avoid_c, avoid_l⟩ := havoid1
  have s_avoid : SlM M avoid_a (avoid_l.map (oneI .i64)) 1 := k_avoid.h1
  have n_avoid : (avoid_l.map (oneI .i64)).length = avoid_l.length := List.length_map ..
  have m_avoid : avoid_l.length ≤ 9223372036854775807 := k_avoid.h2
  have c_avoid : avoid_l.length ≤ avoid_c := k_avoid.h3
  simp only at hbig
  refine fn_enter Try.func27 rfl Try.ntmps27 rfl ?_; intro H
  refine C_seq ?_
  refine C_region (l := [0, 1, 2, 3]) rfl ?_
  refine Y_box ?_; intro b1
  refine Y_box ?_; intro b2
  refine Y_alloc F.zero25 ?_; intro b3
  refine Y_assign ?_
  refine XD_end ?_
  refine K_then ?_
  refine Y_pk [7, 6, 4, 3, 2] ?_
  refine C_seq ?_
  refine C_region (l := [0, 1, 2, 3]) rfl ?_
  refine X_fs rfl rfl F.ok61 rfl (None_ok _) rfl ?_
  rintro _ rfl
  refine XD_is 12 rfl (show _ = aggV [.one (.int .i64 (-1)), idSeg 0] from rfl) ?_
  refine Y_alloc F.zero25 ?_; intro b4
  refine Y_store F.lay25 ?_
  refine Y_assign ?_
  refine XD_end ?_
  refine K_then ?_
  refine Y_pk [9, 8, 7, 6, 4, 3, 2] ?_
  iterate 2 refine C_seq ?_
  refine C_region (l := [0, 1, 2, 3]) rfl ?_
  refine Y_load F.lay28 ?_
  refine X_fn rfl rfl F.ok38 rfl (Known_ok M ⟨⟨t_self_addr, t_self_id⟩, ⟨t_pred_addr, t_pred_id⟩, ⟨t_succ_a, t_succ_c, t_succ_l⟩, ⟨t_fingers_a, t_fingers_c, t_fingers_l⟩⟩ ht0 hbig) rfl ?_
  rintro _ M1 hm1 ⟨⟨ps_a, ps_c, ps_l⟩, rfl, hps, k_ps⟩
  have s_ps := k_ps.h1
  have n_ps : (ps_l.map PeerV.segs).length = ps_l.length := List.length_map ..
  have m_ps : ps_l.length ≤ 9223372036854775807 := k_ps.h2
  simp only at hps s_ps
  refine Y_len_sl F.elem26 ?_
  refine Y_move ?_
  refine XD_end ?_
  refine K_then ?_
  refine Y_pk [16, 15, 14, 9, 8, 7, 6, 4, 3, 2] ?_
  refine C_block ?_
  refine Y_pk [16, 9, 15, 14, 8, 7, 6, 4, 3, 2] ?_
  refine C_loopO (Hin := [(b4, rowO [.one (.int .i64 (-1)), idSeg 0] 25)]) (.succ (.succ .zero)) (by repeat first | exact Rem.here _ | exact Rem.two | apply Rem.skip | apply Rem.over) (fun (k : Nat) M9 h1 z => ∃ r : PeerV × Bool, M9 = M1 ∧ z = [(16, .int .i64 (k : Int)), (9, .bool r.2)] ∧ k ≤ ps_l.length ∧ h1 = [(b4, rowO [.one (.int .i64 r.1.addr), idSeg r.1.id] 25)] ∧ (ps_l.take (k)).foldl (nearStep ⟨t_self_addr, t_self_id⟩ id avoid_l) (noneP, false) = r) (fun k => ps_l.length - k) (0) (⟨(noneP, false), rfl, rfl, by omega, rfl, rfl⟩) ?_
  rintro k M2 h1 z hm2 ⟨⟨⟨ra, ri⟩, rb⟩, hM2, rfl, hk, rfl, hI⟩
  subst hM2
  rcases rb with _ | _
  ·skip
   refine C_seq ?_
   refine C_region (l := [0]) rfl ?_
   refine Y_cmp ?_
   refine XD_end ?_
   refine K_then ?_
   refine C_seq ?_
   refine C_cond rfl (fun hc5 => ?_) (fun hc5 => ?_)
   ·replace hc5 := dT hc5
    refine C_skip ?_
    refine K_then ?_
    refine C_seq ?_
    refine C_block ?_
    refine C_seq ?_
    obtain ⟨⟨x_addr, x_id⟩, hx⟩ : ∃ x, ps_l[k] = x := ⟨_, rfl⟩
    refine C_region (l := [0, 1, 2, 3]) rfl ?_
    refine X_indexAddr rfl rfl rfl rfl F.elem26 (by rfl) (by omega) (by exact SlM.plain (by assumption) (by (simp; omega))) rfl ?_
    refine X_load_el rfl rfl rfl s_ps (show (ps_l.map PeerV.segs)[k]? = some (PeerV.segs ⟨x_addr, x_id⟩) by rw [List.getElem?_map, List.getElem?_eq_getElem (by omega), hx]; rfl) F.lay25 rfl rfl rfl ?_
    refine Y_alloc F.zero25 ?_; intro b6
    refine Y_store F.lay25 ?_
    refine XD_end ?_
    refine K_then ?_
    iterate 2 refine C_seq ?_
    refine C_region (l := [0, 1, 2, 3, 4, 5, 6, 7, 8, 9, 10, 11, 12, 13]) rfl ?_
    refine Y_move ?_
    refine Y_fieldAddr F.foff25_0 ?_
    refine Y_load F.lay3 ?_
    refine X_fs rfl rfl F.ok75 rfl (ContainsI_ok _ ⟨_, _, _⟩ _ (by exact SlM.mono (by assumption) (by repeat first | assumption | refine Mem.le.trans (by assumption) ?_)) (by assumption)) rfl ?_
    rintro _ rfl
    refine Y_move ?_
    refine XD_part 24 rfl (fun hc7 => ?_) (fun hc7 => ?_)
    ·replace hc7 := dT hc7
     simp only [PeerV.eta, TableV.eta, RouteV.eta] at hc7
     iterate 8 refine Y_skip ?_
     refine Y_pick ?_
     refine XD_end ?_
     refine K_then ?_
     refine C_true rfl ?_
     refine C_exit ?_
     refine K_exit ?_
     refine K_hit ?_
     refine K_then ?_
     refine C_region (l := [0, 1]) rfl ?_
     refine X_ari rfl rfl rfl rfl rfl (by exact wrap_in (by decide) (by omega)) rfl ?_
     refine Y_move ?_
     refine XD_end ?_
     refine K_roundO (a' := [(16, _), (9, _)]) (k + 1) ([(b4, rowO [.one (.int .i64 ra), idSeg ri] 25)]) (.cons (k := 16) rfl (.cons (k := 9) rfl (.cons (k := 15) rfl (.cons (k := 14) rfl (.cons (k := 8) rfl (.cons (k := 7) rfl (.cons (k := 6) rfl (.cons (k := 4) rfl (.cons (k := 3) rfl (.cons (k := 2) rfl (.nil))))))))))) (by exact Mem.le.refl _) (fun w hw => by first | exact hw | exact hw.c) ?_ ?_
     ·exact ⟨(⟨ra, ri⟩, false), rfl, rfl, by omega, rfl, by rw [foldl_take (by omega : k < ps_l.length), hI, hx]; unfold nearStep; rw [if_pos (by exact .inl (by assumption))]⟩
     ·omega
    ·replace hc7 := dF hc7
     simp only [PeerV.eta, TableV.eta, RouteV.eta] at hc7
     refine Y_fieldAddr F.foff28_0 ?_
     refine Y_fieldAddr F.foff25_1 ?_
     refine Y_load F.lay23 ?_
     refine Y_fieldAddr F.foff25_1 ?_
     iterate 2 refine Y_load F.lay23 ?_
     refine X_fs rfl rfl F.ok42 rfl (Open_ok _ _ _ _) rfl ?_
     rintro _ rfl
     refine Y_not ?_
     refine Y_pick ?_
     refine XD_end ?_
     refine K_then ?_
     refine C_cond rfl (fun hc8 => ?_) (fun hc8 => ?_)
     ·replace hc8 := nT hc8
      refine C_exit ?_
      refine K_exit ?_
      refine K_hit ?_
      refine K_then ?_
      refine C_region (l := [0, 1]) rfl ?_
      refine X_ari rfl rfl rfl rfl rfl (by exact wrap_in (by decide) (by omega)) rfl ?_
      refine Y_move ?_
      refine XD_end ?_
      refine K_roundO (a' := [(16, _), (9, _)]) (k + 1) ([(b4, rowO [.one (.int .i64 ra), idSeg ri] 25)]) (.cons (k := 16) rfl (.cons (k := 9) rfl (.cons (k := 15) rfl (.cons (k := 14) rfl (.cons (k := 8) rfl (.cons (k := 7) rfl (.cons (k := 6) rfl (.cons (k := 4) rfl (.cons (k := 3) rfl (.cons (k := 2) rfl (.nil))))))))))) (by exact Mem.le.refl _) (fun w hw => by first | exact hw | exact hw.c) ?_ ?_
      ·exact ⟨(⟨ra, ri⟩, false), rfl, rfl, by omega, rfl, by rw [foldl_take (by omega : k < ps_l.length), hI, hx]; unfold nearStep; rw [if_pos (by exact .inr (by assumption))]⟩
      ·omega
     ·replace hc8 := nF hc8
      refine C_skip ?_
      refine K_then ?_
      refine C_seq ?_
      refine C_region (l := [0, 1, 2, 3, 4, 5, 6, 7, 8, 9]) rfl ?_
      refine Y_move ?_
      refine Y_not ?_
      refine Y_move ?_
      iterate 6 refine Y_skip ?_
      refine Y_pick ?_
      refine XD_end ?_
      refine K_then ?_
      refine C_true rfl ?_
      refine C_region (l := [0, 1, 2]) rfl ?_
      refine Y_load F.lay25 ?_
      refine Y_store F.lay25 ?_
      refine Y_assign ?_
      refine XD_end ?_
      refine K_out ?_
      refine K_then ?_
      refine C_region (l := [0, 1]) rfl ?_
      refine X_ari rfl rfl rfl rfl rfl (by exact wrap_in (by decide) (by omega)) rfl ?_
      refine Y_move ?_
      refine XD_end ?_
      refine K_roundO (a' := [(16, _), (9, _)]) (k + 1) ([(b4, rowO [.one (.int .i64 x_addr), idSeg x_id] 25)]) (.cons (k := 16) rfl (.cons (k := 9) rfl (.cons (k := 15) rfl (.cons (k := 14) rfl (.cons (k := 8) rfl (.cons (k := 7) rfl (.cons (k := 6) rfl (.cons (k := 4) rfl (.cons (k := 3) rfl (.cons (k := 2) rfl (.nil))))))))))) (by exact Mem.le.refl _) (fun w hw => by first | exact hw | exact hw.c) ?_ ?_
      ·exact ⟨(⟨x_addr, x_id⟩, true), rfl, rfl, by omega, rfl, by rw [foldl_take (by omega : k < ps_l.length), hI, hx]; unfold nearStep; rw [if_neg (by rintro (g1 | g1); exact absurd g1 (by assumption); exact g1 (by assumption)), if_pos (.inl rfl)]⟩
      ·omega
   ·replace hc5 := dF hc5
    refine C_exit ?_
    iterate 2 refine K_exit ?_
    refine K_hit ?_
    refine K_then ?_
    refine Y_pk [9, 8, 7, 6] ?_
    refine C_seq ?_
    refine C_region (l := [0, 1, 2, 3]) rfl ?_
    refine Y_load F.lay25 ?_
    refine Y_move ?_
    refine Y_store F.lay25 ?_
    refine Y_assign ?_
    refine XD_end ?_
    refine K_then ?_
    refine Y_pk [7, 6] ?_
    refine C_ret ?_
    refine K_end (.inr rfl) (.cell rfl (by repeat first | exact List.Mem.head _ | refine List.Mem.tail _ ?_ | refine List.mem_append_right _ ?_) F.lay25 rfl rfl (.tmp rfl .nil)) (fun w hw => ?_)
    obtain rfl : k = ps_l.length := by omega
    rw [List.take_length, hps] at hI
    refine ⟨_, M2, rfl, hm1, hw.c, ?_⟩
    unfold nearestT
    rw [show (TableV.tb ⟨⟨t_self_addr, t_self_id⟩, ⟨t_pred_addr, t_pred_id⟩, ⟨t_succ_a, t_succ_c, t_succ_l⟩, ⟨t_fingers_a, t_fingers_c, t_fingers_l⟩⟩).self = ⟨t_self_addr, t_self_id⟩ from rfl, hI]; rfl
  ·skip
   refine C_seq ?_
   refine C_region (l := [0]) rfl ?_
   refine Y_cmp ?_
   refine XD_end ?_
   refine K_then ?_
   refine C_seq ?_
   refine C_cond rfl (fun hc9 => ?_) (fun hc9 => ?_)
   ·replace hc9 := dT hc9
    refine C_skip ?_
    refine K_then ?_
    refine C_seq ?_
    refine C_block ?_
    refine C_seq ?_
    obtain ⟨⟨x_addr, x_id⟩, hx⟩ : ∃ x, ps_l[k] = x := ⟨_, rfl⟩
    refine C_region (l := [0, 1, 2, 3]) rfl ?_
    refine X_indexAddr rfl rfl rfl rfl F.elem26 (by rfl) (by omega) (by exact SlM.plain (by assumption) (by (simp; omega))) rfl ?_
    refine X_load_el rfl rfl rfl s_ps (show (ps_l.map PeerV.segs)[k]? = some (PeerV.segs ⟨x_addr, x_id⟩) by rw [List.getElem?_map, List.getElem?_eq_getElem (by omega), hx]; rfl) F.lay25 rfl rfl rfl ?_
    refine Y_alloc F.zero25 ?_; intro b10
    refine Y_store F.lay25 ?_
    refine XD_end ?_
    refine K_then ?_
    iterate 2 refine C_seq ?_
    refine C_region (l := [0, 1, 2, 3, 4, 5, 6, 7, 8, 9, 10, 11, 12, 13]) rfl ?_
    refine Y_move ?_
    refine Y_fieldAddr F.foff25_0 ?_
    refine Y_load F.lay3 ?_
    refine X_fs rfl rfl F.ok75 rfl (ContainsI_ok _ ⟨_, _, _⟩ _ (by exact SlM.mono (by assumption) (by repeat first | assumption | refine Mem.le.trans (by assumption) ?_)) (by assumption)) rfl ?_
    rintro _ rfl
    refine Y_move ?_
    refine XD_part 24 rfl (fun hc11 => ?_) (fun hc11 => ?_)
    ·replace hc11 := dT hc11
     simp only [PeerV.eta, TableV.eta, RouteV.eta] at hc11
     iterate 8 refine Y_skip ?_
     refine Y_pick ?_
     refine XD_end ?_
     refine K_then ?_
     refine C_true rfl ?_
     refine C_exit ?_
     refine K_exit ?_
     refine K_hit ?_
     refine K_then ?_
     refine C_region (l := [0, 1]) rfl ?_
     refine X_ari rfl rfl rfl rfl rfl (by exact wrap_in (by decide) (by omega)) rfl ?_
     refine Y_move ?_
     refine XD_end ?_
     refine K_roundO (a' := [(16, _), (9, _)]) (k + 1) ([(b4, rowO [.one (.int .i64 ra), idSeg ri] 25)]) (.cons (k := 16) rfl (.cons (k := 9) rfl (.cons (k := 15) rfl (.cons (k := 14) rfl (.cons (k := 8) rfl (.cons (k := 7) rfl (.cons (k := 6) rfl (.cons (k := 4) rfl (.cons (k := 3) rfl (.cons (k := 2) rfl (.nil))))))))))) (by exact Mem.le.refl _) (fun w hw => by first | exact hw | exact hw.c) ?_ ?_
     ·exact ⟨(⟨ra, ri⟩, true), rfl, rfl, by omega, rfl, by rw [foldl_take (by omega : k < ps_l.length), hI, hx]; unfold nearStep; rw [if_pos (by exact .inl (by assumption))]⟩
     ·omega
    ·replace hc11 := dF hc11
     simp only [PeerV.eta, TableV.eta, RouteV.eta] at hc11
     refine Y_fieldAddr F.foff28_0 ?_
     refine Y_fieldAddr F.foff25_1 ?_
     refine Y_load F.lay23 ?_
     refine Y_fieldAddr F.foff25_1 ?_
     iterate 2 refine Y_load F.lay23 ?_
     refine X_fs rfl rfl F.ok42 rfl (Open_ok _ _ _ _) rfl ?_
     rintro _ rfl
     refine Y_not ?_
     refine Y_pick ?_
     refine XD_end ?_
     refine K_then ?_
     refine C_cond rfl (fun hc12 => ?_) (fun hc12 => ?_)
     ·replace hc12 := nT hc12
      refine C_exit ?_
      refine K_exit ?_
      refine K_hit ?_
      refine K_then ?_
      refine C_region (l := [0, 1]) rfl ?_
      refine X_ari rfl rfl rfl rfl rfl (by exact wrap_in (by decide) (by omega)) rfl ?_
      refine Y_move ?_
      refine XD_end ?_
      refine K_roundO (a' := [(16, _), (9, _)]) (k + 1) ([(b4, rowO [.one (.int .i64 ra), idSeg ri] 25)]) (.cons (k := 16) rfl (.cons (k := 9) rfl (.cons (k := 15) rfl (.cons (k := 14) rfl (.cons (k := 8) rfl (.cons (k := 7) rfl (.cons (k := 6) rfl (.cons (k := 4) rfl (.cons (k := 3) rfl (.cons (k := 2) rfl (.nil))))))))))) (by exact Mem.le.refl _) (fun w hw => by first | exact hw | exact hw.c) ?_ ?_
      ·exact ⟨(⟨ra, ri⟩, true), rfl, rfl, by omega, rfl, by rw [foldl_take (by omega : k < ps_l.length), hI, hx]; unfold nearStep; rw [if_pos (by exact .inr (by assumption))]⟩
      ·omega
     ·replace hc12 := nF hc12
      refine C_skip ?_
      refine K_then ?_
      refine C_seq ?_
      refine C_region (l := [0, 1, 2, 3, 4, 5, 6, 7, 8, 9]) rfl ?_
      refine Y_move ?_
      refine Y_not ?_
      refine Y_move ?_
      refine Y_fieldAddr F.foff25_1 ?_
      refine Y_load F.lay23 ?_
      refine Y_fieldAddr F.foff25_1 ?_
      iterate 2 refine Y_load F.lay23 ?_
      refine X_fs rfl rfl F.ok42 rfl (Open_ok _ _ _ _) rfl ?_
      rintro _ rfl
      refine Y_pick ?_
      refine XD_end ?_
      refine K_then ?_
      refine C_cond rfl (fun hc13 => ?_) (fun hc13 => ?_)
      ·replace hc13 := dT hc13
       simp only [PeerV.eta, TableV.eta, RouteV.eta] at hc13
       refine C_region (l := [0, 1, 2]) rfl ?_
       refine Y_load F.lay25 ?_
       refine Y_store F.lay25 ?_
       refine Y_assign ?_
       refine XD_end ?_
       refine K_out ?_
       refine K_then ?_
       refine C_region (l := [0, 1]) rfl ?_
       refine X_ari rfl rfl rfl rfl rfl (by exact wrap_in (by decide) (by omega)) rfl ?_
       refine Y_move ?_
       refine XD_end ?_
       refine K_roundO (a' := [(16, _), (9, _)]) (k + 1) ([(b4, rowO [.one (.int .i64 x_addr), idSeg x_id] 25)]) (.cons (k := 16) rfl (.cons (k := 9) rfl (.cons (k := 15) rfl (.cons (k := 14) rfl (.cons (k := 8) rfl (.cons (k := 7) rfl (.cons (k := 6) rfl (.cons (k := 4) rfl (.cons (k := 3) rfl (.cons (k := 2) rfl (.nil))))))))))) (by exact Mem.le.refl _) (fun w hw => by first | exact hw | exact hw.c) ?_ ?_
       ·exact ⟨(⟨x_addr, x_id⟩, true), rfl, rfl, by omega, rfl, by rw [foldl_take (by omega : k < ps_l.length), hI, hx]; unfold nearStep; rw [if_neg (by rintro (g1 | g1); exact absurd g1 (by assumption); exact g1 (by assumption)), if_pos (.inr (by assumption))]⟩
       ·omega
      ·replace hc13 := dF hc13
       simp only [PeerV.eta, TableV.eta, RouteV.eta] at hc13
       refine C_skip ?_
       refine K_out ?_
       refine K_then ?_
       refine C_region (l := [0, 1]) rfl ?_
       refine X_ari rfl rfl rfl rfl rfl (by exact wrap_in (by decide) (by omega)) rfl ?_
       refine Y_move ?_
       refine XD_end ?_
       refine K_roundO (a' := [(16, _), (9, _)]) (k + 1) ([(b4, rowO [.one (.int .i64 ra), idSeg ri] 25)]) (.cons (k := 16) rfl (.cons (k := 9) rfl (.cons (k := 15) rfl (.cons (k := 14) rfl (.cons (k := 8) rfl (.cons (k := 7) rfl (.cons (k := 6) rfl (.cons (k := 4) rfl (.cons (k := 3) rfl (.cons (k := 2) rfl (.nil))))))))))) (by exact Mem.le.refl _) (fun w hw => by first | exact hw | exact hw.c) ?_ ?_
       ·exact ⟨(⟨ra, ri⟩, true), rfl, rfl, by omega, rfl, by rw [foldl_take (by omega : k < ps_l.length), hI, hx]; unfold nearStep; rw [if_neg (by rintro (g1 | g1); exact absurd g1 (by assumption); exact g1 (by assumption)), if_neg (by rintro (g1 | g1); cases g1; exact absurd g1 (by assumption))]⟩
       ·omega
   ·replace hc9 := dF hc9
    refine C_exit ?_
    iterate 2 refine K_exit ?_
    refine K_hit ?_
    refine K_then ?_
    refine Y_pk [9, 8, 7, 6] ?_
    refine C_seq ?_
    refine C_region (l := [0, 1, 2, 3]) rfl ?_
    refine Y_load F.lay25 ?_
    refine Y_move ?_
    refine Y_store F.lay25 ?_
    refine Y_assign ?_
    refine XD_end ?_
    refine K_then ?_
    refine Y_pk [7, 6] ?_
    refine C_ret ?_
    refine K_end (.inr rfl) (.cell rfl (by repeat first | exact List.Mem.head _ | refine List.Mem.tail _ ?_ | refine List.mem_append_right _ ?_) F.lay25 rfl rfl (.tmp rfl .nil)) (fun w hw => ?_)
    obtain rfl : k = ps_l.length := by omega
    rw [List.take_length, hps] at hI
    refine ⟨_, M2, rfl, hm1, hw.c, ?_⟩
    unfold nearestT
    rw [show (TableV.tb ⟨⟨t_self_addr, t_self_id⟩, ⟨t_pred_addr, t_pred_id⟩, ⟨t_succ_a, t_succ_c, t_succ_l⟩, ⟨t_fingers_a, t_fingers_c, t_fingers_l⟩⟩).self = ⟨t_self_addr, t_self_id⟩ from rfl, hI]; rfl

theorem rNearest_ok (M : Mem) (t : TableV) (id : Plc) (avoid : (Sl Int)) (ht0 : TableV.ok M t) (havoid1 : SlK M (oneI .i64) 1 avoid) (hbig : t.succ.l.length ≤ 40 ∧ t.fingers.l.length ≤ 200) : Esp.Fn Try.prog 28 [t.enc, aggV [idSeg id], Sl.val avoid] M (fun M' v => v = ofPB (nearestT t.tb id avoid.l)) := by
  obtain ⟨⟨t_self_addr, t_self_id⟩, ⟨t_pred_addr, t_pred_id⟩, ⟨t_succ_a, t_succ_c, t_succ_l⟩, ⟨t_fingers_a, t_fingers_c, t_fingers_l⟩⟩ := t
  obtain ⟨avoid_a, avoid_c, avoid_l⟩ := avoid
  have k_t_succ : SlK M PeerV.segs 21 ⟨t_succ_a, t_succ_c, t_succ_l⟩ := ht0.h0
  have s_t_succ : SlM M t_succ_a (t_succ_l.map PeerV.segs) 21 := k_t_succ.h1
  have n_t_succ : (t_succ_l.map PeerV.segs).length = t_succ_l.length := List.length_map ..
  have m_t_succ : t_succ_l.length ≤ 9223372036854775807 := k_t_succ.h2
  have c_t_succ : t_succ_l.length ≤ t_succ_c := k_t_succ.h3
  have k_t_fingers : SlK M PeerV.segs 21 ⟨t_fingers_a, t_fingers_c, t_fingers_l⟩ := ht0.h1
  have s_t_fingers : SlM M t_fingers_a (t_fingers_l.map PeerV.segs) 21 := k_t_fingers.h1
  have n_t_fingers : (t_fingers_l.map PeerV.segs).length = t_fingers_l.length := List.length_map ..
  have m_t_fingers : t_fingers_l.length ≤ 9223372036854775807 := k_t_fingers.h2
  have c_t_fingers : t_fingers_l.length ≤ t_fingers_c := k_t_fingers.h3
  have k_avoid : SlK M (oneI .i64) 1 ⟨avoid_a, avoid_c, avoid_l⟩ := havoid1
  have s_avoid : SlM M avoid_a (avoid_l.map (oneI .i64)) 1 := k_avoid.h1
  have n_avoid : (avoid_l.map (oneI .i64)).length = avoid_l.length := List.length_map ..
  have m_avoid : avoid_l.length ≤ 9223372036854775807 := k_avoid.h2
  have c_avoid : avoid_l.length ≤ avoid_c := k_avoid.h3
  simp only at hbig
  refine fn_enter Try.func28 rfl Try.ntmps28 rfl ?_; intro H
  refine C_seq ?_
  refine C_region (l := [0, 1, 2, 3]) rfl ?_
  refine Y_box ?_; intro b1
  refine Y_box ?_; intro b2
  refine Y_alloc F.zero25 ?_; intro b3
  refine Y_assign ?_
  refine XD_end ?_
  refine K_then ?_
  refine Y_pk [7, 6, 4, 3, 2] ?_
  refine C_seq ?_
  refine C_region (l := [0, 1, 2]) rfl ?_
  refine X_fs rfl rfl F.ok43 rfl (rNone_ok _) rfl ?_
  rintro _ rfl
  refine XD_is 13 rfl (show _ = aggV [.one (.int .i64 (-1)), idSeg 0] from rfl) ?_
  refine Y_alloc F.zero25 ?_; intro b4
  refine Y_store F.lay25 ?_
  refine XD_end ?_
  refine K_then ?_
  refine Y_pk [8, 7, 6, 4, 3, 2] ?_
  refine C_seq ?_
  refine C_region (l := [0]) rfl ?_
  refine Y_assign ?_
  refine XD_end ?_
  refine K_then ?_
  refine C_seq ?_
  refine C_region (l := [0, 1, 2]) rfl ?_
  refine Y_load F.lay28 ?_
  refine X_fn rfl rfl F.ok39 rfl (rKnown_ok M ⟨⟨t_self_addr, t_self_id⟩, ⟨t_pred_addr, t_pred_id⟩, ⟨t_succ_a, t_succ_c, t_succ_l⟩, ⟨t_fingers_a, t_fingers_c, t_fingers_l⟩⟩ ht0 hbig) rfl ?_
  rintro _ M1 hm1 ⟨⟨ps_a, ps_c, ps_l⟩, rfl, hps, k_ps⟩
  have s_ps := k_ps.h1
  have n_ps : (ps_l.map PeerV.segs).length = ps_l.length := List.length_map ..
  have m_ps : ps_l.length ≤ 9223372036854775807 := k_ps.h2
  simp only at hps s_ps
  refine Y_assign ?_
  refine XD_end ?_
  refine K_then ?_
  refine Y_pk [10, 9, 8, 7, 6, 4, 3, 2] ?_
  iterate 2 refine C_seq ?_
  refine C_region (l := [0]) rfl ?_
  refine Y_assign ?_
  refine XD_end ?_
  refine K_then ?_
  refine C_block ?_
  refine Y_pk [11, 9, 10, 8, 7, 6, 4, 3, 2] ?_
  refine C_loopO (Hin := [(b4, rowO [.one (.int .i64 (-1)), idSeg 0] 25)]) (.succ (.succ .zero)) (by repeat first | exact Rem.here _ | exact Rem.two | apply Rem.skip | apply Rem.over) (fun (k : Nat) M9 h1 z => ∃ r : PeerV × Bool, M9 = M1 ∧ z = [(11, .int .i64 (k : Int)), (9, .bool r.2)] ∧ k ≤ ps_l.length ∧ h1 = [(b4, rowO [.one (.int .i64 r.1.addr), idSeg r.1.id] 25)] ∧ (ps_l.take (k)).foldl (nearStep ⟨t_self_addr, t_self_id⟩ id avoid_l) (noneP, false) = r ∧ (r.2 = true → OpenP t_self_id r.1.id id)) (fun k => ps_l.length - k) (0) (⟨(noneP, false), rfl, rfl, by omega, rfl, rfl, by simp⟩) ?_
  rintro k M2 h1 z hm2 ⟨⟨⟨ra, ri⟩, rb⟩, hM2, rfl, hk, rfl, hI, hO⟩
  subst hM2
  rcases rb with _ | _
  ·skip
   iterate 2 refine C_seq ?_
   refine C_region (l := [0, 1, 2, 3]) rfl ?_
   iterate 2 refine Y_move ?_
   refine Y_len_sl F.elem26 ?_
   refine Y_cmp ?_
   refine XD_end ?_
   refine K_then ?_
   refine C_cond rfl (fun hc5 => ?_) (fun hc5 => ?_)
   ·replace hc5 := dT hc5
    refine C_skip ?_
    refine K_then ?_
    refine C_seq ?_
    refine C_block ?_
    refine C_seq ?_
    obtain ⟨⟨x_addr, x_id⟩, hx⟩ : ∃ x, ps_l[k] = x := ⟨_, rfl⟩
    refine C_region (l := [0, 1, 2, 3, 4, 5]) rfl ?_
    iterate 2 refine Y_move ?_
    refine X_indexAddr rfl rfl rfl rfl F.elem26 (by rfl) (by omega) (by exact SlM.plain (by assumption) (by (simp; omega))) rfl ?_
    refine X_load_el rfl rfl rfl s_ps (show (ps_l.map PeerV.segs)[k]? = some (PeerV.segs ⟨x_addr, x_id⟩) by rw [List.getElem?_map, List.getElem?_eq_getElem (by omega), hx]; rfl) F.lay25 rfl rfl rfl ?_
    refine Y_alloc F.zero25 ?_; intro b6
    refine Y_store F.lay25 ?_
    refine XD_end ?_
    refine K_then ?_
    iterate 2 refine C_seq ?_
    refine C_region (l := [0, 1, 2, 3, 4, 5, 6, 7, 8, 9, 10, 11, 12, 13]) rfl ?_
    refine Y_move ?_
    refine Y_fieldAddr F.foff25_0 ?_
    refine Y_load F.lay3 ?_
    refine X_fs rfl rfl F.ok76 rfl (in_ok _ ⟨_, _, _⟩ _ (by exact SlK.mono (by assumption) (by assumption))) rfl ?_
    rintro _ rfl
    refine Y_move ?_
    refine XD_part 30 rfl (fun hc7 => ?_) (fun hc7 => ?_)
    ·replace hc7 := dT hc7
     simp only [PeerV.eta, TableV.eta, RouteV.eta] at hc7
     iterate 8 refine Y_skip ?_
     refine Y_pick ?_
     refine XD_end ?_
     refine K_then ?_
     refine C_true rfl ?_
     refine C_exit ?_
     refine K_exit ?_
     refine K_hit ?_
     refine K_then ?_
     refine C_region (l := [0, 1, 2]) rfl ?_
     refine Y_move ?_
     refine X_ari rfl rfl rfl rfl rfl (by exact wrap_in (by decide) (by omega)) rfl ?_
     refine Y_assign ?_
     refine XD_end ?_
     refine K_roundO (a' := [(11, _), (9, _)]) (k + 1) ([(b4, rowO [.one (.int .i64 ra), idSeg ri] 25)]) (.cons (k := 11) rfl (.cons (k := 9) rfl (.cons (k := 10) rfl (.cons (k := 8) rfl (.cons (k := 7) rfl (.cons (k := 6) rfl (.cons (k := 4) rfl (.cons (k := 3) rfl (.cons (k := 2) rfl (.nil)))))))))) (by exact Mem.le.refl _) (fun w hw => by first | exact hw | exact hw.c) ?_ ?_
     ·exact ⟨(⟨ra, ri⟩, false), rfl, rfl, by omega, rfl, by rw [foldl_take (by omega : k < ps_l.length), hI, hx]; unfold nearStep; rw [if_pos (by exact .inl (by assumption))], hO⟩
     ·omega
    ·replace hc7 := dF hc7
     simp only [PeerV.eta, TableV.eta, RouteV.eta] at hc7
     refine Y_fieldAddr F.foff28_0 ?_
     refine Y_fieldAddr F.foff25_1 ?_
     refine Y_load F.lay23 ?_
     refine Y_fieldAddr F.foff25_1 ?_
     iterate 2 refine Y_load F.lay23 ?_
     refine X_fs rfl rfl F.ok74 rfl (rOpen_ok _ _ _ _) rfl ?_
     rintro _ rfl
     refine Y_not ?_
     refine Y_pick ?_
     refine XD_end ?_
     refine K_then ?_
     refine C_cond rfl (fun hc8 => ?_) (fun hc8 => ?_)
     ·replace hc8 := nT hc8
      refine C_exit ?_
      refine K_exit ?_
      refine K_hit ?_
      refine K_then ?_
      refine C_region (l := [0, 1, 2]) rfl ?_
      refine Y_move ?_
      refine X_ari rfl rfl rfl rfl rfl (by exact wrap_in (by decide) (by omega)) rfl ?_
      refine Y_assign ?_
      refine XD_end ?_
      refine K_roundO (a' := [(11, _), (9, _)]) (k + 1) ([(b4, rowO [.one (.int .i64 ra), idSeg ri] 25)]) (.cons (k := 11) rfl (.cons (k := 9) rfl (.cons (k := 10) rfl (.cons (k := 8) rfl (.cons (k := 7) rfl (.cons (k := 6) rfl (.cons (k := 4) rfl (.cons (k := 3) rfl (.cons (k := 2) rfl (.nil)))))))))) (by exact Mem.le.refl _) (fun w hw => by first | exact hw | exact hw.c) ?_ ?_
      ·exact ⟨(⟨ra, ri⟩, false), rfl, rfl, by omega, rfl, by rw [foldl_take (by omega : k < ps_l.length), hI, hx]; unfold nearStep; rw [if_pos (by exact .inr (by assumption))], hO⟩
      ·omega
     ·replace hc8 := nF hc8
      refine C_skip ?_
      refine K_then ?_
      refine C_seq ?_
      refine C_region_any (l := [0, 1, 2, 3, 4, 5, 6, 7, 8, 9, 10, 11, 12, 13, 14, 15, 16]) #[0, 1, 3, 7, 15, 7, 39, 103, 255, 7, 519, 7, 2055, 6151, 16383, 32767, 65535] _ rfl (by kernel_rfl) (by kernel_rfl) St.drawn (fun _ h => h) ?_
      refine Y_move ?_
      refine Y_not ?_
      refine Y_move ?_
      iterate 13 refine Y_skip ?_
      refine Y_pick ?_
      refine XD_end ?_
      refine K_then ?_
      refine C_true rfl ?_
      refine C_seq ?_
      refine C_region (l := [0, 1]) rfl ?_
      refine Y_load F.lay25 ?_
      refine Y_store F.lay25 ?_
      refine XD_end ?_
      refine K_then ?_
      refine C_region (l := [0]) rfl ?_
      refine Y_assign ?_
      refine XD_end ?_
      refine K_out ?_
      refine K_then ?_
      refine C_region (l := [0, 1, 2]) rfl ?_
      refine Y_move ?_
      refine X_ari rfl rfl rfl rfl rfl (by exact wrap_in (by decide) (by omega)) rfl ?_
      refine Y_assign ?_
      refine XD_end ?_
      refine K_roundO (a' := [(11, _), (9, _)]) (k + 1) ([(b4, rowO [.one (.int .i64 x_addr), idSeg x_id] 25)]) (.cons (k := 11) rfl (.cons (k := 9) rfl (.cons (k := 10) rfl (.cons (k := 8) rfl (.cons (k := 7) rfl (.cons (k := 6) rfl (.cons (k := 4) rfl (.cons (k := 3) rfl (.cons (k := 2) rfl (.nil)))))))))) (by exact Mem.le.refl _) (fun w hw => by first | exact hw | exact hw.c) ?_ ?_
      ·exact ⟨(⟨x_addr, x_id⟩, true), rfl, rfl, by omega, rfl, by rw [foldl_take (by omega : k < ps_l.length), hI, hx]; unfold nearStep; rw [if_neg (by rintro (g1 | g1); exact absurd g1 (by assumption); exact g1 (by assumption)), if_pos (.inl rfl)], fun _ => by assumption⟩
      ·omega
   ·replace hc5 := dF hc5
    refine C_exit ?_
    iterate 2 refine K_exit ?_
    refine K_hit ?_
    refine K_then ?_
    refine Y_pk [9, 8, 7, 6] ?_
    refine C_seq ?_
    refine C_region (l := [0, 1, 2, 3]) rfl ?_
    refine Y_load F.lay25 ?_
    refine Y_move ?_
    refine Y_store F.lay25 ?_
    refine Y_assign ?_
    refine XD_end ?_
    refine K_then ?_
    refine Y_pk [7, 6] ?_
    refine C_ret ?_
    refine K_end (.inr rfl) (.cell rfl (by repeat first | exact List.Mem.head _ | refine List.Mem.tail _ ?_ | refine List.mem_append_right _ ?_) F.lay25 rfl rfl (.tmp rfl .nil)) (fun w hw => ?_)
    obtain rfl : k = ps_l.length := by omega
    rw [List.take_length, hps] at hI
    refine ⟨_, M2, rfl, hm1, hw.c, ?_⟩
    unfold nearestT
    rw [show (TableV.tb ⟨⟨t_self_addr, t_self_id⟩, ⟨t_pred_addr, t_pred_id⟩, ⟨t_succ_a, t_succ_c, t_succ_l⟩, ⟨t_fingers_a, t_fingers_c, t_fingers_l⟩⟩).self = ⟨t_self_addr, t_self_id⟩ from rfl, hI]; rfl
  ·skip
   iterate 2 refine C_seq ?_
   refine C_region (l := [0, 1, 2, 3]) rfl ?_
   iterate 2 refine Y_move ?_
   refine Y_len_sl F.elem26 ?_
   refine Y_cmp ?_
   refine XD_end ?_
   refine K_then ?_
   refine C_cond rfl (fun hc9 => ?_) (fun hc9 => ?_)
   ·replace hc9 := dT hc9
    refine C_skip ?_
    refine K_then ?_
    refine C_seq ?_
    refine C_block ?_
    refine C_seq ?_
    obtain ⟨⟨x_addr, x_id⟩, hx⟩ : ∃ x, ps_l[k] = x := ⟨_, rfl⟩
    refine C_region (l := [0, 1, 2, 3, 4, 5]) rfl ?_
    iterate 2 refine Y_move ?_
    refine X_indexAddr rfl rfl rfl rfl F.elem26 (by rfl) (by omega) (by exact SlM.plain (by assumption) (by (simp; omega))) rfl ?_
    refine X_load_el rfl rfl rfl s_ps (show (ps_l.map PeerV.segs)[k]? = some (PeerV.segs ⟨x_addr, x_id⟩) by rw [List.getElem?_map, List.getElem?_eq_getElem (by omega), hx]; rfl) F.lay25 rfl rfl rfl ?_
    refine Y_alloc F.zero25 ?_; intro b10
    refine Y_store F.lay25 ?_
    refine XD_end ?_
    refine K_then ?_
    iterate 2 refine C_seq ?_
    refine C_region (l := [0, 1, 2, 3, 4, 5, 6, 7, 8, 9, 10, 11, 12, 13]) rfl ?_
    refine Y_move ?_
    refine Y_fieldAddr F.foff25_0 ?_
    refine Y_load F.lay3 ?_
    refine X_fs rfl rfl F.ok76 rfl (in_ok _ ⟨_, _, _⟩ _ (by exact SlK.mono (by assumption) (by assumption))) rfl ?_
    rintro _ rfl
    refine Y_move ?_
    refine XD_part 30 rfl (fun hc11 => ?_) (fun hc11 => ?_)
    ·replace hc11 := dT hc11
     simp only [PeerV.eta, TableV.eta, RouteV.eta] at hc11
     iterate 8 refine Y_skip ?_
     refine Y_pick ?_
     refine XD_end ?_
     refine K_then ?_
     refine C_true rfl ?_
     refine C_exit ?_
     refine K_exit ?_
     refine K_hit ?_
     refine K_then ?_
     refine C_region (l := [0, 1, 2]) rfl ?_
     refine Y_move ?_
     refine X_ari rfl rfl rfl rfl rfl (by exact wrap_in (by decide) (by omega)) rfl ?_
     refine Y_assign ?_
     refine XD_end ?_
     refine K_roundO (a' := [(11, _), (9, _)]) (k + 1) ([(b4, rowO [.one (.int .i64 ra), idSeg ri] 25)]) (.cons (k := 11) rfl (.cons (k := 9) rfl (.cons (k := 10) rfl (.cons (k := 8) rfl (.cons (k := 7) rfl (.cons (k := 6) rfl (.cons (k := 4) rfl (.cons (k := 3) rfl (.cons (k := 2) rfl (.nil)))))))))) (by exact Mem.le.refl _) (fun w hw => by first | exact hw | exact hw.c) ?_ ?_
     ·exact ⟨(⟨ra, ri⟩, true), rfl, rfl, by omega, rfl, by rw [foldl_take (by omega : k < ps_l.length), hI, hx]; unfold nearStep; rw [if_pos (by exact .inl (by assumption))], hO⟩
     ·omega
    ·replace hc11 := dF hc11
     simp only [PeerV.eta, TableV.eta, RouteV.eta] at hc11
     refine Y_fieldAddr F.foff28_0 ?_
     refine Y_fieldAddr F.foff25_1 ?_
     refine Y_load F.lay23 ?_
     refine Y_fieldAddr F.foff25_1 ?_
     iterate 2 refine Y_load F.lay23 ?_
     refine X_fs rfl rfl F.ok74 rfl (rOpen_ok _ _ _ _) rfl ?_
     rintro _ rfl
     refine Y_not ?_
     refine Y_pick ?_
     refine XD_end ?_
     refine K_then ?_
     refine C_cond rfl (fun hc12 => ?_) (fun hc12 => ?_)
     ·replace hc12 := nT hc12
      refine C_exit ?_
      refine K_exit ?_
      refine K_hit ?_
      refine K_then ?_
      refine C_region (l := [0, 1, 2]) rfl ?_
      refine Y_move ?_
      refine X_ari rfl rfl rfl rfl rfl (by exact wrap_in (by decide) (by omega)) rfl ?_
      refine Y_assign ?_
      refine XD_end ?_
      refine K_roundO (a' := [(11, _), (9, _)]) (k + 1) ([(b4, rowO [.one (.int .i64 ra), idSeg ri] 25)]) (.cons (k := 11) rfl (.cons (k := 9) rfl (.cons (k := 10) rfl (.cons (k := 8) rfl (.cons (k := 7) rfl (.cons (k := 6) rfl (.cons (k := 4) rfl (.cons (k := 3) rfl (.cons (k := 2) rfl (.nil)))))))))) (by exact Mem.le.refl _) (fun w hw => by first | exact hw | exact hw.c) ?_ ?_
      ·exact ⟨(⟨ra, ri⟩, true), rfl, rfl, by omega, rfl, by rw [foldl_take (by omega : k < ps_l.length), hI, hx]; unfold nearStep; rw [if_pos (by exact .inr (by assumption))], hO⟩
      ·omega
     ·replace hc12 := nF hc12
      refine C_skip ?_
      refine K_then ?_
      refine C_seq ?_
      refine C_region_any (l := [0, 1, 2, 3, 4, 5, 6, 7, 8, 9, 10, 11, 12, 13, 14, 15, 16]) #[0, 1, 3, 7, 15, 7, 39, 103, 255, 7, 519, 7, 2055, 6151, 16383, 32767, 65535] _ rfl (by kernel_rfl) (by kernel_rfl) St.drawn (fun _ h => h) ?_
      refine Y_move ?_
      refine Y_not ?_
      refine Y_move ?_
      refine Y_fieldAddr F.foff25_1 ?_
      refine Y_load F.lay23 ?_
      refine Y_fieldAddr F.foff28_0 ?_
      refine Y_fieldAddr F.foff25_1 ?_
      refine Y_load F.lay23 ?_
      refine X_fs rfl rfl F.ok78 rfl (rMinus_ok _ _ _) rfl ?_
      rintro _ rfl
      refine Y_fieldAddr F.foff25_1 ?_
      refine Y_load F.lay23 ?_
      refine Y_fieldAddr F.foff28_0 ?_
      refine Y_fieldAddr F.foff25_1 ?_
      refine Y_load F.lay23 ?_
      refine X_fs rfl rfl F.ok78 rfl (rMinus_ok _ _ _) rfl ?_
      rintro _ rfl
      refine X_fs rfl rfl F.ok77 rfl (rLess_ok _ _ _) rfl ?_
      rintro _ rfl
      refine Y_pick ?_
      refine XD_end ?_
      refine K_then ?_
      refine C_cond rfl (fun hc13 => ?_) (fun hc13 => ?_)
      ·replace hc13 := dT hc13
       simp only [PeerV.eta, TableV.eta, RouteV.eta] at hc13
       refine C_seq ?_
       refine C_region (l := [0, 1]) rfl ?_
       refine Y_load F.lay25 ?_
       refine Y_store F.lay25 ?_
       refine XD_end ?_
       refine K_then ?_
       refine C_region (l := [0]) rfl ?_
       refine Y_assign ?_
       refine XD_end ?_
       refine K_out ?_
       refine K_then ?_
       refine C_region (l := [0, 1, 2]) rfl ?_
       refine Y_move ?_
       refine X_ari rfl rfl rfl rfl rfl (by exact wrap_in (by decide) (by omega)) rfl ?_
       refine Y_assign ?_
       refine XD_end ?_
       refine K_roundO (a' := [(11, _), (9, _)]) (k + 1) ([(b4, rowO [.one (.int .i64 x_addr), idSeg x_id] 25)]) (.cons (k := 11) rfl (.cons (k := 9) rfl (.cons (k := 10) rfl (.cons (k := 8) rfl (.cons (k := 7) rfl (.cons (k := 6) rfl (.cons (k := 4) rfl (.cons (k := 3) rfl (.cons (k := 2) rfl (.nil)))))))))) (by exact Mem.le.refl _) (fun w hw => by first | exact hw | exact hw.c) ?_ ?_
       ·exact ⟨(⟨x_addr, x_id⟩, true), rfl, rfl, by omega, rfl, by rw [foldl_take (by omega : k < ps_l.length), hI, hx]; unfold nearStep; rw [if_neg (by rintro (g1 | g1); exact absurd g1 (by assumption); exact g1 (by assumption)), if_pos (.inr ((open_less (hO rfl) (by assumption)).2 (by assumption)))], fun _ => by assumption⟩
       ·omega
      ·replace hc13 := dF hc13
       simp only [PeerV.eta, TableV.eta, RouteV.eta] at hc13
       refine C_skip ?_
       refine K_out ?_
       refine K_then ?_
       refine C_region (l := [0, 1, 2]) rfl ?_
       refine Y_move ?_
       refine X_ari rfl rfl rfl rfl rfl (by exact wrap_in (by decide) (by omega)) rfl ?_
       refine Y_assign ?_
       refine XD_end ?_
       refine K_roundO (a' := [(11, _), (9, _)]) (k + 1) ([(b4, rowO [.one (.int .i64 ra), idSeg ri] 25)]) (.cons (k := 11) rfl (.cons (k := 9) rfl (.cons (k := 10) rfl (.cons (k := 8) rfl (.cons (k := 7) rfl (.cons (k := 6) rfl (.cons (k := 4) rfl (.cons (k := 3) rfl (.cons (k := 2) rfl (.nil)))))))))) (by exact Mem.le.refl _) (fun w hw => by first | exact hw | exact hw.c) ?_ ?_
       ·exact ⟨(⟨ra, ri⟩, true), rfl, rfl, by omega, rfl, by rw [foldl_take (by omega : k < ps_l.length), hI, hx]; unfold nearStep; rw [if_neg (by rintro (g1 | g1); exact absurd g1 (by assumption); exact g1 (by assumption)), if_neg (by rintro (g1 | g1); cases g1; exact absurd ((open_less (hO rfl) (by assumption)).1 g1) (by assumption))], hO⟩
       ·omega
   ·replace hc9 := dF hc9
    refine C_exit ?_
    iterate 2 refine K_exit ?_
    refine K_hit ?_
    refine K_then ?_
    refine Y_pk [9, 8, 7, 6] ?_
    refine C_seq ?_
    refine C_region (l := [0, 1, 2, 3]) rfl ?_
    refine Y_load F.lay25 ?_
    refine Y_move ?_
    refine Y_store F.lay25 ?_
    refine Y_assign ?_
    refine XD_end ?_
    refine K_then ?_
    refine Y_pk [7, 6] ?_
    refine C_ret ?_
    refine K_end (.inr rfl) (.cell rfl (by repeat first | exact List.Mem.head _ | refine List.Mem.tail _ ?_ | refine List.mem_append_right _ ?_) F.lay25 rfl rfl (.tmp rfl .nil)) (fun w hw => ?_)
    obtain rfl : k = ps_l.length := by omega
    rw [List.take_length, hps] at hI
    refine ⟨_, M2, rfl, hm1, hw.c, ?_⟩
    unfold nearestT
    rw [show (TableV.tb ⟨⟨t_self_addr, t_self_id⟩, ⟨t_pred_addr, t_pred_id⟩, ⟨t_succ_a, t_succ_c, t_succ_l⟩, ⟨t_fingers_a, t_fingers_c, t_fingers_l⟩⟩).self = ⟨t_self_addr, t_self_id⟩ from rfl, hI]; rfl

end Go.Proofs.Ytbjklbmmchiahaa
/-
  Small places.
-/
set_option linter.unusedSimpArgs false
set_option linter.unusedVariables false
set_option linter.unnecessarySimpa false
namespace Go.Esp
/-- A small number's place. -/
def smallP (n : Int) : Plc := ofBytes fun i => if i = 19 then (n % 256).toNat else if i = 18 then (n / 256 % 256).toNat else 0
theorem smallP_lt (n : Int) : ∀ i, (if i = 19 then (n % 256).toNat else if i = 18 then (n / 256 % 256).toNat else 0) < 256 := fun i => by
  split
  · omega
  · split
    · omega
    · decide
theorem idV0 {i : Nat} (h : i < 20) : (idV 0)[i] = .int .u8 0 := by rw [idV_get _ h]; simp [idB]
theorem small_seg (n : Int) : idV (smallP n) = ((idV 0).set 19 (.int .u8 (n % 256))).set 18 (.int .u8 (n / 256 % 256)) := by
  apply Vector.ext
  intro i hi
  rw [idV_get _ hi]
  unfold smallP
  rw [idB_ofBytes (smallP_lt n) hi]
  by_cases e8 : i = 18
  · subst e8
    rw [Vector.getElem_set_self]
    simp
    omega
  · rw [Vector.getElem_set_ne _ _ (Ne.symm e8)]
    by_cases e9 : i = 19
    · subst e9
      rw [Vector.getElem_set_self]
      simp
      omega
    · rw [Vector.getElem_set_ne _ _ (Ne.symm e9), idV0 hi]
      simp [e8, e9]

/-! The document's example. -/
end Go.Esp
/-
  The same tables; small places.
-/
set_option linter.unusedSimpArgs false
set_option linter.unusedVariables false
set_option linter.unnecessarySimpa false
set_option maxRecDepth 8000
set_option maxHeartbeats 1000000
namespace Go.Proofs.Ytbjklbmmchiahaa
open Go.Esp
theorem F.ok37 : okFn Try.prog 37 = true := by kernel_rfl
theorem F.ok73 : okFn Try.prog 73 = true := by kernel_rfl

theorem SameP_ok (M : Mem) (a : (Sl PeerV)) (b : (Sl PeerV)) (ha0 : SlK M PeerV.segs 21 a) (hb1 : SlK M PeerV.segs 21 b) : Fs Try.prog 37 [Sl.val a, Sl.val b] M (fun v => v = Value.bool (decide (a.l = b.l))) := by
  obtain ⟨a_a, a_c, a_l⟩ := a
  obtain ⟨b_a, b_c, b_l⟩ := b
  have k_a : SlK M PeerV.segs 21 ⟨a_a, a_c, a_l⟩ := ha0
  have s_a : SlM M a_a (a_l.map PeerV.segs) 21 := k_a.h1
  have n_a : (a_l.map PeerV.segs).length = a_l.length := List.length_map ..
  have m_a : a_l.length ≤ 9223372036854775807 := k_a.h2
  have c_a : a_l.length ≤ a_c := k_a.h3
  have k_b : SlK M PeerV.segs 21 ⟨b_a, b_c, b_l⟩ := hb1
  have s_b : SlM M b_a (b_l.map PeerV.segs) 21 := k_b.h1
  have n_b : (b_l.map PeerV.segs).length = b_l.length := List.length_map ..
  have m_b : b_l.length ≤ 9223372036854775807 := k_b.h2
  have c_b : b_l.length ≤ b_c := k_b.h3
  refine fs_enter Try.func37 rfl Try.ntmps37 rfl ?_; intro H
  refine C_seq ?_
  refine C_region (l := [0]) rfl ?_
  refine Y_assign ?_
  refine XD_end ?_
  refine K_then ?_
  iterate 2 refine C_seq ?_
  refine C_region (l := [0, 1, 2, 3, 4]) rfl ?_
  refine Y_move ?_
  refine Y_len_sl F.elem26 ?_
  refine Y_move ?_
  refine Y_len_sl F.elem26 ?_
  refine Y_cmp ?_
  refine XD_end ?_
  refine K_then ?_
  refine Y_pk [10, 4, 0, 1] ?_
  refine C_cond rfl (fun hc1 => ?_) (fun hc1 => ?_)
  ·replace hc1 := nT hc1
   refine C_seq ?_
   refine C_region (l := [0]) rfl ?_
   refine Y_assign ?_
   refine XD_end ?_
   refine K_then ?_
   refine Y_pk [4, 0, 1] ?_
   refine C_ret ?_
   refine K_ret ?_
   refine K_end (.inr rfl) (.tmp rfl .nil) (fun w hw => ?_)
   refine ⟨_, rfl, (hw.c), ?_⟩
   clear hw
   refine congrArg Value.bool ?_
   exact (decide_eq_false (fun h9 => by subst h9; simp_all)).symm
  ·replace hc1 := nF hc1
   refine C_skip ?_
   refine K_then ?_
   refine Y_pk [4, 0, 1] ?_
   iterate 2 refine C_seq ?_
   refine C_region (l := [0]) rfl ?_
   refine Y_assign ?_
   refine XD_end ?_
   refine K_then ?_
   refine C_block ?_
   refine Y_pk [5, 4, 0, 1] ?_
   refine C_loopS (.succ .zero) (fun (k : Nat) z => z = [(5, .int .i64 (k : Int))] ∧ k ≤ a_l.length ∧ (∀ j (h2 : j < a_l.length) (h3 : j < b_l.length), j < k → a_l[j] = b_l[j])) (fun k => a_l.length - k) (0) (⟨rfl, by omega, by (intro j h2 h3 hj; omega)⟩) ?_
   rintro k _ ⟨rfl, hk, hI⟩
   iterate 2 refine C_seq ?_
   refine C_region (l := [0, 1, 2, 3]) rfl ?_
   iterate 2 refine Y_move ?_
   refine Y_len_sl F.elem26 ?_
   refine Y_cmp ?_
   refine XD_end ?_
   refine K_then ?_
   refine C_cond rfl (fun hc2 => ?_) (fun hc2 => ?_)
   ·replace hc2 := dT hc2
    refine C_skip ?_
    refine K_then ?_
    refine C_seq ?_
    refine C_block ?_
    refine C_seq ?_
    refine C_region_any (l := [0, 1, 2, 3, 4, 5, 6, 7, 8]) #[0, 0, 3, 7, 0, 0, 48, 112, 255] _ rfl (by kernel_rfl) (by kernel_rfl) St.drawn (fun _ h => h) ?_
    iterate 2 refine Y_move ?_
    refine X_indexAddr rfl rfl rfl rfl F.elem26 (by rfl) (by omega) (by exact SlM.plain (by assumption) (by (simp; omega))) rfl ?_
    refine X_load_el rfl rfl rfl (by assumption) (by exact row_map (by omega)) F.lay25 rfl rfl rfl ?_
    iterate 2 refine Y_move ?_
    refine X_indexAddr rfl rfl rfl rfl F.elem26 (by rfl) (by omega) (by exact SlM.plain (by assumption) (by (simp; omega))) rfl ?_
    refine X_load_el rfl rfl rfl (by assumption) (by exact row_map (by omega)) F.lay25 rfl rfl rfl ?_
    refine X_same (m := 20) rfl rfl rfl rfl rfl (by constructor) (by constructor) F.lay25 F.kinds25 rfl F.guard25 (by exact FitPeerV _) (by exact FitPeerV _) rfl rfl rfl ?_; intro c3 he4
    replace he4 : c3 = true ↔ ¬ (Segs.cells _ = Segs.cells _) := he4
    obtain rfl := neD he4 (PeerV.inj (x := ⟨_, _⟩) (y := ⟨_, _⟩)); clear he4
    refine XD_end ?_
    refine K_then ?_
    refine C_cond rfl (fun hc5 => ?_) (fun hc5 => ?_)
    ·replace hc5 := nT hc5
     simp only [PeerV.eta, TableV.eta, RouteV.eta] at hc5
     refine C_seq ?_
     refine C_region (l := [0]) rfl ?_
     refine Y_assign ?_
     refine XD_end ?_
     refine K_then ?_
     refine C_ret ?_
     refine K_retB ?_
     iterate 2 refine K_ret ?_
     refine K_retB ?_
     refine K_ret ?_
     refine K_end (.inr rfl) (.tmp rfl .nil) (fun w hw => ?_)
     refine ⟨_, rfl, (hw.c), ?_⟩
     clear hw
     refine congrArg Value.bool ?_
     exact (decide_eq_false (fun h9 => by subst h9; simp_all)).symm
    ·replace hc5 := nF hc5
     simp only [PeerV.eta, TableV.eta, RouteV.eta] at hc5
     refine C_skip ?_
     refine K_out ?_
     refine K_then ?_
     refine C_region (l := [0, 1, 2]) rfl ?_
     refine Y_move ?_
     refine X_ari rfl rfl rfl rfl rfl (by exact wrap_in (by decide) (by omega)) rfl ?_
     refine Y_assign ?_
     refine XD_end ?_
     refine K_roundS (a' := [(5, _)]) (k + 1) (.cons (k := 5) rfl (.cons (k := 4) rfl (.cons (k := 0) rfl (.cons (k := 1) rfl (.nil))))) (fun w hw => by first | exact hw | exact hw.c) ?_ ?_
     ·refine ⟨rfl, by omega, ?_⟩
      (intro j h2 h3 hj; rcases Nat.lt_or_ge j k with h9 | h9; exact hI j h2 h3 h9; obtain rfl : j = k := (by omega); simp_all)
     ·omega
   ·replace hc2 := dF hc2
    refine C_exit ?_
    iterate 2 refine K_exit ?_
    refine K_hit ?_
    refine K_then ?_
    refine Y_pk [4] ?_
    refine C_seq ?_
    refine C_region (l := [0]) rfl ?_
    refine Y_assign ?_
    refine XD_end ?_
    refine K_then ?_
    refine C_ret ?_
    refine K_end (.inr rfl) (.tmp rfl .nil) (fun w hw => ?_)
    refine ⟨_, rfl, (hw.c), ?_⟩
    clear hw
    refine congrArg Value.bool ?_
    exact (decide_eq_true (List.ext_getElem (by omega) (fun j h2 h3 => hI j h2 h3 (by omega)))).symm

theorem SameT_ok (M : Mem) (a : TableV) (b : TableV) (ha0 : TableV.ok M a) (hb1 : TableV.ok M b) : Fs Try.prog 24 [a.enc, b.enc] M (fun v => v = Value.bool (decide (a.tb = b.tb))) := by
  obtain ⟨⟨a_self_addr, a_self_id⟩, ⟨a_pred_addr, a_pred_id⟩, ⟨a_succ_a, a_succ_c, a_succ_l⟩, ⟨a_fingers_a, a_fingers_c, a_fingers_l⟩⟩ := a
  obtain ⟨⟨b_self_addr, b_self_id⟩, ⟨b_pred_addr, b_pred_id⟩, ⟨b_succ_a, b_succ_c, b_succ_l⟩, ⟨b_fingers_a, b_fingers_c, b_fingers_l⟩⟩ := b
  have k_a_succ : SlK M PeerV.segs 21 ⟨a_succ_a, a_succ_c, a_succ_l⟩ := ha0.h0
  have s_a_succ : SlM M a_succ_a (a_succ_l.map PeerV.segs) 21 := k_a_succ.h1
  have n_a_succ : (a_succ_l.map PeerV.segs).length = a_succ_l.length := List.length_map ..
  have m_a_succ : a_succ_l.length ≤ 9223372036854775807 := k_a_succ.h2
  have c_a_succ : a_succ_l.length ≤ a_succ_c := k_a_succ.h3
  have k_a_fingers : SlK M PeerV.segs 21 ⟨a_fingers_a, a_fingers_c, a_fingers_l⟩ := ha0.h1
  have s_a_fingers : SlM M a_fingers_a (a_fingers_l.map PeerV.segs) 21 := k_a_fingers.h1
  have n_a_fingers : (a_fingers_l.map PeerV.segs).length = a_fingers_l.length := List.length_map ..
  have m_a_fingers : a_fingers_l.length ≤ 9223372036854775807 := k_a_fingers.h2
  have c_a_fingers : a_fingers_l.length ≤ a_fingers_c := k_a_fingers.h3
  have k_b_succ : SlK M PeerV.segs 21 ⟨b_succ_a, b_succ_c, b_succ_l⟩ := hb1.h0
  have s_b_succ : SlM M b_succ_a (b_succ_l.map PeerV.segs) 21 := k_b_succ.h1
  have n_b_succ : (b_succ_l.map PeerV.segs).length = b_succ_l.length := List.length_map ..
  have m_b_succ : b_succ_l.length ≤ 9223372036854775807 := k_b_succ.h2
  have c_b_succ : b_succ_l.length ≤ b_succ_c := k_b_succ.h3
  have k_b_fingers : SlK M PeerV.segs 21 ⟨b_fingers_a, b_fingers_c, b_fingers_l⟩ := hb1.h1
  have s_b_fingers : SlM M b_fingers_a (b_fingers_l.map PeerV.segs) 21 := k_b_fingers.h1
  have n_b_fingers : (b_fingers_l.map PeerV.segs).length = b_fingers_l.length := List.length_map ..
  have m_b_fingers : b_fingers_l.length ≤ 9223372036854775807 := k_b_fingers.h2
  have c_b_fingers : b_fingers_l.length ≤ b_fingers_c := k_b_fingers.h3
  refine fs_enter Try.func24 rfl Try.ntmps24 rfl ?_; intro H
  refine C_seq ?_
  refine C_region (l := [0, 1, 2]) rfl ?_
  refine Y_box ?_; intro b1
  refine Y_box ?_; intro b2
  refine Y_assign ?_
  refine XD_end ?_
  refine K_then ?_
  refine Y_pk [4, 3, 2] ?_
  refine C_seq ?_
  refine C_region (l := [0, 1, 2, 3, 4, 5, 6, 7, 8, 9, 10, 11, 12, 13, 14, 15, 16, 17, 18, 19, 20, 21, 22, 23, 24, 25, 26]) rfl ?_
  refine Y_fieldAddr F.foff28_0 ?_
  refine Y_load F.lay25 ?_
  refine Y_fieldAddr F.foff28_0 ?_
  refine Y_load F.lay25 ?_
  refine X_same (m := 20) rfl rfl rfl rfl rfl (by constructor) (by constructor) F.lay25 F.kinds25 rfl F.guard25 (by exact FitPeerV (⟨_, _⟩)) (by exact FitPeerV (⟨_, _⟩)) rfl rfl rfl ?_; intro c3 he4
  replace he4 : c3 = true ↔ Segs.cells _ = Segs.cells _ := he4
  obtain rfl := eqD he4 (PeerV.inj (x := ⟨_, _⟩) (y := ⟨_, _⟩)); clear he4
  refine Y_move ?_
  refine XD_part 10 rfl (fun hc5 => ?_) (fun hc5 => ?_)
  ·replace hc5 := dT hc5
   refine Y_fieldAddr F.foff28_1 ?_
   refine Y_load F.lay25 ?_
   refine Y_fieldAddr F.foff28_1 ?_
   refine Y_load F.lay25 ?_
   refine X_same (m := 20) rfl rfl rfl rfl rfl (by constructor) (by constructor) F.lay25 F.kinds25 rfl F.guard25 (by exact FitPeerV (⟨_, _⟩)) (by exact FitPeerV (⟨_, _⟩)) rfl rfl rfl ?_; intro c6 he7
   replace he7 : c6 = true ↔ Segs.cells _ = Segs.cells _ := he7
   obtain rfl := eqD he7 (PeerV.inj (x := ⟨_, _⟩) (y := ⟨_, _⟩)); clear he7
   refine Y_pick ?_
   refine Y_move ?_
   refine XD_part 17 rfl (fun hc8 => ?_) (fun hc8 => ?_)
   ·replace hc8 := dT hc8
    refine Y_fieldAddr F.foff28_2 ?_
    refine Y_load F.lay26 ?_
    refine Y_fieldAddr F.foff28_2 ?_
    refine Y_load F.lay26 ?_
    refine X_fs rfl rfl F.ok37 rfl (SameP_ok _ ⟨_, _, _⟩ ⟨_, _, _⟩ (by assumption) (by assumption)) rfl ?_
    rintro _ rfl
    refine Y_pick ?_
    refine Y_move ?_
    refine XD_part 24 rfl (fun hc9 => ?_) (fun hc9 => ?_)
    ·replace hc9 := dT hc9
     simp only [PeerV.eta, TableV.eta, RouteV.eta] at hc9
     refine Y_fieldAddr F.foff28_3 ?_
     refine Y_load F.lay26 ?_
     refine Y_fieldAddr F.foff28_3 ?_
     refine Y_load F.lay26 ?_
     refine X_fs rfl rfl F.ok37 rfl (SameP_ok _ ⟨_, _, _⟩ ⟨_, _, _⟩ (by assumption) (by assumption)) rfl ?_
     rintro _ rfl
     refine Y_pick ?_
     refine Y_assign ?_
     refine XD_end ?_
     refine K_then ?_
     refine Y_pk [4] ?_
     refine C_ret ?_
     refine K_end (.inr rfl) (.tmp rfl .nil) (fun w hw => ?_)
     refine ⟨_, rfl, (hw.c), ?_⟩
     clear hw
     refine congrArg Value.bool ?_
     simp_all [TableV.tb]
    ·replace hc9 := dF hc9
     simp only [PeerV.eta, TableV.eta, RouteV.eta] at hc9
     iterate 5 refine Y_skip ?_
     refine Y_pick ?_
     refine Y_assign ?_
     refine XD_end ?_
     refine K_then ?_
     refine Y_pk [4] ?_
     refine C_ret ?_
     refine K_end (.inr rfl) (.tmp rfl .nil) (fun w hw => ?_)
     refine ⟨_, rfl, (hw.c), ?_⟩
     clear hw
     refine congrArg Value.bool ?_
     simp_all [TableV.tb]
   ·replace hc8 := dF hc8
    iterate 5 refine Y_skip ?_
    refine Y_pick ?_
    refine Y_move ?_
    iterate 5 refine Y_skip ?_
    refine Y_pick ?_
    refine Y_assign ?_
    refine XD_end ?_
    refine K_then ?_
    refine Y_pk [4] ?_
    refine C_ret ?_
    refine K_end (.inr rfl) (.tmp rfl .nil) (fun w hw => ?_)
    refine ⟨_, rfl, (hw.c), ?_⟩
    clear hw
    refine congrArg Value.bool ?_
    simp_all [TableV.tb]
  ·replace hc5 := dF hc5
   iterate 5 refine Y_skip ?_
   refine Y_pick ?_
   refine Y_move ?_
   iterate 5 refine Y_skip ?_
   refine Y_pick ?_
   refine Y_move ?_
   iterate 5 refine Y_skip ?_
   refine Y_pick ?_
   refine Y_assign ?_
   refine XD_end ?_
   refine K_then ?_
   refine Y_pk [4] ?_
   refine C_ret ?_
   refine K_end (.inr rfl) (.tmp rfl .nil) (fun w hw => ?_)
   refine ⟨_, rfl, (hw.c), ?_⟩
   clear hw
   refine congrArg Value.bool ?_
   simp_all [TableV.tb]

theorem BigT_ok (M : Mem) (t : TableV) (ht0 : TableV.ok M t) : Fs Try.prog 15 [t.enc] M (fun v => v = Value.bool (decide (40 < t.succ.l.length ∨ 200 < t.fingers.l.length))) := by
  obtain ⟨⟨t_self_addr, t_self_id⟩, ⟨t_pred_addr, t_pred_id⟩, ⟨t_succ_a, t_succ_c, t_succ_l⟩, ⟨t_fingers_a, t_fingers_c, t_fingers_l⟩⟩ := t
  have k_t_succ : SlK M PeerV.segs 21 ⟨t_succ_a, t_succ_c, t_succ_l⟩ := ht0.h0
  have s_t_succ : SlM M t_succ_a (t_succ_l.map PeerV.segs) 21 := k_t_succ.h1
  have n_t_succ : (t_succ_l.map PeerV.segs).length = t_succ_l.length := List.length_map ..
  have m_t_succ : t_succ_l.length ≤ 9223372036854775807 := k_t_succ.h2
  have c_t_succ : t_succ_l.length ≤ t_succ_c := k_t_succ.h3
  have k_t_fingers : SlK M PeerV.segs 21 ⟨t_fingers_a, t_fingers_c, t_fingers_l⟩ := ht0.h1
  have s_t_fingers : SlM M t_fingers_a (t_fingers_l.map PeerV.segs) 21 := k_t_fingers.h1
  have n_t_fingers : (t_fingers_l.map PeerV.segs).length = t_fingers_l.length := List.length_map ..
  have m_t_fingers : t_fingers_l.length ≤ 9223372036854775807 := k_t_fingers.h2
  have c_t_fingers : t_fingers_l.length ≤ t_fingers_c := k_t_fingers.h3
  refine fs_enter Try.func15 rfl Try.ntmps15 rfl ?_; intro H
  refine C_seq ?_
  refine C_region (l := [0, 1]) rfl ?_
  refine Y_box ?_; intro b1
  refine Y_assign ?_
  refine XD_end ?_
  refine K_then ?_
  refine Y_pk [2, 1] ?_
  refine C_seq ?_
  refine C_region (l := [0, 1, 2, 3, 4, 5, 6, 7, 8, 9, 10]) rfl ?_
  refine Y_fieldAddr F.foff28_2 ?_
  refine Y_load F.lay26 ?_
  refine Y_len_sl F.elem26 ?_
  refine Y_cmp ?_
  refine Y_move ?_
  refine XD_part 7 rfl (fun hc2 => ?_) (fun hc2 => ?_)
  ·replace hc2 := dT hc2
   iterate 4 refine Y_skip ?_
   refine Y_pick ?_
   refine Y_assign ?_
   refine XD_end ?_
   refine K_then ?_
   refine Y_pk [2] ?_
   refine C_ret ?_
   refine K_end (.inr rfl) (.tmp rfl .nil) (fun w hw => ?_)
   refine ⟨_, rfl, (hw.c), ?_⟩
   clear hw
   refine congrArg Value.bool ?_
   rw [Bool.eq_iff_iff]
   simp only [decide_eq_true_eq, true_iff, iff_true]
   omega
  ·replace hc2 := dF hc2
   refine Y_fieldAddr F.foff28_3 ?_
   refine Y_load F.lay26 ?_
   refine Y_len_sl F.elem26 ?_
   refine Y_cmp ?_
   refine Y_pick ?_
   refine Y_assign ?_
   refine XD_end ?_
   refine K_then ?_
   refine Y_pk [2] ?_
   refine C_ret ?_
   refine K_end (.inr rfl) (.tmp rfl .nil) (fun w hw => ?_)
   refine ⟨_, rfl, (hw.c), ?_⟩
   clear hw
   refine congrArg Value.bool ?_
   rw [Bool.eq_iff_iff]
   simp only [decide_eq_true_eq, true_iff, iff_true]
   omega

theorem Small_ok (M : Mem) (n : Int) (hn : 0 ≤ n ∧ n ≤ 1000000) : Fs Try.prog 73 [.int .i64 n] M (fun v => v = (fun x => aggV [idSeg x]) (smallP n)) := by
  refine fs_enter Try.func73 rfl Try.ntmps73 rfl ?_; intro H
  refine C_seq ?_
  refine C_region (l := [0]) rfl ?_
  refine Y_alloc F.zero23 ?_; intro b1
  refine XD_end ?_
  refine K_then ?_
  refine C_seq ?_
  refine C_region (l := [0]) rfl ?_
  refine Y_alloc F.zero23 ?_; intro b2
  refine XD_end ?_
  refine K_then ?_
  refine C_seq ?_
  refine C_region (l := [0, 1, 2, 3, 4]) rfl ?_
  refine Y_move ?_
  refine X_rem rfl rfl rfl rfl (by decide) (by exact rem_nn (by omega)) rfl ?_
  refine X_conv rfl rfl rfl Try.underlying3 Try.underlying5 (by exact wrap_u8_in (by decide) (by omega)) rfl ?_
  refine X_indexAddr_arr rfl rfl rfl rfl F.arr23 (by rfl) (by decide) rfl ?_
  refine X_store_cell rfl rfl rfl rfl rfl rfl (by repeat first | exact Upd.head | apply Upd.tail | apply Upd.over) F.lay5 (arr_len (by decide)) (arr_set (by decide)) ?_
  refine XD_end ?_
  refine K_then ?_
  refine Y_pk [3, 2, 0] ?_
  refine C_seq ?_
  refine C_region (l := [0, 1, 2, 3, 4, 5]) rfl ?_
  refine Y_move ?_
  refine X_quo rfl rfl rfl rfl (by decide) (by exact quo_in rfl (by omega) (by omega) (by omega)) rfl ?_
  refine X_rem rfl rfl rfl rfl (by decide) (by exact rem_nn (by omega)) rfl ?_
  refine X_conv rfl rfl rfl Try.underlying3 Try.underlying5 (by exact wrap_u8_in (by decide) (by omega)) rfl ?_
  refine X_indexAddr_arr rfl rfl rfl rfl F.arr23 (by rfl) (by decide) rfl ?_
  refine X_store_cell rfl rfl rfl rfl rfl rfl (by repeat first | exact Upd.head | apply Upd.tail | apply Upd.over) F.lay5 (arr_len (by decide)) (arr_set (by decide)) ?_
  refine XD_end ?_
  refine K_then ?_
  refine Y_pk [3, 2] ?_
  refine C_seq ?_
  refine C_region (l := [0, 1]) rfl ?_
  refine Y_load F.lay23 ?_
  refine XD_is 13 rfl (show aggV [.arr 20 _] = aggV [idSeg (smallP n)] from by unfold idSeg; rw [small_seg]) ?_
  refine Y_store F.lay23 ?_
  refine XD_end ?_
  refine K_then ?_
  refine Y_pk [2] ?_
  refine C_ret ?_
  refine K_end (.inr rfl) (.cell rfl (by repeat first | exact List.Mem.head _ | refine List.Mem.tail _ ?_ | refine List.mem_append_right _ ?_) F.lay23 rfl rfl .nil) (fun w hw => ?_)
  refine ⟨_, rfl, (hw.c), ?_⟩
  clear hw
  rfl

theorem peer_ok (M : Mem) (n : Int) (hn : 0 ≤ n ∧ n ≤ 1000) : Fs Try.prog 72 [.int .i64 n] M (fun v => v =  ((PeerV.mk n (smallP (10 * n))).enc)) := by
  refine fs_enter Try.func72 rfl Try.ntmps72 rfl ?_; intro H
  refine C_seq ?_
  refine C_region (l := [0]) rfl ?_
  refine Y_alloc F.zero25 ?_; intro b1
  refine XD_end ?_
  refine K_then ?_
  refine C_seq ?_
  refine C_region (l := [0, 1, 2, 3, 4, 5]) rfl ?_
  iterate 2 refine Y_move ?_
  refine X_ari rfl rfl rfl rfl rfl (by exact wrap_in (by decide) (by omega)) rfl ?_
  refine X_fs rfl rfl F.ok73 rfl (Small_ok _ _ (by omega)) rfl ?_
  rintro _ rfl
  refine X_build rfl rfl F.bld25 (.cons rfl (by constructor) (.cons rfl (by constructor) .nil)) rfl rfl ?_
  refine Y_store F.lay25 ?_
  refine XD_end ?_
  refine K_then ?_
  refine Y_pk [2] ?_
  refine C_ret ?_
  refine K_end (.inr rfl) (.cell rfl (by repeat first | exact List.Mem.head _ | refine List.Mem.tail _ ?_ | refine List.mem_append_right _ ?_) F.lay25 rfl rfl .nil) (fun w hw => ?_)
  refine ⟨_, rfl, (hw.c), ?_⟩
  clear hw
  rfl

end Go.Proofs.Ytbjklbmmchiahaa
/-
  What stays right, in plain Lean.
-/
set_option linter.unusedSimpArgs false
set_option linter.unusedVariables false
set_option linter.unnecessarySimpa false
namespace Go.Esp
theorem stay_learn {t : Tb} {p : PeerV} (h : IsTb t) : IsTb (learnT t p) := by
  unfold learnT
  split
  · rename_i hc
    obtain ⟨h1, h2, h3, h4, h5, h6⟩ := h
    exact ⟨h1, .inr hc.2.1, h3, h4, h5, h6⟩
  · exact h
theorem stay_forget {t : Tb} {a : Int} (h : IsTb t) : IsTb (forgetT t a) := by
  obtain ⟨h1, h2, h3, h4, h5, h6⟩ := h
  refine ⟨h1, ?_, ?_, ?_, ⟨?_, ?_⟩, ?_⟩
  · show MaybeP t.self (if t.pred.addr = a then noneP else t.pred)
    split
    · exact .inl rfl
    · exact h2
  · exact Nat.le_trans (List.length_filter_le _ _) h3
  · show (t.fingers.map _).length = 160
    rw [List.length_map]; exact h4
  · intro p hp
    exact h5.1 p (List.mem_filter.1 hp).1
  · exact h5.2.sublist (List.filter_sublist.map _)
  · intro p hp
    obtain ⟨q, hq, rfl⟩ := List.mem_map.1 hp
    split
    · exact .inl rfl
    · exact h6 q hq
theorem stay_adoptL {s : PeerV} {r : Int} : ∀ {rest acc : List PeerV}, SuccOk s acc → (acc.length : Int) ≤ r → SuccOk s (adoptL s r acc rest) ∧ ((adoptL s r acc rest).length : Int) ≤ r
  | [], acc, h1, h2 => ⟨h1, h2⟩
  | p :: rest, acc, h1, h2 => by
    unfold adoptL
    split
    · exact ⟨h1, h2⟩
    · rename_i hc
      split
      · exact stay_adoptL h1 h2
      · rename_i hn
        have ho : OtherP s p := Decidable.byContradiction fun h => hc (.inl h)
        have hl : ¬ (acc.length : Int) = r := fun h => hc (.inr h)
        refine stay_adoptL ⟨fun q hq => ?_, ?_⟩ (by rw [List.length_append, List.length_singleton]; omega)
        · rcases List.mem_append.1 hq with hq | hq
          · exact h1.1 q hq
          · rw [List.mem_singleton.1 hq]; exact ho
        · rw [List.map_append, List.nodup_append]
          refine ⟨h1.2, by simp, fun x hx y hy e => hn ?_⟩
          rw [List.map_singleton, List.mem_singleton] at hy
          unfold hasA
          rw [← hy, ← e]; exact hx
theorem adoptL_head {s : PeerV} {r : Int} {p : PeerV} : ∀ {rest acc : List PeerV}, acc.head? = some p → (adoptL s r acc rest).head? = some p
  | [], acc, h => h
  | q :: rest, acc, h => by
    unfold adoptL
    split
    · exact h
    · split
      · exact adoptL_head h
      · refine adoptL_head ?_
        cases acc with
        | nil => cases h
        | cons a l => exact h
theorem stay_adopt {t : Tb} {p : PeerV} {l : List PeerV} {r : Int} (h : IsTb t) (he : (adoptT t p l r).2 = 0) : IsTb (adoptT t p l r).1 ∧ firstT (adoptT t p l r).1 = p ∧ ((adoptT t p l r).1.succ.length : Int) ≤ r := by
  unfold adoptT at *
  split at he
  · rename_i hc
    rw [if_pos hc]
    obtain ⟨h1, h2, h3, h4, h5, h6⟩ := h
    obtain ⟨_, ho, hr1, hr2⟩ := hc
    have hk := stay_adoptL (rest := l) (s := t.self) (r := r) (acc := [p]) ⟨fun q hq => by rw [List.mem_singleton.1 hq]; exact ho, by simp⟩ (by simp; omega)
    refine ⟨⟨h1, h2, ?_, h4, hk.1, h6⟩, ?_, hk.2⟩
    · have := hk.2; show (adoptL t.self r [p] l).length ≤ 8; omega
    · have := adoptL_head (s := t.self) (r := r) (p := p) (rest := l) (acc := [p]) rfl
      show (adoptL t.self r [p] l).headD t.self = p
      cases hh : adoptL t.self r [p] l with
      | nil => rw [hh] at this; cases this
      | cons a b => rw [hh] at this; simpa using this
  · cases he
theorem pointEnd_gt {s p : PeerV} {k : Nat} (hk : k < 160) : k < pointEnd s p k k (160 - k) ∧ pointEnd s p k k (160 - k) ≤ 160 := by
  rw [pointEnd_go hk (by rintro ⟨h, _⟩; omega)]
  have := pointEnd_ge (s := s) (p := p) (k := k) (n := 160 - (k + 1)) (j := k + 1)
  omega
theorem stay_point {t : Tb} {p : PeerV} {k : Int} (h : IsTb t) (he : (pointT t k p).2.2 = 0) : IsTb (pointT t k p).1 ∧ 0 ≤ (pointT t k p).2.1 ∧ (pointT t k p).2.1 < 160 ∧ ((pointT t k p).2.1 = 0 ∨ k < (pointT t k p).2.1) := by
  by_cases hc : IsTb t ∧ (0 ≤ k ∧ k < 160) ∧ (p = t.self ∨ OtherP t.self p)
  · obtain ⟨_, ⟨hk1, hk2⟩, hp⟩ := hc
    obtain ⟨n, rfl⟩ := Int.eq_ofNat_of_zero_le hk1
    have hn : n < 160 := by omega
    obtain ⟨g1, g2⟩ := pointEnd_gt (s := t.self) (p := p) hn
    have e := pointT_at (t := t) (k := n) (p := p) h hn hp rfl
    rw [show pointT t (n : Nat) p = _ from e]
    generalize hj : pointEnd t.self p n n (160 - n) = j at *
    obtain ⟨h1, h2, h3, h4, h5, h6⟩ := h
    refine ⟨⟨h1, h2, h3, ?_, h5, ?_⟩, ?_, ?_, ?_⟩
    · show (ptW t.fingers n j _).length = 160
      rw [ptW_len (by omega) (by omega)]; exact h4
    · intro q hq
      have hq : q ∈ ptW t.fingers n j (fingerOf t p) := hq
      unfold ptW at hq
      rcases List.mem_append.1 hq with hq | hq
      · rcases List.mem_append.1 hq with hq | hq
        · exact h6 q (List.mem_of_mem_take hq)
        · obtain ⟨_, rfl⟩ := List.mem_replicate.1 hq
          unfold fingerOf
          show MaybeP t.self _
          split
          · exact .inl rfl
          · rename_i hns; exact .inr (hp.resolve_left hns)
      · exact h6 q (List.mem_of_mem_drop hq)
    all_goals (show _; dsimp only; split <;> omega)
  · rw [pointT_no hc] at he; cases he
/-! Who is forgotten is not known, and all others are. -/
def others (a : Int) (l : List PeerV) : List PeerV := l.filter (fun p => p.addr ≠ a)
theorem others_has {a b : Int} {l : List PeerV} (h : b ≠ a) : hasA (others a l) b ↔ hasA l b := by
  unfold hasA others
  simp only [List.mem_map, List.mem_filter, decide_eq_true_eq]
  exact ⟨fun ⟨p, ⟨h1, _⟩, h3⟩ => ⟨p, h1, h3⟩, fun ⟨p, h1, h3⟩ => ⟨p, ⟨h1, by rw [h3]; exact h⟩, h3⟩⟩
theorem others_ins_gone {a : Int} {p : PeerV} (hp : p.addr = a) : ∀ {l : List PeerV}, others a (insP p l) = others a l
  | [] => by unfold insP others; simp [hp]
  | q :: l => by
    unfold insP
    split
    · have := others_ins_gone hp (l := l)
      unfold others at *
      rw [List.filter_cons, List.filter_cons, this]
    · unfold others
      rw [List.filter_cons, if_neg (by simp [hp])]
theorem insP_first {p : PeerV} {l : List PeerV} (h : ∀ q ∈ l, ¬ q.addr < p.addr) : insP p l = p :: l := by
  cases l with
  | nil => rfl
  | cons q l => unfold insP; rw [if_neg (h q (.head _))]
theorem others_ins {a : Int} {p : PeerV} (hp : p.addr ≠ a) : ∀ {l : List PeerV}, l.Pairwise (fun a b => a.addr < b.addr) → others a (insP p l) = insP p (others a l)
  | [], _ => by unfold insP others; simp [hp]
  | q :: l, h => by
    obtain ⟨h1, h2⟩ := List.pairwise_cons.1 h
    by_cases hq : q.addr < p.addr
    · have ih := others_ins hp h2
      conv => lhs; unfold insP
      rw [if_pos hq]
      unfold others at *
      by_cases ha : q.addr = a
      · rw [List.filter_cons, if_neg (by simp [ha]), ih, List.filter_cons, if_neg (by simp [ha])]
      · rw [List.filter_cons, if_pos (by simp [ha]), ih, List.filter_cons, if_pos (by simp [ha])]
        conv => rhs; unfold insP
        rw [if_pos hq]
    · have hall : ∀ x ∈ others a (q :: l), ¬ x.addr < p.addr := fun x hx => by
        rcases List.mem_cons.1 (List.mem_filter.1 hx).1 with rfl | hx
        · exact hq
        · have := h1 x hx; omega
      rw [insP_first hall]
      conv => lhs; unfold insP
      rw [if_neg hq]
      unfold others
      rw [List.filter_cons, if_pos (by simp [hp])]
theorem known_none {s : PeerV} {o : List PeerV} : knownStep s o noneP = o := by
  unfold knownStep
  rw [if_pos (.inl (by decide))]
theorem known_sorted {s p : PeerV} {o : List PeerV} (h : o.Pairwise (fun a b => a.addr < b.addr)) : (knownStep s o p).Pairwise (fun a b => a.addr < b.addr) := by
  unfold knownStep
  split
  · exact h
  · rename_i hc; exact insP_sorted h fun h9 => hc (.inr (.inr h9))
theorem gone_step {s p : PeerV} {a : Int} {o : List PeerV} (h : o.Pairwise (fun a b => a.addr < b.addr)) : knownStep s (others a o) (gone1 a p) = others a (knownStep s o p) := by
  unfold gone1
  by_cases hp : p.addr = a
  · rw [if_pos hp, known_none]
    unfold knownStep
    split
    · rfl
    · exact (others_ins_gone hp).symm
  · rw [if_neg hp]
    unfold knownStep
    by_cases hc : p.addr < 0 ∨ p.addr = s.addr ∨ hasA o p.addr
    · rw [if_pos hc, if_pos (hc.imp id (Or.imp id (others_has hp).2))]
    · rw [if_neg hc, if_neg (fun h9 => hc (h9.imp id (Or.imp id (others_has hp).1)))]
      exact (others_ins hp h).symm
theorem gone_fold {s : PeerV} {a : Int} : ∀ {xs o : List PeerV}, o.Pairwise (fun a b => a.addr < b.addr) → (xs.map (gone1 a)).foldl (knownStep s) (others a o) = others a (xs.foldl (knownStep s) o)
  | [], _, _ => rfl
  | p :: xs, o, h => by
    rw [List.map_cons, List.foldl_cons, List.foldl_cons, gone_step h]
    exact gone_fold (known_sorted h)
theorem filter_gone {s : PeerV} {a : Int} : ∀ {xs o : List PeerV}, (xs.filter (fun p => p.addr ≠ a)).foldl (knownStep s) o = (xs.map (gone1 a)).foldl (knownStep s) o
  | [], _ => rfl
  | p :: xs, o => by
    by_cases hp : p.addr = a
    · rw [List.filter_cons, if_neg (by simp [hp]), List.map_cons, List.foldl_cons, show gone1 a p = noneP from if_pos hp, known_none]
      exact filter_gone
    · rw [List.filter_cons, if_pos (by simp [hp]), List.map_cons, List.foldl_cons, List.foldl_cons, show gone1 a p = p from if_neg hp]
      exact filter_gone
/-- Who is known of a table that forgot one. -/
theorem known_forget {t : Tb} {a : Int} : knownT (forgetT t a) = others a (knownT t) := by
  unfold knownT
  have e := gone_fold (s := t.self) (a := a) (xs := t.pred :: (t.succ ++ t.fingers)) (o := []) List.Pairwise.nil
  rw [← e]
  show ((if t.pred.addr = a then noneP else t.pred) :: (t.succ.filter _ ++ t.fingers.map _)).foldl (knownStep t.self) [] = _
  rw [List.map_cons, List.map_append, List.foldl_cons, List.foldl_cons, List.foldl_append, List.foldl_append, filter_gone]
  rfl
theorem forget_twice {t : Tb} {a : Int} : forgetT (forgetT t a) a = forgetT t a := by
  unfold forgetT
  simp only [List.filter_filter, List.map_map, Tb.mk.injEq, true_and]
  refine ⟨?_, ?_, ?_⟩
  · split
    · split <;> rfl
    · rfl
  · congr 1; funext p; simp
  · congr 1; funext p
    simp only [Function.comp_apply]
    split
    · split <;> rfl
    · rfl
theorem others_take {a : Int} {l : List PeerV} {k : Nat} (hk : k < l.length) : others a (l.take (k + 1)) = if l[k].addr = a then others a (l.take k) else others a (l.take k) ++ [l[k]] := by
  unfold others
  rw [List.take_add_one, List.getElem?_eq_getElem hk, List.filter_append]
  split
  · rename_i h; simp [h]
  · rename_i h; simp [h]
theorem others_at {a : Int} {l : List PeerV} {k : Nat} (hk : k < l.length) (h : ¬ l[k].addr = a) : (others a l)[(others a (l.take k)).length]? = some l[k] := by
  have e : others a l = others a (l.take k) ++ (l[k] :: others a (l.drop (k + 1))) := by
    conv => lhs; rw [← List.take_append_drop k l, List.drop_eq_getElem_cons hk]
    unfold others
    rw [List.filter_append, List.filter_cons, if_pos (by simp [h])]
  rw [e, List.getElem?_append_right (Nat.le_refl _), Nat.sub_self]
  rfl
end Go.Esp
/-
  Who is nearest, and which fingers are pointed, in plain Lean.
-/
set_option linter.unusedSimpArgs false
set_option linter.unusedVariables false
set_option linter.unnecessarySimpa false
namespace Go.Esp
/-- Stands p between, and may it be asked? -/
def CandP (s : PeerV) (id : Plc) (avoid : List Int) (p : PeerV) : Prop := OpenP s.id p.id id ∧ p.addr ∉ avoid
instance (s : PeerV) (id : Plc) (avoid : List Int) (p : PeerV) : Decidable (CandP s id avoid p) := by unfold CandP; exact inferInstance
structure NearOk (s : PeerV) (id : Plc) (avoid : List Int) (l : List PeerV) (r : PeerV × Bool) : Prop where
  no : r.2 = false → r.1 = noneP ∧ ∀ x ∈ l, ¬ CandP s id avoid x
  yes : r.2 = true → r.1 ∈ l ∧ CandP s id avoid r.1 ∧ ∀ x ∈ l, CandP s id avoid x → ¬ OpenP r.1.id x.id id
theorem near_step {s : PeerV} {id : Plc} {avoid : List Int} {l : List PeerV} {r : PeerV × Bool} {p : PeerV} (h : NearOk s id avoid l r) : NearOk s id avoid (l ++ [p]) (nearStep s id avoid r p) := by
  obtain ⟨b, f⟩ := r
  unfold nearStep
  by_cases hc : p.addr ∈ avoid ∨ ¬ OpenP s.id p.id id
  · rw [if_pos hc]
    have hn : ¬ CandP s id avoid p := fun h9 => hc.elim h9.2 (fun h8 => h8 h9.1)
    refine ⟨fun h1 => ⟨(h.no h1).1, fun x hx => ?_⟩, fun h1 => ⟨List.mem_append_left _ (h.yes h1).1, (h.yes h1).2.1, fun x hx hcx => ?_⟩⟩
    · rcases List.mem_append.1 hx with hx | hx
      · exact (h.no h1).2 x hx
      · rw [List.mem_singleton.1 hx]; exact hn
    · rcases List.mem_append.1 hx with hx | hx
      · exact (h.yes h1).2.2 x hx hcx
      · rw [List.mem_singleton.1 hx] at hcx; exact (hn hcx).elim
  · rw [if_neg hc]
    have hp : CandP s id avoid p := ⟨Decidable.byContradiction fun h9 => hc (.inr h9), fun h9 => hc (.inl h9)⟩
    by_cases hd : f = false ∨ OpenP b.id p.id id
    · rw [if_pos (show (b, f).2 = false ∨ OpenP (b, f).1.id p.id id from hd)]
      refine ⟨fun h1 => (by cases h1), fun _ => ⟨List.mem_append_right _ (List.mem_singleton.2 rfl), hp, fun x hx hcx ho => ?_⟩⟩
      rcases List.mem_append.1 hx with hx | hx
      · cases f with
        | false => exact (h.no rfl).2 x hx hcx
        | true =>
          have hb := h.yes rfl
          have ho2 : OpenP b.id p.id id := hd.resolve_left (by simp)
          have h1 := (open_less hb.2.1.1 hp.1).1 ho2
          have h2 := (open_less hp.1 hcx.1).1 ho
          exact hb.2.2 x hx hcx ((open_less hb.2.1.1 hcx.1).2 (Nat.lt_trans h1 h2))
      · rw [List.mem_singleton.1 hx] at ho; exact ho.1 rfl
    · rw [if_neg (show ¬ ((b, f).2 = false ∨ OpenP (b, f).1.id p.id id) from hd)]
      refine ⟨fun h1 => (hd (.inl h1)).elim, fun h1 => ⟨List.mem_append_left _ (h.yes h1).1, (h.yes h1).2.1, fun x hx hcx => ?_⟩⟩
      rcases List.mem_append.1 hx with hx | hx
      · exact (h.yes h1).2.2 x hx hcx
      · rw [List.mem_singleton.1 hx]; exact fun h9 => hd (.inr h9)
theorem near_fold {s : PeerV} {id : Plc} {avoid : List Int} : ∀ {xs l : List PeerV} {r : PeerV × Bool}, NearOk s id avoid l r → NearOk s id avoid (l ++ xs) (xs.foldl (nearStep s id avoid) r)
  | [], l, r, h => by rw [List.append_nil]; exact h
  | p :: xs, l, r, h => by
    have := near_fold (xs := xs) (near_step (p := p) h)
    rw [List.append_assoc] at this
    exact this
theorem near_ok {t : Tb} {id : Plc} {avoid : List Int} : NearOk t.self id avoid (knownT t) (nearestT t id avoid) :=
  near_fold (l := []) ⟨fun _ => ⟨rfl, by simp⟩, fun h => by cases h⟩
/-- Is one of them the nearest one? -/
theorem near_there {s : PeerV} {id : Plc} {avoid : List Int} {l : List PeerV} {r : PeerV × Bool} (h : NearOk s id avoid l r) : (∃ x ∈ l, CandP s id avoid x ∧ x = r.1) ↔ r.2 = true := by
  constructor
  · rintro ⟨x, hx, hc, _⟩
    cases hf : r.2 with
    | true => rfl
    | false => exact ((h.no hf).2 x hx hc).elim
  · intro hf
    exact ⟨_, (h.yes hf).1, (h.yes hf).2.1, rfl⟩
theorem near_bad {s : PeerV} {id : Plc} {avoid : List Int} {l : List PeerV} {b : PeerV} {f : Bool} {x : PeerV} (h : NearOk s id avoid l (b, f)) (hx : x ∈ l) (hc : CandP s id avoid x) : f = true ∧ ¬ OpenP b.id x.id id := by
  cases f with
  | false => exact ((h.no rfl).2 x hx hc).elim
  | true => exact ⟨rfl, (h.yes rfl).2.2 x hx hc⟩
theorem ex_take {α : Type} {p : α → Prop} {l : List α} {k : Nat} (hk : k < l.length) : (∃ x ∈ l.take (k + 1), p x) ↔ (∃ x ∈ l.take k, p x) ∨ p l[k] := by
  rw [List.take_add_one, List.getElem?_eq_getElem hk]
  simp only [List.mem_append, Option.toList_some, List.mem_singleton]
  constructor
  · rintro ⟨x, hx | rfl, hp⟩
    · exact .inl ⟨x, hx, hp⟩
    · exact .inr hp
  · rintro (⟨x, hx, hp⟩ | hp)
    · exact ⟨x, .inl hx, hp⟩
    · exact ⟨_, .inr rfl, hp⟩
theorem mem_take_step {l : List Int} {k : Nat} {a : Int} (hk : k < l.length) : a ∈ l.take (k + 1) ↔ a ∈ l.take k ∨ l[k] = a := by
  rw [List.take_add_one, List.getElem?_eq_getElem hk]
  simp only [List.mem_append, Option.toList_some, List.mem_singleton]
  exact or_congr Iff.rfl eq_comm
/-! Fingers that are pointed. -/
theorem pointEnd_in {s p : PeerV} {k : Nat} : ∀ {n j : Nat}, ∀ i, k < i → j ≤ i → i < pointEnd s p k j n → inArc s p i = true
  | 0, j, i, _, h1, h2 => by unfold pointEnd at h2; omega
  | n + 1, j, i, h0, h1, h2 => by
    unfold pointEnd at h2
    split at h2
    · omega
    · rename_i hc
      rcases Nat.lt_or_ge j i with h | h
      · exact pointEnd_in i h0 h h2
      · obtain rfl : i = j := by omega
        cases ha : inArc s p i with
        | true => rfl
        | false => exact (hc ⟨h0, ha⟩).elim
theorem pointEnd_out {s p : PeerV} {k : Nat} : ∀ {n j : Nat}, pointEnd s p k j n < j + n → inArc s p (pointEnd s p k j n) = false
  | 0, j, h => by unfold pointEnd at h; omega
  | n + 1, j, h => by
    unfold pointEnd at h ⊢
    split at h
    · rename_i hc
      rw [if_pos hc]; exact hc.2
    · rename_i hc
      rw [if_neg hc]
      exact pointEnd_out (by omega)
theorem ptW_at {α : Type} {l : List α} {k j i : Nat} {f : α} (hk : k ≤ j) (hj : j ≤ l.length) (hi : i < l.length) : (ptW l k j f)[i]? = some (if k ≤ i ∧ i < j then f else l[i]) := by
  unfold ptW
  rcases Nat.lt_or_ge i k with h | h
  · rw [if_neg (by omega), List.append_assoc, List.getElem?_append_left (by simp; omega), List.getElem?_take_of_lt h, List.getElem?_eq_getElem hi]
  · rcases Nat.lt_or_ge i j with h2 | h2
    · rw [if_pos ⟨h, h2⟩, List.getElem?_append_left (by simp; omega), List.getElem?_append_right (by simp; omega), List.getElem?_replicate, if_pos (by simp; omega)]
    · rw [if_neg (by omega), List.getElem?_append_right (by simp; omega), List.getElem?_drop, List.getElem?_eq_getElem (by simp; omega)]
      congr 2
      simp; omega
theorem point_law {t : Tb} {k : Int} {p : PeerV} (he : (pointT t k p).2.2 = 0) : ∃ kn j : Nat, k = kn ∧ kn < j ∧ j ≤ 160 ∧ IsTb t ∧ pointT t k p = ({ t with fingers := ptW t.fingers kn j (fingerOf t p) }, if j = 160 then 0 else (j : Int), 0) ∧
    (∀ i, kn < i → i < j → inArc t.self p i = true) ∧ (j < 160 → inArc t.self p j = false) := by
  by_cases hc : IsTb t ∧ (0 ≤ k ∧ k < 160) ∧ (p = t.self ∨ OtherP t.self p)
  · obtain ⟨h, ⟨hk1, hk2⟩, hp⟩ := hc
    obtain ⟨n, rfl⟩ := Int.eq_ofNat_of_zero_le hk1
    have hn : n < 160 := by omega
    obtain ⟨g1, g2⟩ := pointEnd_gt (s := t.self) (p := p) hn
    exact ⟨n, _, rfl, g1, g2, h, pointT_at h hn hp rfl, fun i h1 h2 => pointEnd_in i h1 (by omega) h2, fun h9 => pointEnd_out (by omega)⟩
  · rw [pointT_no hc] at he; cases he
theorem point_zero {t : Tb} {k : Int} {p : PeerV} (he : ¬ (pointT t k p).2.2 = 0) : pointT t k p = (Tb.zero, 0, 1) := by
  by_cases hc : IsTb t ∧ (0 ≤ k ∧ k < 160) ∧ (p = t.self ∨ OtherP t.self p)
  · obtain ⟨h, ⟨hk1, hk2⟩, hp⟩ := hc
    obtain ⟨n, rfl⟩ := Int.eq_ofNat_of_zero_le hk1
    rw [pointT_at h (by omega) hp rfl] at he
    exact (he rfl).elim
  · exact pointT_no hc
end Go.Esp
/-
  More rules: scopes that nothing jumps in; maps that are nil; how many a map has; the lesser of two.
-/
set_option linter.unusedSimpArgs false
set_option linter.unusedVariables false
set_option linter.unnecessarySimpa false
namespace Go.Esp
section
variable {P : Program} {n : Sh} {ops : Array Oper} {Q : Exit → Act → World → Prop} {rest : List Nat} {M M' : Mem} {H H' H0 : Hp} {e : Env} {J S : World → Prop} {A : As} {i : Nat}
  {dst : Option Tmp} {d : Tmp} {op : Op} {ty : TypeId} {pos : String} {af : Array Edge} {gd : Option (Nat × Bool)}

theorem C_scope {c : Code} (hro : n.ro = none) (h : C P n c (Exit.noGoto Q) S e) : C P n (.scope c) Q S e := by
  intro a w ha hw
  have h1 := h a w ha hw
  rw [hro] at h1 ⊢
  rw [Fr_none] at h1 ⊢
  exact wpIn_wide.2 (wp_scope_straight (wpIn_wide.1 h1))
theorem K_scopeN (h : K n Q .normal S e) : K n (Exit.noGoto Q) .normal S e := h
theorem K_scopeR (h : K n Q .ret S e) : K n (Exit.noGoto Q) .ret S e := h
theorem K_scopeX {id : Nat} (h : K n Q (.exit id) S e) : K n (Exit.noGoto Q) (.exit id) S e := h

theorem X_lookup2_nil {t k el : TypeId} {x y : Operand} {z : Int} {zv : Value} (hi : ops[i]? = some ⟨some d, .lookup t x y true, ty, pos, af, gd⟩) (hg : want ops e gd = some true)
    (hx : ev e x = some (.map none)) (hy : ev e y = some (.int .i64 z)) (ht : mapOf P t = some (k, el)) (hz : zeroOf P el = some zv) (hd : Nat.ble (d + 1) n.sz = true)
    (hk : XD P n ops Q rest J A ((d, .tuple #[zv, .bool false]) :: e)) : XD P n ops Q (i :: rest) J A e :=
  X_read hi rfl hg (fun a' w ha hw => runs_of (by
    simp only [execOp, ha.ev hx, ha.ev hy]
    refine run_v ?_
    obtain ⟨h1, h2⟩ := mapOf_spec ht
    have hzv : (zeroValue el).run P w = .ok zv w := by
      unfold zeroOf at hz
      split at hz
      · rename_i it hit; simp [zeroValue, typeInfo, hit, hz]
      · cases hz
    unfold Instr.lookup
    rw [run_bind_ok (run_underlying' h1)]
    simp only []
    rw [run_bind_ok (show (pure #[] : Sem (Array MapEntry)).run P w = .ok #[] w from rfl), run_bind_ok (run_checkKey_int h2), run_bind_ok (run_findKey (es := #[]) (l := []) h2 rfl)]
    simp only [imGet]
    rw [run_bind_ok hzv]
    rfl)) (fun a ha => ha.put hd _) hk

theorem X_len_map {t k el : TypeId} {x : Operand} {b : Nat} {o : Obj} {l : IM} {MJ : Mem} {HJ : Hp} {ats : Array TypeId} (hi : ops[i]? = some ⟨some d, .call ⟨.builtin .len, #[x], ats⟩, ty, pos, af, gd⟩) (hg : want ops e gd = some true)
    (hx : ev e x = some (.map (some b))) (hat : ats[0]? = some t) (ht : mapOf P t = some (k, el)) (hb : (b, o) ∈ HJ) (ho : imO o l) (hd : Nat.ble (d + 1) n.sz = true) (hk : XD P n ops Q rest (St MJ HJ) A ((d, .int .i64 (l.length : Int)) :: e)) : XD P n ops Q (i :: rest) (St MJ HJ) A e :=
  X_read hi rfl hg (fun a' w ha hw => runs_of (by
    obtain ⟨h1, h2⟩ := mapOf_spec ht
    obtain ⟨es, c, rfl, hkv⟩ := ho
    have hl : es.size = l.length := by have := congrArg List.length hkv; simpa [kvs] using this
    simp only [execOp, resolve]
    simp [invoke, builtin, Builtin.len_, ha.ev hx, hat, run_underlying' h1, run_getObj' (hw.own _ _ hb), goInt, hl])) (fun a ha => ha.put hd _) hk

theorem X_min {x y : Operand} {p q r : Int} {ats : Array TypeId} (hi : ops[i]? = some ⟨some d, .call ⟨.builtin .min, #[x, y], ats⟩, ty, pos, af, gd⟩) (hg : want ops e gd = some true)
    (hx : ev e x = some (.int .i64 p)) (hy : ev e y = some (.int .i64 q)) (hr : (if q < p then q else p) = r) (hd : Nat.ble (d + 1) n.sz = true) (hk : XD P n ops Q rest J A ((d, .int .i64 r) :: e)) : XD P n ops Q (i :: rest) J A e :=
  X_read hi rfl hg (fun a' w ha _ => runs_of (by
    subst hr
    simp only [execOp, resolve]
    simp [invoke, builtin, Builtin.min_, Builtin.min2, ha.ev hx, ha.ev hy])) (fun a ha => ha.put hd _) hk
theorem X_cap_sl {t E sz by_ : Nat} {x : Operand} {a : Option Addr} {l c : Nat} {ats : Array TypeId} (hi : ops[i]? = some ⟨some d, .call ⟨.builtin .cap, #[x], ats⟩, ty, pos, af, gd⟩) (hg : want ops e gd = some true)
    (hx : ev e x = some (.slice a l c)) (hat : ats[0]? = some t) (ht : slOf P t = some (E, sz, by_)) (hd : Nat.ble (d + 1) n.sz = true) (hk : XD P n ops Q rest J A ((d, .int .i64 (c : Int)) :: e)) : XD P n ops Q (i :: rest) J A e :=
  X_read hi rfl hg (fun a' w ha _ => runs_of (by
    obtain ⟨it, hu, _⟩ := elemOf_spec ht
    simp only [execOp, resolve]
    simp [invoke, builtin, Builtin.cap_, ha.ev hx, hat, run_underlying hu, goInt])) (fun a ha => ha.put hd _) hk

/-- Room for k elements, none of them there yet: append(nil, make([]T, k)...). -/
theorem X_appendZ {t tn E sz by_ k : Nat} {z : Value} {kn : IntKind} {x y : Operand} (hi : ops[i]? = some ⟨some d, .call ⟨.builtin .append, #[x, y], #[t, tn]⟩, ty, pos, af, gd⟩) (hg : want ops e gd = some true)
    (hx : ev e x = some (.slice none 0 0)) (hy : ev e y = some (.int .i64 (k : Int))) (ht : slOf P t = some (E, sz, by_)) (htn : P.underlying tn = some (.int kn)) (hz : zeroOf P E = some z) (hzs : z.cells.size = sz) (hsz : Nat.ble 1 sz = true) (h0 : 0 < k) (hk9 : k ≤ 16777216) (hkb : k * by_ ≤ 140737488355328) (hd : Nat.ble (d + 1) n.sz = true)
    (hk : ∀ (b c : Nat) hs', k ≤ c → OSl E sz (.slice (some ⟨b, 0, none⟩) 0 c) hs' [] → XD P n ops Q rest (St M (hs' ++ H)) ⟨M, hs' ++ H⟩ ((d, .slice (some ⟨b, 0, none⟩) k c) :: e)) (hnw : n.wrs.contains i = false := by rfl) : XD P n ops Q (i :: rest) J ⟨M, H⟩ e := by
  refine X_mut hi rfl hg (fun a w ha hw => ?_) hnw
  obtain ⟨it, hu, hit, rfl, rfl⟩ := elemOf_spec ht
  have hz' : it.zero = some z := by simpa [zeroOf, hit] using hz
  have hpos : 1 ≤ it.size := Nat.le_of_ble_eq_true hsz
  have hr := Lib.run_append_nil_zeros (P := P) w t tn ty E it z .i64 kn hu htn hit hz' k h0 (by omega) (by omega) (by omega)
  have hge := grownCap_ge w k 0 E
  have hcm : grownCap w k 0 E ≤ maxLen := grownCap_le_maxLen w k 0 E (by simp only [maxLen]; omega)
  have h0' : St M H w.drew := hw.heap rfl ⟨rfl, rfl, rfl, Nat.le_succ _⟩
  have h2 := h0'.alloc (.cells (Builtin.zeroCells z.cells k ++ Builtin.zeroCells z.cells (grownCap w k 0 E - k)) E)
  have ho : OSl E it.size (.slice (some ⟨w.heap.size, 0, none⟩) 0 (grownCap w k 0 E)) [(w.heap.size, .cells (Builtin.zeroCells z.cells k ++ Builtin.zeroCells z.cells (grownCap w k 0 E - k)) E (0, 0))] [] := by
    refine OSl.own (T := E) (sz := it.size) w.heap.size (grownCap w k 0 E) [] _ (fun r hr => by cases hr) (Nat.zero_le _) hcm ?_ (by simp [rowsCells])
    simp only [Array.size_append, size_zeroCells, hzs]
    rw [← Nat.add_mul]; congr 1; omega
  unfold Oper.does
  have : (execOp a.eval ⟨some d, .call ⟨.builtin .append, #[x, y], #[t, tn]⟩, ty, pos, af, gd⟩).run P w = .ok (.value (.slice (some ⟨w.heap.size, 0, none⟩) k (grownCap w k 0 E))) (w.drew.alloc (.cells (Builtin.zeroCells z.cells k ++ Builtin.zeroCells z.cells (grownCap w k 0 E - k)) E)) := by
    simp only [execOp, resolve]
    simp only [invoke, builtin]
    have e1 : #[x, y].map a.eval = #[.slice none 0 0, .int .i64 (k : Int)] := by simp [ha.ev hx, ha.ev hy]
    rw [e1]
    rw [Sem.run_bind]
    show (Result.ok _ w).andThen _ = _
    rw [Result.andThen_ok]
    exact run_v hr
  rw [this]
  exact ⟨⟨M, _⟩, _, h2, ha.put hd _, hk _ _ _ hge ho⟩

/-! Cuts: what is known behind a piece of code, told once for all ways through it. -/
theorem C_cutX {α : Type} {c rest : Code} (pre : α → Env) (F : α → Prop) {e0 : Env} (hp : Pick e e0)
    (h1 : C P n c (Exit.then (fun a w => ∃ x, F x ∧ Sat n (pre x ++ e0) a ∧ S w) Q) S e) (h2 : ∀ x, F x → C P n rest Q S (pre x ++ e0)) :
    C P n c (Exit.then (rest.wpIn (Fr n.ro) 0 P Q) Q) S e := by
  intro a w ha hw
  refine wpIn_mono (h1 a w ha hw) fun x a' w' hx => ?_
  cases x with
  | normal =>
    obtain ⟨x, hF, hs, hw2⟩ := hx
    exact h2 x hF a' w' hs hw2
  | _ => exact hx
theorem K_cutX {α : Type} {S' : World → Prop} {pre : α → Env} {F : α → Prop} {e0 e1 : Env} (x : α) (hF : F x) (hp : Pick e1 (pre x ++ e0)) (hS : ∀ w, S' w → S w) :
    K n (Exit.then (fun a w => ∃ x, F x ∧ Sat n (pre x ++ e0) a ∧ S w) Q) .normal S' e1 := fun a w ha hw => ⟨x, hF, ha.pick hp, hS w hw⟩
theorem K_is {x : Exit} {v v' : Value} (k : Nat) (hk : get e k = some v) (hv : v = v') (h : K n Q x S ((k, v') :: e)) : K n Q x S e := fun a w ha hw => h a w (ha.more (hv ▸ hk)) hw
theorem K_bool {x : Exit} {b : Bool} (k : Nat) (hk : get e k = some (.bool b)) (ht : b = true → K n Q x S ((k, .bool true) :: e)) (hf : b = false → K n Q x S ((k, .bool false) :: e)) : K n Q x S e := by
  cases b with
  | true => exact K_is k hk rfl (ht rfl)
  | false => exact K_is k hk rfl (hf rfl)
end
end Go.Esp
/-
  Walks over tables, in plain Lean.
-/
set_option linter.unusedSimpArgs false
set_option linter.unusedVariables false
set_option linter.unnecessarySimpa false
namespace Go.Esp

/-! What a map has after some tables were put into it. -/
def imPuts (l : List TableV) : IM := l.foldl (fun m t => imPut m t.self.addr t.enc) []
theorem imPuts_snoc {l : List TableV} {t : TableV} : imPuts (l ++ [t]) = imPut (imPuts l) t.self.addr t.enc := by
  unfold imPuts; rw [List.foldl_append]; rfl
theorem imSet_len {k : Int} {v : Value} : ∀ {l : IM}, (imSet l k v).length = l.length
  | [] => rfl
  | (j, u) :: l => by
    unfold imSet
    split
    · rfl
    · simp [imSet_len]
theorem imSet_keys {k : Int} {v : Value} : ∀ {l : IM}, (imSet l k v).map Prod.fst = l.map Prod.fst
  | [] => rfl
  | (j, u) :: l => by
    unfold imSet
    split
    · rfl
    · simp [imSet_keys]
theorem imGet_none {k : Int} : ∀ {l : IM}, imGet l k = none ↔ k ∉ l.map Prod.fst
  | [] => by simp [imGet]
  | (j, u) :: l => by
    unfold imGet
    by_cases h : k = j
    · simp [h]
    · simp [h, imGet_none (l := l)]
theorem imPut_keys {k : Int} {v : Value} {l : IM} : ∀ a, a ∈ (imPut l k v).map Prod.fst ↔ a ∈ l.map Prod.fst ∨ a = k := by
  intro a
  unfold imPut
  cases h : imGet l k with
  | none => simp
  | some u =>
    simp only [imSet_keys]
    have hk : k ∈ l.map Prod.fst := by
      apply Decidable.byContradiction
      intro hn
      rw [imGet_none.2 hn] at h; cases h
    constructor
    · exact .inl
    · rintro (h | rfl)
      · exact h
      · exact hk
theorem imPuts_keys {l : List TableV} : ∀ a, a ∈ (imPuts l).map Prod.fst ↔ a ∈ l.map (fun t => t.self.addr) := by
  intro a
  have key : ∀ (l : List TableV) (m : IM), a ∈ (l.foldl (fun m t => imPut m t.self.addr t.enc) m).map Prod.fst ↔ a ∈ m.map Prod.fst ∨ a ∈ l.map (fun t => t.self.addr) := by
    intro l
    induction l with
    | nil => intro m; simp
    | cons t l ih =>
      intro m
      rw [List.foldl_cons, ih, imPut_keys, List.map_cons, List.mem_cons, or_assoc]
  have := key l []
  simpa [imPuts] using this
theorem imPuts_take {l : List TableV} {k : Nat} (hk : k < l.length) : imPuts (l.take (k + 1)) = imPut (imPuts (l.take k)) l[k].self.addr l[k].enc := by
  rw [List.take_add_one, List.getElem?_eq_getElem hk]
  exact imPuts_snoc
theorem imPuts_go {l : List TableV} {t : TableV} : (t.self.addr ∉ l.map (fun t => t.self.addr) ∧ imPuts (l ++ [t]) = imPuts l ++ [(t.self.addr, t.enc)]) ∨ (t.self.addr ∈ l.map (fun t => t.self.addr) ∧ (imPuts (l ++ [t])).length = (imPuts l).length) := by
  rw [imPuts_snoc]
  unfold imPut
  cases h : imGet (imPuts l) t.self.addr with
  | none => exact .inl ⟨by rw [← imPuts_keys]; exact imGet_none.1 h, rfl⟩
  | some u =>
    refine .inr ⟨?_, by simp only [imSet_len]⟩
    apply Decidable.byContradiction
    intro hn
    rw [← imPuts_keys] at hn
    rw [imGet_none.2 hn] at h; cases h
theorem imPuts_is : ∀ (l : List TableV), ((l.map (fun t => t.self.addr)).Nodup → imPuts l = l.map fun t => (t.self.addr, t.enc)) ∧ (imPuts l).length ≤ l.length ∧ (¬ (l.map (fun t => t.self.addr)).Nodup → (imPuts l).length < l.length) := by
  intro l
  have key : ∀ n, n = l.length → ((l.map (fun t => t.self.addr)).Nodup → imPuts l = l.map fun t => (t.self.addr, t.enc)) ∧ (imPuts l).length ≤ l.length ∧ (¬ (l.map (fun t => t.self.addr)).Nodup → (imPuts l).length < l.length) := by
    intro n
    induction n generalizing l with
    | zero =>
      intro h
      obtain rfl := List.eq_nil_of_length_eq_zero h.symm
      exact ⟨fun _ => rfl, Nat.le_refl _, fun h => absurd List.nodup_nil h⟩
    | succ n ih =>
      intro h
      rcases List.eq_nil_or_concat l with rfl | ⟨r, t, rfl⟩
      · cases h
      · rw [List.concat_eq_append] at *
        obtain ⟨h1, h2, h3⟩ := ih r (by simp at h; omega)
        rw [List.map_append, List.map_singleton, List.nodup_append, List.length_append, List.length_singleton]
        rcases imPuts_go (l := r) (t := t) with ⟨g1, g2⟩ | ⟨g1, g2⟩
        · rw [g2, List.length_append, List.length_singleton]
          refine ⟨fun ⟨hn, _⟩ => by rw [h1 hn, List.map_append]; rfl, by omega, fun hn => ?_⟩
          have : ¬ (r.map (fun t => t.self.addr)).Nodup := fun h9 => hn ⟨h9, by simp, fun a ha b hb e => by rw [List.mem_singleton] at hb; subst e; subst hb; exact g1 ha⟩
          have := h3 this; omega
        · rw [g2]
          exact ⟨fun ⟨_, _, hn⟩ => (hn _ g1 _ (List.mem_singleton.2 rfl) rfl).elim, by omega, fun _ => by omega⟩
  exact key _ rfl
/-! Tables by their addresses. -/
def findV (l : List TableV) (a : Int) : Option TableV := l.find? fun t => decide (t.self.addr = a)
def findT (l : List Tb) (a : Int) : Option Tb := l.find? fun t => decide (t.self.addr = a)
theorem findT_map {l : List TableV} {a : Int} : findT (l.map TableV.tb) a = (findV l a).map TableV.tb := by
  unfold findT findV
  rw [List.find?_map]; rfl
theorem imGet_map {l : List TableV} {a : Int} : imGet (l.map fun t => (t.self.addr, t.enc)) a = (findV l a).map TableV.enc := by
  unfold findV
  induction l with
  | nil => rfl
  | cons t l ih =>
    rw [List.map_cons, List.find?_cons]
    unfold imGet
    by_cases h : t.self.addr = a
    · simp [h]
    · have h2 : ¬ a = t.self.addr := fun e => h e.symm
      simp [h, h2, ih]
theorem imGet_val {l : List TableV} {a : Int} : (imGet (l.map fun t => (t.self.addr, t.enc)) a).getD TableV.zero.enc = ((findV l a).getD TableV.zero).enc := by
  rw [imGet_map]
  cases findV l a <;> rfl
theorem imGet_is {l : List TableV} {a : Int} : (imGet (l.map fun t => (t.self.addr, t.enc)) a).isSome = (findV l a).isSome := by
  rw [imGet_map]
  cases findV l a <;> rfl
theorem findV_mem {l : List TableV} {a : Int} {t : TableV} (h : findV l a = some t) : t ∈ l ∧ t.self.addr = a := ⟨List.mem_of_find?_eq_some h, by simpa using List.find?_some h⟩
def RightL (l : List Tb) : Prop := l.length ≤ 16 ∧ (∀ t ∈ l, IsTb t) ∧ (l.map fun t => t.self.addr).Nodup
instance (l : List Tb) : Decidable (RightL l) := by unfold RightL; exact inferInstance
theorem idxF_nodup {l : List TableV} {j : Nat} (hj : j < l.length) (h : (l.map fun t => t.self.addr).Nodup) : idxF (fun t : TableV => decide (t.self.addr = l[j].self.addr)) l = j := by
  refine idxF_at hj (fun i hi => decide_eq_false fun e => ?_) (decide_eq_true rfl)
  have h1 := (List.pairwise_iff_getElem.1 h) i j (by simp; omega) (by simpa using hj) hi
  simp only [List.getElem_map] at h1
  exact h1 e
theorem right_no {l : List TableV} {k : Nat} (hk : k < l.length) (h : ¬ IsTb l[k].tb ∨ ¬ idxF (fun t : TableV => decide (t.self.addr = l[k].self.addr)) l = k) : ¬ RightL (l.map TableV.tb) := by
  rintro ⟨h1, h2, h3⟩
  rcases h with h | h
  · exact h (h2 _ (List.mem_map_of_mem (List.getElem_mem hk)))
  · refine h (idxF_nodup hk ?_)
    rw [List.map_map] at h3; exact h3
theorem right_yes {l : List TableV} (h : ∀ j (hj : j < l.length), IsTb l[j].tb ∧ idxF (fun t : TableV => decide (t.self.addr = l[j].self.addr)) l = j) : (l.length : Int) ≤ 16 ↔ RightL (l.map TableV.tb) := by
  constructor
  · intro h1
    refine ⟨by rw [List.length_map]; omega, fun t ht => ?_, ?_⟩
    · obtain ⟨x, hx, rfl⟩ := List.mem_map.1 ht
      obtain ⟨j, hj, rfl⟩ := List.getElem_of_mem hx
      exact (h j hj).1
    · rw [List.map_map]
      refine List.pairwise_iff_getElem.2 fun i j hi hj hij => ?_
      simp only [List.length_map] at hi hj
      simp only [List.getElem_map, Function.comp]
      intro e
      have g1 := (h i hi).2
      have g2 := (h j hj).2
      have g3 : idxF (fun t : TableV => decide (t.self.addr = l[i].self.addr)) l = idxF (fun t : TableV => decide (t.self.addr = l[j].self.addr)) l := by
        have e2 : l[i].self.addr = l[j].self.addr := e
        rw [e2]
      omega
  · rintro ⟨h1, _⟩
    rw [List.length_map] at h1; omega
/-! Walks. -/
structure Rt where
  hops : List Int
  end_ : PeerV
  deriving DecidableEq
def Rt.zero : Rt := ⟨[], ⟨0, 0⟩⟩
/-- A walk from t on; n: how often it may still go on. -/
def walkGo (l : List Tb) (id : Plc) (most : Nat) : Nat → Tb → List Int → Rt × Int
  | 0, _, _ => (Rt.zero, 2)
  | n + 1, t, hops =>
    if (doneT t id).2 then (⟨hops, (doneT t id).1⟩, 0)
    else if (nearestT t id []).2 = false then (Rt.zero, 7)
    else if most < hops.length then (Rt.zero, 2)
    else match findT l (nearestT t id []).1.addr with
      | none => (Rt.zero, 5)
      | some u => walkGo l id most n u (hops ++ [(nearestT t id []).1.addr])
section
variable {l : List Tb} {id : Plc} {most n : Nat} {t u : Tb} {hops : List Int} {p q : PeerV}
theorem walkGo_done (h : doneT t id = (p, true)) : walkGo l id most (n + 1) t hops = (⟨hops, p⟩, 0) := by
  unfold walkGo; rw [h]; rfl
theorem walkGo_none (h : doneT t id = (p, false)) (h2 : nearestT t id [] = (q, false)) : walkGo l id most (n + 1) t hops = (Rt.zero, 7) := by
  unfold walkGo; rw [h, h2]; rfl
theorem walkGo_limit (h : doneT t id = (p, false)) (h2 : nearestT t id [] = (q, true)) (h3 : most < hops.length) : walkGo l id most (n + 1) t hops = (Rt.zero, 2) := by
  unfold walkGo; rw [h, h2]
  simp only [Bool.false_eq_true, if_false, Bool.true_eq_false, if_pos h3]
theorem walkGo_range (h : doneT t id = (p, false)) (h2 : nearestT t id [] = (q, true)) (h3 : ¬ most < hops.length) (h4 : findT l q.addr = none) : walkGo l id most (n + 1) t hops = (Rt.zero, 5) := by
  unfold walkGo; rw [h, h2]
  simp only [Bool.false_eq_true, if_false, Bool.true_eq_false, if_neg h3, h4]
theorem walkGo_step (h : doneT t id = (p, false)) (h2 : nearestT t id [] = (q, true)) (h3 : ¬ most < hops.length) (h4 : findT l q.addr = some u) : walkGo l id most (n + 1) t hops = walkGo l id most n u (hops ++ [q.addr]) := by
  conv => lhs; unfold walkGo
  rw [h, h2]
  simp only [Bool.false_eq_true, if_false, Bool.true_eq_false, if_neg h3, h4]
end
def walkT (l : List Tb) (frm : Int) (id : Plc) (most : Int) : Rt × Int :=
  if RightL l ∧ 0 ≤ most ∧ most ≤ 64 then match findT l frm with
    | none => (Rt.zero, 1)
    | some t => walkGo l id most.toNat (most.toNat + 1) t [frm]
  else (Rt.zero, 1)
theorem walkT_wrong {l : List Tb} {frm : Int} {id : Plc} {most : Int} (h : ¬ RightL l) : walkT l frm id most = (Rt.zero, 1) := if_neg fun h9 => h h9.1
theorem walkT_far {l : List Tb} {frm : Int} {id : Plc} {most : Int} (h : most < 0 ∨ 64 < most) : walkT l frm id most = (Rt.zero, 1) := if_neg fun ⟨_, h1, h2⟩ => by omega
theorem walkT_none {l : List Tb} {frm : Int} {id : Plc} {most : Int} (h : findT l frm = none) : walkT l frm id most = (Rt.zero, 1) := by
  unfold walkT
  split
  · rw [h]
  · rfl
theorem walkT_go {l : List Tb} {frm : Int} {id : Plc} {most : Nat} {t : Tb} (h : RightL l) (hm : most ≤ 64) (hf : findT l frm = some t) : walkT l frm id (most : Int) = walkGo l id most (most + 1) t [frm] := by
  unfold walkT
  rw [if_pos ⟨h, by omega, by omega⟩, hf]
  rfl
theorem findV_idx {l : List TableV} {a : Int} : (idxF (fun t : TableV => decide (t.self.addr = a)) l < 0 ∧ findV l a = none) ∨ ∃ (i : Nat) (hi : i < l.length), idxF (fun t : TableV => decide (t.self.addr = a)) l = i ∧ findV l a = some l[i] := by
  by_cases h : idxF (fun t : TableV => decide (t.self.addr = a)) l = -1
  · refine .inl ⟨by omega, ?_⟩
    unfold idxF at h
    split at h
    · omega
    · rename_i h1
      unfold findV
      rw [List.find?_eq_none]
      intro x hx hp
      exact h1 (List.any_eq_true.2 ⟨x, hx, hp⟩)
  · obtain ⟨i, h1, hi, h3, h4⟩ := idxF_some h
    refine .inr ⟨i, hi, h1, ?_⟩
    unfold idxF at h1
    split at h1
    · have e : l.findIdx (fun t : TableV => decide (t.self.addr = a)) = i := by omega
      unfold findV
      rw [List.find?_eq_getElem?_findIdx, e, List.getElem?_eq_getElem hi]
    · omega
def RouteIs (M : Mem) (v : Value) (r : Rt) : Prop := ∃ x : RouteV, v = x.enc ∧ (⟨x.hops.l, x.end_⟩ : Rt) = r ∧ RouteV.ok M x
def RouteE (M : Mem) (v : Value) (r : Rt × Int) : Prop := ∃ u, v = .tuple #[u, .int .i64 r.2] ∧ RouteIs M u r.1
theorem routeIs_zero {M : Mem} : RouteIs M (aggV [.one (.slice none 0 0), .one (.int .i64 0), idSeg 0]) Rt.zero := ⟨RouteV.zero, rfl, rfl, RouteV.zero_ok M⟩
theorem routeIs_mk {M : Mem} {s : Sl Int} {v : Value} {a : Int} {i : Plc} {r : Rt} (h : v = s.val) (k : SlK M (oneI .i64) 1 s) (hr : (⟨s.l, ⟨a, i⟩⟩ : Rt) = r) : RouteIs M (aggV [.one v, .one (.int .i64 a), idSeg i]) r := by
  subst h
  exact ⟨⟨s, ⟨a, i⟩⟩, rfl, hr, ⟨k⟩⟩
end Go.Esp
/-
  Tables by their addresses.
-/
set_option linter.unusedSimpArgs false
set_option linter.unusedVariables false
set_option linter.unnecessarySimpa false
set_option maxRecDepth 8000
set_option maxHeartbeats 1000000
namespace Go.Proofs.Ytbjklbmmchiahaa
open Go.Esp
theorem F.elem60 : slOf Try.prog 60 = some (28, 44, 112) := by kernel_rfl
theorem F.map100 : mapOf Try.prog 100 = some (3, 28) := by kernel_rfl
theorem F.ok90 : okFn Try.prog 90 = true := by kernel_rfl

theorem index_ok (M : Mem) (l : (Sl TableV)) (hl0 : SlK M TableV.segs 44 l) (hl1 : ∀ y ∈ (l).l, TableV.ok M y) : Fh Try.prog 88 [Sl.val l] M [] (fun M' v Hout => M' = M ∧ ((RightL (l.l.map TableV.tb) ∧ ∃ b o, v = .map (some b) ∧ Hout = [(b, o)] ∧ imO o (l.l.map fun t => (t.self.addr, t.enc))) ∨ (¬ RightL (l.l.map TableV.tb) ∧ v = .map none ∧ Hout = []))) := by
  obtain ⟨l_a, l_c, l_l⟩ := l
  have k_l : SlK M TableV.segs 44 ⟨l_a, l_c, l_l⟩ := hl0
  have s_l : SlM M l_a (l_l.map TableV.segs) 44 := k_l.h1
  have n_l : (l_l.map TableV.segs).length = l_l.length := List.length_map ..
  have m_l : l_l.length ≤ 9223372036854775807 := k_l.h2
  have c_l : l_l.length ≤ l_c := k_l.h3
  refine fh_enter Try.func88 rfl Try.ntmps88 rfl ?_; intro H
  refine C_seq ?_
  refine C_region (l := [0]) rfl ?_
  refine Y_assign ?_
  refine XD_end ?_
  refine K_then ?_
  iterate 2 refine C_seq ?_
  refine C_region (l := [0, 1, 2]) rfl ?_
  refine Y_move ?_
  refine Y_len_sl F.elem60 ?_
  refine Y_cmp ?_
  refine XD_end ?_
  refine K_then ?_
  refine Y_pk [8, 2, 0] ?_
  refine C_cond rfl (fun hc1 => ?_) (fun hc1 => ?_)
  ·replace hc1 := dT hc1
   refine C_seq ?_
   refine C_region (l := [0]) rfl ?_
   refine Y_assign ?_
   refine XD_end ?_
   refine K_then ?_
   refine Y_pk [2, 0] ?_
   refine C_ret ?_
   refine K_ret ?_
   refine K_end (.inr rfl) (.tmp rfl .nil) (fun w hw => ?_)
   exact ⟨_, M, [], rfl, Mem.le.refl _, hw.c, rfl, .inr ⟨fun h9 => absurd h9.1 (by rw [List.length_map]; show ¬ l_l.length ≤ 16; omega), rfl, rfl⟩⟩
  ·replace hc1 := dF hc1
   refine C_skip ?_
   refine K_then ?_
   refine Y_pk [2, 0] ?_
   refine C_seq ?_
   refine C_region (l := [0, 1]) rfl ?_
   refine X_makeMap rfl rfl rfl ?_; intro b2
   refine Y_assign ?_
   refine XD_end ?_
   refine K_then ?_
   refine Y_pk [3, 2, 0] ?_
   iterate 2 refine C_seq ?_
   refine C_region (l := [0, 1, 2]) rfl ?_
   refine Y_move ?_
   refine Y_len_sl F.elem60 ?_
   refine Y_move ?_
   refine XD_end ?_
   refine K_then ?_
   refine C_block ?_
   refine Y_pk [12, 11, 10, 3, 2, 0] ?_
   refine C_loopO (Hin := [(b2, .map #[] 0)]) (.succ .zero) (by repeat first | exact Rem.here _ | exact Rem.two | apply Rem.skip | apply Rem.over) (fun (k : Nat) M1 h1 z => ∃ o, M1 = M ∧ z = [(12, .int .i64 (k : Int))] ∧ k ≤ l_l.length ∧ h1 = [(b2, o)] ∧ imO o (imPuts (l_l.take k)) ∧ ∀ j (h2 : j < l_l.length), j < k → IsTb l_l[j].tb) (fun k => l_l.length - k) (0) (⟨_, rfl, rfl, by omega, rfl, ⟨#[], 0, rfl, rfl⟩, by intro j h2 hj; omega⟩) ?_
   rintro k M1 h1 z hm1 ⟨o0, hM1, rfl, hk, rfl, him, hI⟩
   subst hM1
   refine C_seq ?_
   refine C_region (l := [0]) rfl ?_
   refine Y_cmp ?_
   refine XD_end ?_
   refine K_then ?_
   refine C_seq ?_
   refine C_cond rfl (fun hc3 => ?_) (fun hc3 => ?_)
   ·replace hc3 := dT hc3
    refine C_skip ?_
    refine K_then ?_
    refine C_seq ?_
    refine C_block ?_
    refine C_seq ?_
    refine C_region (l := [0, 1, 2, 3]) rfl ?_
    refine X_indexAddr rfl rfl rfl rfl F.elem60 (by rfl) (by omega) (by exact SlM.plain (by assumption) (by (simp; omega))) rfl ?_
    refine X_load_el rfl rfl rfl (by assumption) (by exact row_map (by omega)) F.lay28 rfl rfl rfl ?_
    refine Y_alloc F.zero28 ?_; intro b4
    refine Y_store F.lay28 ?_
    refine XD_end ?_
    refine K_then ?_
    iterate 2 refine C_seq ?_
    refine C_region (l := [0, 1, 2]) rfl ?_
    refine Y_load F.lay28 ?_
    refine X_fs rfl rfl F.ok31 rfl (IsT_ok _ l_l[k] (hl1 _ (show l_l[k] ∈ l_l from List.getElem_mem (by omega)))) rfl ?_
    rintro _ rfl
    refine Y_not ?_
    refine XD_end ?_
    refine K_then ?_
    refine C_cond rfl (fun hc5 => ?_) (fun hc5 => ?_)
    ·replace hc5 := nT hc5
     refine C_seq ?_
     refine C_region (l := [0]) rfl ?_
     refine Y_assign ?_
     refine XD_end ?_
     refine K_then ?_
     refine C_ret ?_
     refine K_ret ?_
     refine K_retB ?_
     iterate 2 refine K_ret ?_
     refine K_retB ?_
     refine K_ret ?_
     refine K_end (.inr rfl) (.tmp rfl .nil) (fun w hw => ?_)
     exact ⟨_, M1, [], rfl, Mem.le.refl _, hw.c, rfl, .inr ⟨fun h9 => absurd (h9.2.1 _ (List.mem_map_of_mem (show l_l[k] ∈ l_l from List.getElem_mem (by omega)))) (by assumption), rfl, rfl⟩⟩
    ·replace hc5 := nF hc5
     refine C_skip ?_
     refine K_then ?_
     refine C_region (l := [0, 1, 2, 3, 4, 5]) rfl ?_
     refine Y_move ?_
     refine Y_fieldAddr F.foff28_0 ?_
     refine Y_fieldAddr F.foff25_0 ?_
     refine Y_load F.lay3 ?_
     refine Y_load F.lay28 ?_
     refine X_mapUpdateF rfl rfl rfl rfl rfl F.map100 (by assumption) (by repeat first | exact List.Mem.head _ | refine List.Mem.tail _ ?_ | refine List.mem_append_right _ ?_) ?_; intro o6 him7; refine ⟨_, (by repeat first | exact Upd.head | apply Upd.tail | apply Upd.over), ?_⟩
     refine XD_end ?_
     refine K_out ?_
     refine K_then ?_
     refine C_region (l := [0, 1]) rfl ?_
     refine X_ari rfl rfl rfl rfl rfl (by exact wrap_in (by decide) (by omega)) rfl ?_
     refine Y_move ?_
     refine XD_end ?_
     refine K_roundO (a' := [(12, _)]) (k + 1) ([(b2, o6)]) (.cons (k := 12) rfl (.cons (k := 11) rfl (.cons (k := 10) rfl (.cons (k := 3) rfl (.cons (k := 2) rfl (.cons (k := 0) rfl (.nil))))))) (by exact Mem.le.refl _) (fun w hw => by first | exact hw | exact hw.c) ?_ ?_
     ·refine ⟨_, rfl, rfl, by omega, rfl, by rw [imPuts_take (by omega : k < l_l.length)]; exact him7, fun j h2 hj => ?_⟩
      rcases Nat.lt_or_ge j k with h9 | h9
      ·exact hI j h2 h9
      ·obtain rfl : j = k := by omega
       assumption
     ·omega
   ·replace hc3 := dF hc3
    refine C_exit ?_
    iterate 2 refine K_exit ?_
    refine K_hit ?_
    refine K_then ?_
    refine Y_pk [3, 2, 0] ?_
    iterate 2 refine C_seq ?_
    refine C_region (l := [0, 1, 2, 3, 4]) rfl ?_
    refine Y_move ?_
    refine X_len_map rfl rfl rfl rfl F.map100 (by repeat first | exact List.Mem.head _ | refine List.Mem.tail _ ?_ | refine List.mem_append_right _ ?_) him rfl ?_
    refine Y_move ?_
    refine Y_len_sl F.elem60 ?_
    refine Y_cmp ?_
    refine XD_end ?_
    refine K_then ?_
    refine Y_pk [29, 3, 2] ?_
    refine C_cond rfl (fun hc8 => ?_) (fun hc8 => ?_)
    ·replace hc8 := dT hc8
     refine C_seq ?_
     refine C_region (l := [0]) rfl ?_
     refine Y_assign ?_
     refine XD_end ?_
     refine K_then ?_
     refine Y_pk [2, 3] ?_
     refine C_ret ?_
     refine K_ret ?_
     refine K_end (.inr rfl) (.tmp rfl .nil) (fun w hw => ?_)
     obtain rfl : k = l_l.length := by omega
     simp only [List.take_length] at *
     obtain ⟨q1, q2, q3⟩ := imPuts_is l_l
     have hnn : ((l_l.map TableV.tb).map fun t => t.self.addr) = l_l.map fun t => t.self.addr := by rw [List.map_map]; rfl
     exact ⟨_, M1, [], rfl, Mem.le.refl _, hw.c, rfl, .inr ⟨fun h9 => by have h8 := h9.2.2; rw [hnn] at h8; have h7 := congrArg List.length (q1 h8); rw [List.length_map] at h7; omega, rfl, rfl⟩⟩
    ·replace hc8 := dF hc8
     refine C_skip ?_
     refine K_then ?_
     refine Y_pk [3, 2] ?_
     refine C_seq ?_
     refine C_region (l := [0, 1]) rfl ?_
     refine Y_move ?_
     refine Y_assign ?_
     refine XD_end ?_
     refine K_then ?_
     refine Y_pk [2] ?_
     refine C_ret ?_
     refine K_end (.inr rfl) (.tmp rfl .nil) (fun w hw => ?_)
     obtain rfl : k = l_l.length := by omega
     simp only [List.take_length] at *
     obtain ⟨q1, q2, q3⟩ := imPuts_is l_l
     have hnn : ((l_l.map TableV.tb).map fun t => t.self.addr) = l_l.map fun t => t.self.addr := by rw [List.map_map]; rfl
     have hnd : (l_l.map fun t => t.self.addr).Nodup := Decidable.byContradiction fun h9 => by have := q3 h9; omega
     rw [q1 hnd] at him
     refine ⟨_, M1, _, rfl, Mem.le.refl M1, hw.c, rfl, .inl ⟨⟨by rw [List.length_map]; (show l_l.length ≤ 16); omega, fun t ht => ?_, by rw [hnn]; exact hnd⟩, _, _, rfl, rfl, him⟩⟩
     obtain ⟨x, hx, rfl⟩ := List.mem_map.1 ht
     obtain ⟨j, hj, rfl⟩ := List.getElem_of_mem hx
     exact hI j hj hj

theorem find_ok (M : Mem) (l : (Sl TableV)) (a : Int) (hl0 : SlK M TableV.segs 44 l) (hl1 : ∀ y ∈ (l).l, TableV.ok M y) : Fs Try.prog 90 [Sl.val l, .int .i64 a] M (fun v => v = Value.int .i64 (idxF (fun t : TableV => decide (t.self.addr = a)) l.l)) := by
  obtain ⟨l_a, l_c, l_l⟩ := l
  have k_l : SlK M TableV.segs 44 ⟨l_a, l_c, l_l⟩ := hl0
  have s_l : SlM M l_a (l_l.map TableV.segs) 44 := k_l.h1
  have n_l : (l_l.map TableV.segs).length = l_l.length := List.length_map ..
  have m_l : l_l.length ≤ 9223372036854775807 := k_l.h2
  have c_l : l_l.length ≤ l_c := k_l.h3
  refine fs_enter Try.func90 rfl Try.ntmps90 rfl ?_; intro H
  refine C_seq ?_
  refine C_region (l := [0]) rfl ?_
  refine Y_assign ?_
  refine XD_end ?_
  refine K_then ?_
  iterate 2 refine C_seq ?_
  refine C_region (l := [0]) rfl ?_
  refine Y_assign ?_
  refine XD_end ?_
  refine K_then ?_
  refine C_block ?_
  refine Y_pk [5, 4, 0, 1] ?_
  refine C_loopS (.succ .zero) (fun (k : Nat) z => z = [(5, .int .i64 (k : Int))] ∧ k ≤ l_l.length ∧ (∀ j (h2 : j < l_l.length), j < k → ¬ l_l[j].self.addr = a)) (fun k => l_l.length - k) (0) (⟨rfl, by omega, by (intro j h2 hj; omega)⟩) ?_
  rintro k _ ⟨rfl, hk, hI⟩
  iterate 2 refine C_seq ?_
  refine C_region (l := [0, 1, 2, 3]) rfl ?_
  iterate 2 refine Y_move ?_
  refine Y_len_sl F.elem60 ?_
  refine Y_cmp ?_
  refine XD_end ?_
  refine K_then ?_
  refine C_cond rfl (fun hc1 => ?_) (fun hc1 => ?_)
  ·replace hc1 := dT hc1
   refine C_skip ?_
   refine K_then ?_
   refine C_seq ?_
   refine C_block ?_
   refine C_seq ?_
   refine C_region (l := [0, 1, 2, 3, 4, 5, 6, 7]) rfl ?_
   iterate 2 refine Y_move ?_
   refine X_indexAddr rfl rfl rfl rfl F.elem60 (by rfl) (by omega) (by exact SlM.plain (by assumption) (by (simp; omega))) rfl ?_
   refine X_fieldAddr_el rfl rfl rfl (by exact SlM.plain (by assumption) (by (simp; omega))) F.foff28_0 rfl ?_
   refine X_fieldAddr_el rfl rfl rfl (by exact SlM.plain (by assumption) (by (simp; omega))) F.foff25_0 rfl ?_
   refine X_load_el rfl rfl rfl (by assumption) (by exact row_map (by omega)) F.lay3 rfl rfl rfl ?_
   refine Y_move ?_
   refine Y_cmp ?_
   refine XD_end ?_
   refine K_then ?_
   refine C_cond rfl (fun hc2 => ?_) (fun hc2 => ?_)
   ·replace hc2 := dT hc2
    refine C_seq ?_
    refine C_region (l := [0, 1]) rfl ?_
    refine Y_move ?_
    refine Y_assign ?_
    refine XD_end ?_
    refine K_then ?_
    refine C_ret ?_
    refine K_retB ?_
    iterate 2 refine K_ret ?_
    refine K_retB ?_
    refine K_ret ?_
    refine K_end (.inr rfl) (.tmp rfl .nil) (fun w hw => ?_)
    refine ⟨_, rfl, (hw.c), ?_⟩
    clear hw
    refine congrArg (Value.int .i64) ?_
    exact (idxF_at (p := fun t : TableV => decide (t.self.addr = a)) (l := l_l) (k := k) (by omega) (fun j hj => decide_eq_false (hI j (by omega) hj)) (decide_eq_true (by assumption))).symm
   ·replace hc2 := dF hc2
    refine C_skip ?_
    refine K_out ?_
    refine K_then ?_
    refine C_region (l := [0, 1, 2]) rfl ?_
    refine Y_move ?_
    refine X_ari rfl rfl rfl rfl rfl (by exact wrap_in (by decide) (by omega)) rfl ?_
    refine Y_assign ?_
    refine XD_end ?_
    refine K_roundS (a' := [(5, _)]) (k + 1) (.cons (k := 5) rfl (.cons (k := 4) rfl (.cons (k := 0) rfl (.cons (k := 1) rfl (.nil))))) (fun w hw => by first | exact hw | exact hw.c) ?_ ?_
    ·refine ⟨rfl, by omega, ?_⟩
     (intro j h2 hj; rcases Nat.lt_or_ge j k with h9 | h9; exact hI j h2 h9; obtain rfl : j = k := (by omega); assumption)
    ·omega
  ·replace hc1 := dF hc1
   refine C_exit ?_
   iterate 2 refine K_exit ?_
   refine K_hit ?_
   refine K_then ?_
   refine Y_pk [4] ?_
   refine C_seq ?_
   refine C_region (l := [0]) rfl ?_
   refine Y_assign ?_
   refine XD_end ?_
   refine K_then ?_
   refine C_ret ?_
   refine K_end (.inr rfl) (.tmp rfl .nil) (fun w hw => ?_)
   refine ⟨_, rfl, (hw.c), ?_⟩
   clear hw
   refine congrArg (Value.int .i64) ?_
   exact (idxF_none (p := fun t : TableV => decide (t.self.addr = a)) (l := l_l) (fun j hj => decide_eq_false (hI j hj (by omega)))).symm

theorem right_ok (M : Mem) (l : (Sl TableV)) (hl0 : SlK M TableV.segs 44 l) (hl1 : ∀ y ∈ (l).l, TableV.ok M y) : Fs Try.prog 89 [Sl.val l] M (fun v => v = Value.bool (decide (RightL (l.l.map TableV.tb)))) := by
  obtain ⟨l_a, l_c, l_l⟩ := l
  have k_l : SlK M TableV.segs 44 ⟨l_a, l_c, l_l⟩ := hl0
  have s_l : SlM M l_a (l_l.map TableV.segs) 44 := k_l.h1
  have n_l : (l_l.map TableV.segs).length = l_l.length := List.length_map ..
  have m_l : l_l.length ≤ 9223372036854775807 := k_l.h2
  have c_l : l_l.length ≤ l_c := k_l.h3
  refine fs_enter Try.func89 rfl Try.ntmps89 rfl ?_; intro H
  refine C_seq ?_
  refine C_region (l := [0]) rfl ?_
  refine Y_assign ?_
  refine XD_end ?_
  refine K_then ?_
  iterate 2 refine C_seq ?_
  refine C_region (l := [0]) rfl ?_
  refine Y_assign ?_
  refine XD_end ?_
  refine K_then ?_
  refine C_block ?_
  refine Y_pk [3, 2, 0] ?_
  refine C_loopS (.succ .zero) (fun (k : Nat) z => z = [(3, .int .i64 (k : Int))] ∧ k ≤ l_l.length ∧ (∀ j (h2 : j < l_l.length), j < k → IsTb l_l[j].tb ∧ idxF (fun t : TableV => decide (t.self.addr = l_l[j].self.addr)) l_l = j)) (fun k => l_l.length - k) (0) (⟨rfl, by omega, by (intro j h2 hj; omega)⟩) ?_
  rintro k _ ⟨rfl, hk, hI⟩
  iterate 2 refine C_seq ?_
  refine C_region (l := [0, 1, 2, 3]) rfl ?_
  iterate 2 refine Y_move ?_
  refine Y_len_sl F.elem60 ?_
  refine Y_cmp ?_
  refine XD_end ?_
  refine K_then ?_
  refine C_cond rfl (fun hc1 => ?_) (fun hc1 => ?_)
  ·replace hc1 := dT hc1
   refine C_skip ?_
   refine K_then ?_
   refine C_seq ?_
   refine C_block ?_
   refine C_seq ?_
   refine C_region (l := [0, 1, 2, 3, 4, 5, 6, 7, 8, 9, 10, 11, 12, 13, 14, 15, 16, 17]) rfl ?_
   iterate 2 refine Y_move ?_
   refine X_indexAddr rfl rfl rfl rfl F.elem60 (by rfl) (by omega) (by exact SlM.plain (by assumption) (by (simp; omega))) rfl ?_
   refine X_load_el rfl rfl rfl (by assumption) (by exact row_map (by omega)) F.lay28 rfl rfl rfl ?_
   refine X_fs rfl rfl F.ok32 rfl (rIsT_ok _ l_l[k] (hl1 _ (show l_l[k] ∈ l_l from List.getElem_mem (by omega)))) rfl ?_
   rintro _ rfl
   refine Y_not ?_
   refine Y_move ?_
   refine XD_part 16 rfl (fun hc2 => ?_) (fun hc2 => ?_)
   ·replace hc2 := nT hc2
    iterate 10 refine Y_skip ?_
    refine Y_pick ?_
    refine XD_end ?_
    refine K_then ?_
    refine C_true rfl ?_
    refine C_seq ?_
    refine C_region (l := [0]) rfl ?_
    refine Y_assign ?_
    refine XD_end ?_
    refine K_then ?_
    refine C_ret ?_
    refine K_retB ?_
    iterate 2 refine K_ret ?_
    refine K_retB ?_
    refine K_ret ?_
    refine K_end (.inr rfl) (.tmp rfl .nil) (fun w hw => ?_)
    refine ⟨_, rfl, (hw.c), ?_⟩
    clear hw
    refine congrArg Value.bool ?_
    exact (decide_eq_false (right_no (l := l_l) (k := k) (by omega) (.inl (by assumption)))).symm
   ·replace hc2 := nF hc2
    iterate 3 refine Y_move ?_
    refine X_indexAddr rfl rfl rfl rfl F.elem60 (by rfl) (by omega) (by exact SlM.plain (by assumption) (by (simp; omega))) rfl ?_
    refine X_fieldAddr_el rfl rfl rfl (by exact SlM.plain (by assumption) (by (simp; omega))) F.foff28_0 rfl ?_
    refine X_fieldAddr_el rfl rfl rfl (by exact SlM.plain (by assumption) (by (simp; omega))) F.foff25_0 rfl ?_
    refine X_load_el rfl rfl rfl (by assumption) (by exact row_map (by omega)) F.lay3 rfl rfl rfl ?_
    refine X_fs rfl rfl F.ok90 rfl (find_ok _ ⟨l_a, l_c, l_l⟩ _ k_l hl1) rfl ?_
    rintro _ rfl
    refine Y_move ?_
    refine Y_cmp ?_
    refine Y_pick ?_
    refine XD_end ?_
    refine K_then ?_
    refine C_cond rfl (fun hc3 => ?_) (fun hc3 => ?_)
    ·replace hc3 := nT hc3
     simp only [PeerV.eta, TableV.eta, RouteV.eta] at hc3
     refine C_seq ?_
     refine C_region (l := [0]) rfl ?_
     refine Y_assign ?_
     refine XD_end ?_
     refine K_then ?_
     refine C_ret ?_
     refine K_retB ?_
     iterate 2 refine K_ret ?_
     refine K_retB ?_
     refine K_ret ?_
     refine K_end (.inr rfl) (.tmp rfl .nil) (fun w hw => ?_)
     refine ⟨_, rfl, (hw.c), ?_⟩
     clear hw
     refine congrArg Value.bool ?_
     exact (decide_eq_false (right_no (l := l_l) (k := k) (by omega) (.inr (by simp only at *; omega)))).symm
    ·replace hc3 := nF hc3
     simp only [PeerV.eta, TableV.eta, RouteV.eta] at hc3
     refine C_skip ?_
     refine K_out ?_
     refine K_then ?_
     refine C_region (l := [0, 1, 2]) rfl ?_
     refine Y_move ?_
     refine X_ari rfl rfl rfl rfl rfl (by exact wrap_in (by decide) (by omega)) rfl ?_
     refine Y_assign ?_
     refine XD_end ?_
     refine K_roundS (a' := [(3, _)]) (k + 1) (.cons (k := 3) rfl (.cons (k := 2) rfl (.cons (k := 0) rfl (.nil)))) (fun w hw => by first | exact hw | exact hw.c) ?_ ?_
     ·refine ⟨rfl, by omega, ?_⟩
      (intro j h2 hj; rcases Nat.lt_or_ge j k with h9 | h9; exact hI j h2 h9; obtain rfl : j = k := (by omega); exact ⟨by assumption, by simp only at *; omega⟩)
     ·omega
  ·replace hc1 := dF hc1
   refine C_exit ?_
   iterate 2 refine K_exit ?_
   refine K_hit ?_
   refine K_then ?_
   refine Y_pk [2, 0] ?_
   refine C_seq ?_
   refine C_region (l := [0, 1, 2, 3]) rfl ?_
   refine Y_move ?_
   refine Y_len_sl F.elem60 ?_
   refine Y_cmp ?_
   refine Y_assign ?_
   refine XD_end ?_
   refine K_then ?_
   refine Y_pk [2] ?_
   refine C_ret ?_
   refine K_end (.inr rfl) (.tmp rfl .nil) (fun w hw => ?_)
   refine ⟨_, rfl, (hw.c), ?_⟩
   clear hw
   refine congrArg Value.bool ?_
   exact decide_eq_decide.2 (right_yes (l := l_l) (fun j hj => hI j hj (by omega)))

end Go.Proofs.Ytbjklbmmchiahaa
/-
  Walks.
-/
set_option linter.unusedSimpArgs false
set_option linter.unusedVariables false
set_option linter.unnecessarySimpa false
set_option maxRecDepth 8000
set_option maxHeartbeats 1000000
namespace Go.Proofs.Ytbjklbmmchiahaa
open Go.Esp
theorem F.bld63 : Bld Try.prog 63 [[.one (.slice none 0 0)], [.one (.int .i64 0), idSeg 0]] := by rw [idSeg0]; exact ⟨by kernel_rfl, by kernel_rfl⟩
theorem F.foff63_0 : foff Try.prog 63 0 = some 0 := by kernel_rfl
theorem F.foff63_1 : foff Try.prog 63 1 = some 1 := by kernel_rfl
theorem F.lay41 : lay Try.prog 41 = some (false, 1) := by kernel_rfl
theorem F.lay63 : lay Try.prog 63 = some (true, 22) := by kernel_rfl
theorem F.ok27 : okFn Try.prog 27 = true := by kernel_rfl
theorem F.ok29 : okFn Try.prog 29 = true := by kernel_rfl
theorem F.ok88 : okFn Try.prog 88 = true := by kernel_rfl
theorem F.zero63 : zeroOf Try.prog 63 = some (aggV [.one (.slice none 0 0), .one (.int .i64 0), idSeg 0]) := by rw [idSeg0]; kernel_rfl

theorem index_yes (M : Mem) (l : Sl TableV) (hl0 : SlK M TableV.segs 44 l) (hl1 : ∀ y ∈ l.l, TableV.ok M y) (h : RightL (l.l.map TableV.tb)) : Fh Try.prog 88 [Sl.val l] M [] (fun M' v Hout => M' = M ∧ ∃ b o, v = .map (some b) ∧ Hout = [(b, o)] ∧ imO o (l.l.map fun t => (t.self.addr, t.enc))) := fun H w hw =>
  (index_ok M l hl0 hl1 H w hw).mono fun e w2 ⟨v, M2, Ho, g1, g2, g3, g4, g5⟩ => ⟨v, M2, Ho, g1, g2, g3, g4, (g5.resolve_right (fun g6 => g6.1 h)).2⟩

theorem index_no (M : Mem) (l : Sl TableV) (hl0 : SlK M TableV.segs 44 l) (hl1 : ∀ y ∈ l.l, TableV.ok M y) (h : ¬ RightL (l.l.map TableV.tb)) : Fh Try.prog 88 [Sl.val l] M [] (fun M' v Hout => M' = M ∧ v = .map none ∧ Hout = []) := fun H w hw =>
  (index_ok M l hl0 hl1 H w hw).mono fun e w2 ⟨v, M2, Ho, g1, g2, g3, g4, g5⟩ => ⟨v, M2, Ho, g1, g2, g3, g4, (g5.resolve_left (fun g6 => h g6.1)).2⟩

theorem Walk_wrong (M : Mem) (l : (Sl TableV)) (frm : Int) (id : Plc) (most : Int) (hl0 : SlK M TableV.segs 44 l) (hl1 : ∀ y ∈ (l).l, TableV.ok M y) (h : ¬ RightL (l.l.map TableV.tb)) : Esp.Fn Try.prog 48 [Sl.val l, .int .i64 frm, aggV [idSeg id], .int .i64 most] M (fun M' v => RouteE M' v (walkT (l.l.map TableV.tb) frm id most)) := by
  obtain ⟨l_a, l_c, l_l⟩ := l
  have k_l : SlK M TableV.segs 44 ⟨l_a, l_c, l_l⟩ := hl0
  have s_l : SlM M l_a (l_l.map TableV.segs) 44 := k_l.h1
  have n_l : (l_l.map TableV.segs).length = l_l.length := List.length_map ..
  have m_l : l_l.length ≤ 9223372036854775807 := k_l.h2
  have c_l : l_l.length ≤ l_c := k_l.h3
  refine fn_enter Try.func48 rfl Try.ntmps48 rfl ?_; intro H
  refine C_seq ?_
  refine C_region (l := [0, 1, 2]) rfl ?_
  refine Y_box ?_; intro b1
  refine Y_alloc F.zero63 ?_; intro b2
  refine Y_assign ?_
  refine XD_end ?_
  refine K_then ?_
  refine Y_pk [9, 8, 6, 0, 1, 3] ?_
  refine C_scope rfl ?_
  refine C_seq ?_
  refine C_region (l := [0, 1, 2]) rfl ?_
  refine Y_move ?_
  refine X_fhR rfl rfl F.ok88 rfl (index_no M ⟨l_a, l_c, l_l⟩ k_l hl1 h) (by repeat first | exact Rem.here _ | exact Rem.two | apply Rem.skip | apply Rem.over) (fun _ _ _ hm hw => (hw.lower (by exact hm)).c) (putE_some rfl) ?_
  rintro vm M1 hsm hm1 ⟨hM1, rfl, rfl⟩; subst M1
  refine Y_assign ?_
  refine XD_end ?_
  refine K_then ?_
  refine Y_pk [10, 9, 8, 6, 1, 3] ?_
  refine C_seq ?_
  refine C_region (l := [0, 1, 2, 3, 4, 5, 6, 7, 8]) rfl ?_
  iterate 2 refine Y_move ?_
  refine X_lookup2_nil rfl rfl rfl rfl F.map100 F.zero28 rfl ?_
  refine Y_move ?_
  iterate 2 refine Y_extract ?_
  refine Y_alloc F.zero28 ?_; intro b3
  refine Y_store F.lay28 ?_
  refine Y_assign ?_
  refine XD_end ?_
  refine K_then ?_
  refine Y_pk [12, 11, 10, 9, 8, 6, 1, 3] ?_
  iterate 2 refine C_seq ?_
  refine C_region (l := [0, 1, 2, 3, 4, 5, 6, 7, 8, 9]) rfl ?_
  refine Y_move ?_
  refine Y_not ?_
  refine Y_move ?_
  refine XD_part 28 rfl (fun hc4 => ?_) (fun hc4 => ?_)
  ·skip
   iterate 2 refine Y_skip ?_
   refine Y_pick ?_
   refine Y_move ?_
   iterate 2 refine Y_skip ?_
   refine Y_pick ?_
   refine XD_end ?_
   refine K_then ?_
   refine Y_pk [35, 12, 11, 10, 9, 8, 6, 1, 3] ?_
   refine C_true rfl ?_
   refine C_seq ?_
   refine C_region (l := [0, 1, 2]) rfl ?_
   refine X_build rfl rfl F.bld63 (.nil) rfl rfl ?_
   refine Y_store F.lay63 ?_
   refine Y_assign ?_
   refine XD_end ?_
   refine K_then ?_
   refine Y_pk [9, 12, 11, 10, 8, 6, 1, 3] ?_
   refine C_ret ?_
   refine K_ret ?_
   refine K_scopeR ?_
   refine K_end (.inr rfl) (.cell rfl (by repeat first | exact List.Mem.head _ | refine List.Mem.tail _ ?_ | refine List.mem_append_right _ ?_) F.lay63 rfl rfl (.tmp rfl .nil)) (fun w hw => ?_)
   refine ⟨_, M, rfl, Mem.le.refl M, hw.c, ?_⟩
   rw [show walkT (l_l.map TableV.tb) frm id most = (Rt.zero, 1) from walkT_wrong h]
   exact ⟨_, rfl, routeIs_zero⟩
  ·skip
   (exfalso; simp [eqX] at hc4; done)

theorem Walk_none (M : Mem) (l : (Sl TableV)) (frm : Int) (id : Plc) (most : Int) (hl0 : SlK M TableV.segs 44 l) (hl1 : ∀ y ∈ (l).l, TableV.ok M y) (hR : RightL (l.l.map TableV.tb)) (hf : findV l.l frm = none) : Esp.Fn Try.prog 48 [Sl.val l, .int .i64 frm, aggV [idSeg id], .int .i64 most] M (fun M' v => RouteE M' v (walkT (l.l.map TableV.tb) frm id most)) := by
  obtain ⟨l_a, l_c, l_l⟩ := l
  have k_l : SlK M TableV.segs 44 ⟨l_a, l_c, l_l⟩ := hl0
  have s_l : SlM M l_a (l_l.map TableV.segs) 44 := k_l.h1
  have n_l : (l_l.map TableV.segs).length = l_l.length := List.length_map ..
  have m_l : l_l.length ≤ 9223372036854775807 := k_l.h2
  have c_l : l_l.length ≤ l_c := k_l.h3
  simp only at hf
  refine fn_enter Try.func48 rfl Try.ntmps48 rfl ?_; intro H
  refine C_seq ?_
  refine C_region (l := [0, 1, 2]) rfl ?_
  refine Y_box ?_; intro b1
  refine Y_alloc F.zero63 ?_; intro b2
  refine Y_assign ?_
  refine XD_end ?_
  refine K_then ?_
  refine Y_pk [9, 8, 6, 0, 1, 3] ?_
  refine C_scope rfl ?_
  refine C_seq ?_
  refine C_region (l := [0, 1, 2]) rfl ?_
  refine Y_move ?_
  refine X_fhR rfl rfl F.ok88 rfl (index_yes M ⟨l_a, l_c, l_l⟩ k_l hl1 hR) (by repeat first | exact Rem.here _ | exact Rem.two | apply Rem.skip | apply Rem.over) (fun _ _ _ hm hw => (hw.lower (by exact hm)).c) (putE_some rfl) ?_
  rintro vm M1 hsm hm1 ⟨hM1, bm, om, rfl, rfl, him⟩; subst M1
  refine Y_assign ?_
  refine XD_end ?_
  refine K_then ?_
  refine Y_pk [10, 9, 8, 6, 1, 3] ?_
  refine C_seq ?_
  refine C_region (l := [0, 1, 2, 3, 4, 5, 6, 7, 8]) rfl ?_
  iterate 2 refine Y_move ?_
  refine X_lookup2 (v := (aggV [.one (.int .i64 0), idSeg 0, .one (.int .i64 0), idSeg 0, .one (.slice none 0 0), .one (.slice none 0 0)])) (c := false) rfl rfl rfl rfl F.map100 F.zero28 (by repeat first | exact List.Mem.head _ | refine List.Mem.tail _ ?_ | refine List.mem_append_right _ ?_) him ((congrArg (fun o => Option.getD o _) (imGet_map (l := l_l) (a := frm))).trans (by rw [hf]; rfl)) ((imGet_is (l := l_l) (a := frm)).trans (by rw [hf]; rfl)) rfl ?_
  refine Y_move ?_
  iterate 2 refine Y_extract ?_
  refine Y_alloc F.zero28 ?_; intro b3
  refine Y_store F.lay28 ?_
  refine Y_assign ?_
  refine XD_end ?_
  refine K_then ?_
  refine Y_pk [12, 11, 10, 9, 8, 6, 1, 3] ?_
  iterate 2 refine C_seq ?_
  refine C_region (l := [0, 1, 2, 3, 4, 5, 6, 7, 8, 9]) rfl ?_
  refine Y_move ?_
  refine Y_not ?_
  refine Y_move ?_
  refine XD_part 28 rfl (fun hc4 => ?_) (fun hc4 => ?_)
  ·skip
   iterate 2 refine Y_skip ?_
   refine Y_pick ?_
   refine Y_move ?_
   iterate 2 refine Y_skip ?_
   refine Y_pick ?_
   refine XD_end ?_
   refine K_then ?_
   refine Y_pk [35, 12, 11, 10, 9, 8, 6, 1, 3] ?_
   refine C_true rfl ?_
   refine C_seq ?_
   refine C_region (l := [0, 1, 2]) rfl ?_
   refine X_build rfl rfl F.bld63 (.nil) rfl rfl ?_
   refine Y_store F.lay63 ?_
   refine Y_assign ?_
   refine XD_end ?_
   refine K_then ?_
   refine Y_pk [9, 12, 11, 10, 8, 6, 1, 3] ?_
   refine C_ret ?_
   refine K_ret ?_
   refine K_scopeR ?_
   refine K_end (.inr rfl) (.cell rfl (by repeat first | exact List.Mem.head _ | refine List.Mem.tail _ ?_ | refine List.mem_append_right _ ?_) F.lay63 rfl rfl (.tmp rfl .nil)) (fun w hw => ?_)
   refine ⟨_, M, rfl, Mem.le.refl M, hw.c, ?_⟩
   rw [show walkT (l_l.map TableV.tb) frm id most = (Rt.zero, 1) from walkT_none (by rw [findT_map, hf]; rfl)]
   exact ⟨_, rfl, routeIs_zero⟩
  ·skip
   (exfalso; simp [eqX] at hc4; done)

theorem Walk_some (M : Mem) (l : (Sl TableV)) (frm : Int) (id : Plc) (most : Int) (hl0 : SlK M TableV.segs 44 l) (hl1 : ∀ y ∈ (l).l, TableV.ok M y) (t0 : TableV) (hR : RightL (l.l.map TableV.tb)) (hf : findV l.l frm = some t0) : Esp.Fn Try.prog 48 [Sl.val l, .int .i64 frm, aggV [idSeg id], .int .i64 most] M (fun M' v => RouteE M' v (walkT (l.l.map TableV.tb) frm id most)) := by
  obtain ⟨l_a, l_c, l_l⟩ := l
  have k_l : SlK M TableV.segs 44 ⟨l_a, l_c, l_l⟩ := hl0
  have s_l : SlM M l_a (l_l.map TableV.segs) 44 := k_l.h1
  have n_l : (l_l.map TableV.segs).length = l_l.length := List.length_map ..
  have m_l : l_l.length ≤ 9223372036854775807 := k_l.h2
  have c_l : l_l.length ≤ l_c := k_l.h3
  obtain ⟨⟨t0a, t0i⟩, ⟨t0q, t0j⟩, ⟨t0sa, t0sc, t0sl⟩, ⟨t0fa, t0fc, t0fl⟩⟩ := t0
  simp only at hf
  have ht0 : TableV.ok M (TableV.mk ⟨t0a, t0i⟩ ⟨t0q, t0j⟩ ⟨t0sa, t0sc, t0sl⟩ ⟨t0fa, t0fc, t0fl⟩) := hl1 _ (findV_mem hf).1
  have hTb0 : IsTb (TableV.tb (TableV.mk ⟨t0a, t0i⟩ ⟨t0q, t0j⟩ ⟨t0sa, t0sc, t0sl⟩ ⟨t0fa, t0fc, t0fl⟩)) := hR.2.1 _ (List.mem_map_of_mem (findV_mem hf).1)
  refine fn_enter Try.func48 rfl Try.ntmps48 rfl ?_; intro H
  refine C_seq ?_
  refine C_region (l := [0, 1, 2]) rfl ?_
  refine Y_box ?_; intro b1
  refine Y_alloc F.zero63 ?_; intro b2
  refine Y_assign ?_
  refine XD_end ?_
  refine K_then ?_
  refine Y_pk [9, 8, 6, 0, 1, 3] ?_
  refine C_scope rfl ?_
  refine C_seq ?_
  refine C_region (l := [0, 1, 2]) rfl ?_
  refine Y_move ?_
  refine X_fhR rfl rfl F.ok88 rfl (index_yes M ⟨l_a, l_c, l_l⟩ k_l hl1 hR) (by repeat first | exact Rem.here _ | exact Rem.two | apply Rem.skip | apply Rem.over) (fun _ _ _ hm hw => (hw.lower (by exact hm)).c) (putE_some rfl) ?_
  rintro vm M1 hsm hm1 ⟨hM1, bm, om, rfl, rfl, him⟩; subst M1
  refine Y_assign ?_
  refine XD_end ?_
  refine K_then ?_
  refine Y_pk [10, 9, 8, 6, 1, 3] ?_
  refine C_seq ?_
  refine C_region (l := [0, 1, 2, 3, 4, 5, 6, 7, 8]) rfl ?_
  iterate 2 refine Y_move ?_
  refine X_lookup2 (v := (aggV [.one (.int .i64 t0a), idSeg t0i, .one (.int .i64 t0q), idSeg t0j, .one (Sl.val ⟨t0sa, t0sc, t0sl⟩), .one (Sl.val ⟨t0fa, t0fc, t0fl⟩)])) (c := true) rfl rfl rfl rfl F.map100 F.zero28 (by repeat first | exact List.Mem.head _ | refine List.Mem.tail _ ?_ | refine List.mem_append_right _ ?_) him ((congrArg (fun o => Option.getD o _) (imGet_map (l := l_l) (a := frm))).trans (by rw [hf]; rfl)) ((imGet_is (l := l_l) (a := frm)).trans (by rw [hf]; rfl)) rfl ?_
  refine Y_move ?_
  iterate 2 refine Y_extract ?_
  refine Y_alloc F.zero28 ?_; intro b3
  refine Y_store F.lay28 ?_
  refine Y_assign ?_
  refine XD_end ?_
  refine K_then ?_
  refine Y_pk [12, 11, 10, 9, 8, 6, 1, 3] ?_
  iterate 2 refine C_seq ?_
  refine C_region (l := [0, 1, 2, 3, 4, 5, 6, 7, 8, 9]) rfl ?_
  refine Y_move ?_
  refine Y_not ?_
  refine Y_move ?_
  refine XD_part 28 rfl (fun hc4 => ?_) (fun hc4 => ?_)
  ·skip
   (exfalso; simp [eqX] at hc4; done)
  ·skip
   refine Y_move ?_
   refine Y_cmp ?_
   refine Y_pick ?_
   refine Y_move ?_
   refine XD_part 32 rfl (fun hc5 => ?_) (fun hc5 => ?_)
   ·replace hc5 := dT hc5
    iterate 2 refine Y_skip ?_
    refine Y_pick ?_
    refine XD_end ?_
    refine K_then ?_
    refine Y_pk [35, 12, 11, 10, 9, 8, 6, 1, 3] ?_
    refine C_true rfl ?_
    refine C_seq ?_
    refine C_region (l := [0, 1, 2]) rfl ?_
    refine X_build rfl rfl F.bld63 (.nil) rfl rfl ?_
    refine Y_store F.lay63 ?_
    refine Y_assign ?_
    refine XD_end ?_
    refine K_then ?_
    refine Y_pk [9, 12, 11, 10, 8, 6, 1, 3] ?_
    refine C_ret ?_
    refine K_ret ?_
    refine K_scopeR ?_
    refine K_end (.inr rfl) (.cell rfl (by repeat first | exact List.Mem.head _ | refine List.Mem.tail _ ?_ | refine List.mem_append_right _ ?_) F.lay63 rfl rfl (.tmp rfl .nil)) (fun w hw => ?_)
    refine ⟨_, M, rfl, Mem.le.refl M, hw.c, ?_⟩
    rw [show walkT (l_l.map TableV.tb) frm id most = (Rt.zero, 1) from walkT_far (by omega)]
    exact ⟨_, rfl, routeIs_zero⟩
   ·replace hc5 := dF hc5
    refine Y_move ?_
    refine Y_cmp ?_
    refine Y_pick ?_
    refine XD_end ?_
    refine K_then ?_
    refine Y_pk [35, 12, 11, 10, 9, 8, 6, 1, 3] ?_
    refine C_cond rfl (fun hc6 => ?_) (fun hc6 => ?_)
    ·replace hc6 := dT hc6
     refine C_seq ?_
     refine C_region (l := [0, 1, 2]) rfl ?_
     refine X_build rfl rfl F.bld63 (.nil) rfl rfl ?_
     refine Y_store F.lay63 ?_
     refine Y_assign ?_
     refine XD_end ?_
     refine K_then ?_
     refine Y_pk [9, 12, 11, 10, 8, 6, 1, 3] ?_
     refine C_ret ?_
     refine K_ret ?_
     refine K_scopeR ?_
     refine K_end (.inr rfl) (.cell rfl (by repeat first | exact List.Mem.head _ | refine List.Mem.tail _ ?_ | refine List.mem_append_right _ ?_) F.lay63 rfl rfl (.tmp rfl .nil)) (fun w hw => ?_)
     refine ⟨_, M, rfl, Mem.le.refl M, hw.c, ?_⟩
     rw [show walkT (l_l.map TableV.tb) frm id most = (Rt.zero, 1) from walkT_far (by omega)]
     exact ⟨_, rfl, routeIs_zero⟩
    ·replace hc6 := dF hc6
     refine C_skip ?_
     refine K_then ?_
     refine Y_pk [12, 11, 10, 9, 8, 6, 1, 3] ?_
     refine C_seq ?_
     refine C_region (l := [0, 1, 2, 3, 4]) rfl ?_
     obtain ⟨mn, rfl⟩ : ∃ mn : Nat, most = mn := ⟨most.toNat, by omega⟩
     refine Y_move ?_
     refine X_buildSliceF rfl rfl F.elem41 F.zero3 rfl rfl (.cons rfl (by constructor) .nil) rfl rfl (by simp only [List.map_cons, List.map_nil] <;> rfl) rfl ?_; intro b7 hob8
     refine X_build rfl rfl F.bld63 (.cons rfl (by constructor) .nil) rfl rfl ?_
     refine Y_alloc F.zero63 ?_; intro b9
     refine Y_store F.lay63 ?_
     refine XD_end ?_
     refine K_then ?_
     refine Y_pk [13, 12, 11, 10, 9, 8, 6, 3] ?_
     refine C_seq ?_
     refine C_label ?_
     refine K_then ?_
     refine C_seq ?_
     refine C_block ?_
     refine Y_pk [12, 13, 11, 10, 9, 8, 6, 3] ?_
     refine C_loopO (Hin := [(b9, rowO [.one (.slice (some ⟨b7, 0, none⟩) 1 1), .one (.int .i64 0), idSeg 0] 63), (b7, _), (b3, rowO [.one (.int .i64 t0a), idSeg t0i, .one (.int .i64 t0q), idSeg t0j, .one (Sl.val ⟨t0sa, t0sc, t0sl⟩), .one (Sl.val ⟨t0fa, t0fc, t0fl⟩)] 28)]) (.succ .zero) (by repeat first | exact Rem.here _ | exact Rem.two | apply Rem.skip | apply Rem.over) (fun (k : Nat) M1 h1 z => ∃ (t : TableV) (hops : List Int) (v : Value) (hs : Hp) (b0 : Bool), z = [(12, .bool b0)] ∧ h1 = (b9, rowO [.one v, .one (.int .i64 0), idSeg 0] 63) :: (hs ++ [(b3, rowO [.one (.int .i64 t.self.addr), idSeg t.self.id, .one (.int .i64 t.pred.addr), idSeg t.pred.id, .one t.succ.val, .one t.fingers.val] 28)]) ∧ TableV.ok M1 t ∧ IsTb t.tb ∧ hops.length = k + 1 ∧ k ≤ mn ∧ OSl 3 1 v hs (hops.map (oneI .i64)) ∧ walkGo (l_l.map TableV.tb) id mn (mn + 1) (TableV.tb (TableV.mk ⟨t0a, t0i⟩ ⟨t0q, t0j⟩ ⟨t0sa, t0sc, t0sl⟩ ⟨t0fa, t0fc, t0fl⟩)) [frm] = walkGo (l_l.map TableV.tb) id mn (mn + 1 - k) t.tb hops) (fun k => mn + 1 - k) (0) (⟨(TableV.mk ⟨t0a, t0i⟩ ⟨t0q, t0j⟩ ⟨t0sa, t0sc, t0sl⟩ ⟨t0fa, t0fc, t0fl⟩), [frm], _, _, _, rfl, rfl, ht0, hTb0, rfl, by omega, hob8, rfl⟩) ?_
     rintro k M1 h1 z hm1 ⟨⟨⟨ta, ti⟩, ⟨tq, tj⟩, ⟨tsa, tsc, tsl⟩, ⟨tfa, tfc, tfl⟩⟩, hops, v0, hs0, b0, rfl, rfl, hok, hTb, hhl, hk, ho, hI⟩
     obtain ⟨ad0, cp0, rfl⟩ := ho.valL
     have hml : (hops.map (oneI .i64)).length = hops.length := List.length_map ..
     have hbig := isTb_small (t := (TableV.mk ⟨ta, ti⟩ ⟨tq, tj⟩ ⟨tsa, tsc, tsl⟩ ⟨tfa, tfc, tfl⟩)) hTb
     rw [show mn + 1 - k = (mn - k) + 1 by omega] at hI
     simp only [List.cons_append, List.nil_append, List.append_assoc]
     refine C_block ?_
     refine C_seq ?_
     refine C_region (l := [0, 1, 2, 3, 4, 5, 6, 7, 8]) rfl ?_
     refine Y_load F.lay28 ?_
     refine Y_load F.lay23 ?_
     refine X_fs rfl rfl F.ok29 rfl (Done_ok _ (TableV.mk ⟨ta, ti⟩ ⟨tq, tj⟩ ⟨tsa, tsc, tsl⟩ ⟨tfa, tfc, tfl⟩) id hok) rfl ?_
     rintro _ hv
     obtain ⟨⟨⟨da, di⟩, db⟩, hdd⟩ : ∃ r, doneT (TableV.tb (TableV.mk ⟨ta, ti⟩ ⟨tq, tj⟩ ⟨tsa, tsc, tsl⟩ ⟨tfa, tfc, tfl⟩)) id = r := ⟨_, rfl⟩
     rw [hdd] at hv
     subst hv
     refine Y_move ?_
     iterate 2 refine Y_extract ?_
     refine Y_alloc F.zero25 ?_; intro b10
     refine Y_store F.lay25 ?_
     refine Y_assign ?_
     refine XD_end ?_
     refine K_then ?_
     iterate 2 refine C_seq ?_
     refine C_region (l := [0]) rfl ?_
     refine Y_move ?_
     refine XD_end ?_
     refine K_then ?_
     refine C_cond rfl (fun hc11 => ?_) (fun hc11 => ?_)
     ·skip
      simp only [PeerV.eta, TableV.eta, RouteV.eta] at hc11
      refine C_seq ?_
      have hdb : db = true := by assumption
      refine C_region (l := [0, 1, 2]) rfl ?_
      refine Y_load F.lay25 ?_
      refine Y_fieldAddr F.foff63_1 ?_
      refine Y_store F.lay25 ?_
      refine XD_end ?_
      refine K_then ?_
      refine C_exit ?_
      refine K_exit ?_
      refine K_miss (by decide) ?_
      refine K_exit ?_
      refine K_hit ?_
      refine K_then ?_
      refine Y_pk [13, 9, 8] ?_
      refine C_seq ?_
      refine C_region (l := [0, 1, 2]) rfl ?_
      refine Y_load F.lay63 ?_
      refine Y_store F.lay63 ?_
      refine Y_assign ?_
      refine XD_end ?_
      refine K_then ?_
      refine Y_pk [9, 8] ?_
      refine C_ret ?_
      refine K_scopeR ?_
      refine K_end (.inr rfl) (.cell rfl (by repeat first | exact List.Mem.head _ | refine List.Mem.tail _ ?_ | refine List.mem_append_right _ ?_) F.lay63 rfl rfl (.tmp rfl .nil)) (fun w hw => ?_)
      have hgo := walkT_go (id := id) (most := mn) hR (by omega) (show findT (l_l.map TableV.tb) frm = some (TableV.tb (TableV.mk ⟨t0a, t0i⟩ ⟨t0q, t0j⟩ ⟨t0sa, t0sc, t0sl⟩ ⟨t0fa, t0fc, t0fl⟩)) by rw [findT_map, hf]; rfl)
      rw [hI] at hgo
      obtain ⟨M9, s1, g1, g2, g3, g4, g5⟩ := OSl.freezeK (f := oneI .i64) (H := H) (l := hops) ho (hw.c)
      refine ⟨_, M9, rfl, hm1.trans g1, g2, ?_⟩
      rw [show walkT (l_l.map TableV.tb) frm id (mn : Int) = (⟨hops, ⟨da, di⟩⟩, 0) from hgo.trans (walkGo_done (by rw [hdd, hdb]))]
      exact ⟨_, rfl, routeIs_mk g3 g5 (by rw [g4])⟩
     ·skip
      simp only [PeerV.eta, TableV.eta, RouteV.eta] at hc11
      refine C_skip ?_
      refine K_then ?_
      refine C_seq ?_
      have hdb : db = false := by assumption
      refine C_region (l := [0, 1, 2, 3, 4, 5, 6, 7, 8]) rfl ?_
      refine Y_load F.lay28 ?_
      refine Y_load F.lay23 ?_
      refine X_fn rfl rfl F.ok27 rfl (Nearest_ok _ (TableV.mk ⟨ta, ti⟩ ⟨tq, tj⟩ ⟨tsa, tsc, tsl⟩ ⟨tfa, tfc, tfl⟩) id ⟨none, 0, []⟩ hok SlK.nil hbig) rfl ?_
      rintro _ M2 hm2 hv
      obtain ⟨⟨⟨na, ni⟩, nb⟩, hnn⟩ : ∃ r, nearestT (TableV.tb (TableV.mk ⟨ta, ti⟩ ⟨tq, tj⟩ ⟨tsa, tsc, tsl⟩ ⟨tfa, tfc, tfl⟩)) id [] = r := ⟨_, rfl⟩
      rw [hnn] at hv
      subst hv
      refine Y_move ?_
      iterate 2 refine Y_extract ?_
      refine Y_alloc F.zero25 ?_; intro b12
      refine Y_store F.lay25 ?_
      refine Y_assign ?_
      refine XD_end ?_
      refine K_then ?_
      refine C_seq ?_
      refine C_block ?_
      refine C_seq ?_
      refine C_region (l := [0, 1, 2]) rfl ?_
      refine Y_move ?_
      refine Y_not ?_
      refine Y_assign ?_
      refine XD_end ?_
      refine K_then ?_
      refine C_cond rfl (fun hc13 => ?_) (fun hc13 => ?_)
      ·skip
       simp only [PeerV.eta, TableV.eta, RouteV.eta] at hc13
       refine C_seq ?_
       have hnb : nb = false := by simp_all
       refine C_region (l := [0, 1, 2]) rfl ?_
       refine X_build rfl rfl F.bld63 (.nil) rfl rfl ?_
       refine Y_store F.lay63 ?_
       refine Y_assign ?_
       refine XD_end ?_
       refine K_then ?_
       refine C_ret ?_
       refine K_retB ?_
       refine K_ret ?_
       refine K_retB ?_
       refine K_ret ?_
       refine K_retB ?_
       refine K_ret ?_
       refine K_scopeR ?_
       refine K_end (.inr rfl) (.cell rfl (by repeat first | exact List.Mem.head _ | refine List.Mem.tail _ ?_ | refine List.mem_append_right _ ?_) F.lay63 rfl rfl (.tmp rfl .nil)) (fun w hw => ?_)
       have hgo := walkT_go (id := id) (most := mn) hR (by omega) (show findT (l_l.map TableV.tb) frm = some (TableV.tb (TableV.mk ⟨t0a, t0i⟩ ⟨t0q, t0j⟩ ⟨t0sa, t0sc, t0sl⟩ ⟨t0fa, t0fc, t0fl⟩)) by rw [findT_map, hf]; rfl)
       rw [hI] at hgo
       refine ⟨_, M2, rfl, hm1.trans hm2, hw.c, ?_⟩
       rw [show walkT (l_l.map TableV.tb) frm id (mn : Int) = (Rt.zero, 7) from hgo.trans (walkGo_none (q := ⟨na, ni⟩) (by rw [hdd, hdb]) (by rw [hnn, hnb]))]
       exact ⟨_, rfl, routeIs_zero⟩
      ·skip
       simp only [PeerV.eta, TableV.eta, RouteV.eta] at hc13
       refine C_seq ?_
       have hnb : nb = true := by simp_all
       refine C_region (l := [0, 1, 2, 3, 4, 5]) rfl ?_
       refine Y_fieldAddr F.foff63_0 ?_
       refine Y_load F.lay41 ?_
       refine Y_len_sl F.elem41 ?_
       refine Y_move ?_
       refine Y_cmp ?_
       refine Y_assign ?_
       refine XD_end ?_
       refine K_then ?_
       refine C_cond rfl (fun hc14 => ?_) (fun hc14 => ?_)
       ·replace hc14 := dT hc14
        refine C_seq ?_
        refine C_region (l := [0, 1, 2]) rfl ?_
        refine X_build rfl rfl F.bld63 (.nil) rfl rfl ?_
        refine Y_store F.lay63 ?_
        refine Y_assign ?_
        refine XD_end ?_
        refine K_then ?_
        refine C_ret ?_
        refine K_retB ?_
        refine K_ret ?_
        refine K_retB ?_
        refine K_ret ?_
        refine K_retB ?_
        refine K_ret ?_
        refine K_scopeR ?_
        refine K_end (.inr rfl) (.cell rfl (by repeat first | exact List.Mem.head _ | refine List.Mem.tail _ ?_ | refine List.mem_append_right _ ?_) F.lay63 rfl rfl (.tmp rfl .nil)) (fun w hw => ?_)
        have hgo := walkT_go (id := id) (most := mn) hR (by omega) (show findT (l_l.map TableV.tb) frm = some (TableV.tb (TableV.mk ⟨t0a, t0i⟩ ⟨t0q, t0j⟩ ⟨t0sa, t0sc, t0sl⟩ ⟨t0fa, t0fc, t0fl⟩)) by rw [findT_map, hf]; rfl)
        rw [hI] at hgo
        refine ⟨_, M2, rfl, hm1.trans hm2, hw.c, ?_⟩
        rw [show walkT (l_l.map TableV.tb) frm id (mn : Int) = (Rt.zero, 2) from hgo.trans (walkGo_limit (q := ⟨na, ni⟩) (by rw [hdd, hdb]) (by rw [hnn, hnb]) (by omega))]
        exact ⟨_, rfl, routeIs_zero⟩
       ·replace hc14 := dF hc14
        refine C_skip ?_
        refine K_out ?_
        refine K_then ?_
        iterate 2 refine C_seq ?_
        refine C_region (l := [0, 1, 2, 3, 4, 5, 6, 7, 8]) rfl ?_
        refine Y_move ?_
        refine Y_fieldAddr F.foff25_0 ?_
        refine Y_load F.lay3 ?_
        obtain ⟨⟨⟨ua, ui⟩, ⟨uq, uj⟩, ⟨usa, usc, usl⟩, ⟨ufa, ufc, ufl⟩⟩, hu⟩ : ∃ t, (findV l_l na).getD TableV.zero = t := ⟨_, rfl⟩
        refine X_lookup2 (v := (aggV [.one (.int .i64 ua), idSeg ui, .one (.int .i64 uq), idSeg uj, .one (Sl.val ⟨usa, usc, usl⟩), .one (Sl.val ⟨ufa, ufc, ufl⟩)])) (c := (findV l_l na).isSome) rfl rfl rfl rfl F.map100 F.zero28 (by repeat first | exact List.Mem.head _ | refine List.Mem.tail _ ?_ | refine List.mem_append_right _ ?_) him ((congrArg (fun o => Option.getD o _) (imGet_map (l := l_l) (a := na))).trans (by rw [show (Option.map TableV.enc (findV l_l na)).getD _ = ((findV l_l na).getD TableV.zero).enc from (by cases findV l_l na <;> rfl), hu]; rfl)) ((imGet_is (l := l_l) (a := na)).trans (by rfl)) rfl ?_
        refine Y_move ?_
        iterate 2 refine Y_extract ?_
        refine Y_store F.lay28 ?_
        refine Y_assign ?_
        refine XD_end ?_
        refine K_then ?_
        refine C_seq ?_
        refine C_region (l := [0, 1]) rfl ?_
        refine Y_move ?_
        refine Y_not ?_
        refine XD_end ?_
        refine K_then ?_
        refine C_cond rfl (fun hc15 => ?_) (fun hc15 => ?_)
        ·skip
         refine C_seq ?_
         have hfu : findV l_l na = none := by
          cases hq : findV l_l na with
          |none => rfl
          |some q => simp [hq] at *
         refine C_region (l := [0, 1, 2]) rfl ?_
         refine X_build rfl rfl F.bld63 (.nil) rfl rfl ?_
         refine Y_store F.lay63 ?_
         refine Y_assign ?_
         refine XD_end ?_
         refine K_then ?_
         refine C_ret ?_
         refine K_ret ?_
         refine K_retB ?_
         refine K_ret ?_
         refine K_retB ?_
         refine K_ret ?_
         refine K_scopeR ?_
         refine K_end (.inr rfl) (.cell rfl (by repeat first | exact List.Mem.head _ | refine List.Mem.tail _ ?_ | refine List.mem_append_right _ ?_) F.lay63 rfl rfl (.tmp rfl .nil)) (fun w hw => ?_)
         have hgo := walkT_go (id := id) (most := mn) hR (by omega) (show findT (l_l.map TableV.tb) frm = some (TableV.tb (TableV.mk ⟨t0a, t0i⟩ ⟨t0q, t0j⟩ ⟨t0sa, t0sc, t0sl⟩ ⟨t0fa, t0fc, t0fl⟩)) by rw [findT_map, hf]; rfl)
         rw [hI] at hgo
         refine ⟨_, M2, rfl, hm1.trans hm2, hw.c, ?_⟩
         rw [show walkT (l_l.map TableV.tb) frm id (mn : Int) = (Rt.zero, 5) from hgo.trans (walkGo_range (q := ⟨na, ni⟩) (by rw [hdd, hdb]) (by rw [hnn, hnb]) (by omega) (by rw [findT_map, hfu]; rfl))]
         exact ⟨_, rfl, routeIs_zero⟩
        ·skip
         refine C_skip ?_
         refine K_then ?_
         have hfu : findV l_l na = some (TableV.mk ⟨ua, ui⟩ ⟨uq, uj⟩ ⟨usa, usc, usl⟩ ⟨ufa, ufc, ufl⟩) := by
          cases hq : findV l_l na with
          |none => simp [hq] at *
          |some q => rw [hq] at hu; exact congrArg some hu
         obtain ⟨hm9, _⟩ := findV_mem hfu
         refine C_region (l := [0, 1, 2, 3, 4, 5, 6, 7]) rfl ?_
         refine Y_fieldAddr F.foff63_0 ?_
         refine Y_load F.lay41 ?_
         refine Y_fieldAddr F.foff25_0 ?_
         refine Y_load F.lay3 ?_
         refine X_buildSliceF rfl rfl F.elem41 F.zero3 rfl rfl (.cons rfl (by constructor) .nil) rfl rfl (by simp only [List.map_cons, List.map_nil] <;> rfl) rfl ?_; intro b16 hob17
         refine X_append (m := 1000000) rfl rfl rfl rfl rfl F.elem41 F.zero3 (by rfl) rfl (by assumption) (by repeat first | exact Rem.here _ | exact Rem.two | apply Rem.skip | apply Rem.over) (Src.own hob17.lens (by (refine rows_one1 ?_; (repeat (first | exact flat_nil | refine flat_id ?_ | (refine flat_one ?_ ?_; rfl))); done)) rfl (by repeat first | exact List.Mem.head _ | refine List.Mem.tail _ ?_ | refine List.mem_append_right _ ?_)) (by (simp; omega)) (by decide) rfl ?_; intro v20 hs19 ho18; obtain ⟨adv20, cpv20, rfl⟩ := ho18.valAt (n := hops.length + 1) (by (simp; done))
         refine Y_fieldAddr F.foff63_0 ?_
         refine Y_store F.lay41 ?_
         refine XD_end ?_
         refine K_out ?_
         refine K_roundO (a' := [(12, _)]) (k + 1) ((b9, rowO [.one (.slice adv20 (hops.length + 1) cpv20), .one (.int .i64 0), idSeg 0] 63) :: (hs19 ++ [(b3, rowO [.one (.int .i64 ua), idSeg ui, .one (.int .i64 uq), idSeg uj, .one (Sl.val ⟨usa, usc, usl⟩), .one (Sl.val ⟨ufa, ufc, ufl⟩)] 28)])) (.cons (k := 12) rfl (.cons (k := 13) rfl (.cons (k := 11) rfl (.cons (k := 10) rfl (.cons (k := 9) rfl (.cons (k := 8) rfl (.cons (k := 6) rfl (.cons (k := 3) rfl (.nil))))))))) (hm1.trans hm2) (fun w hw => by first | exact hw | exact hw.c) ?_ ?_
         ·refine ⟨(TableV.mk ⟨ua, ui⟩ ⟨uq, uj⟩ ⟨usa, usc, usl⟩ ⟨ufa, ufc, ufl⟩), hops ++ [na], _, _, _, rfl, rfl, (hl1 _ hm9).mono (hm1.trans hm2), hR.2.1 _ (List.mem_map_of_mem hm9), by simp; omega, by omega, by rw [List.map_append]; exact ho18, ?_⟩
          rw [hI, walkGo_step (p := ⟨da, di⟩) (q := ⟨na, ni⟩) (u := TableV.tb (TableV.mk ⟨ua, ui⟩ ⟨uq, uj⟩ ⟨usa, usc, usl⟩ ⟨ufa, ufc, ufl⟩)) (by rw [hdd, hdb]) (by rw [hnn, hnb]) (by omega) (by rw [findT_map, hfu]; rfl)]
          rw [show mn + 1 - (k + 1) = mn - k by omega]
         ·omega

theorem Walk_ok (M : Mem) (l : (Sl TableV)) (frm : Int) (id : Plc) (most : Int) (hl0 : SlK M TableV.segs 44 l) (hl1 : ∀ y ∈ (l).l, TableV.ok M y) : Esp.Fn Try.prog 48 [Sl.val l, .int .i64 frm, aggV [idSeg id], .int .i64 most] M (fun M' v => RouteE M' v (walkT (l.l.map TableV.tb) frm id most)) := by
  by_cases hR : RightL (l.l.map TableV.tb)
  ·cases hf : findV l.l frm with
   |none => exact Walk_none M l frm id most hl0 hl1 hR hf
   |some t => exact Walk_some M l frm id most hl0 hl1 t hR hf
  ·exact Walk_wrong M l frm id most hl0 hl1 hR

end Go.Proofs.Ytbjklbmmchiahaa
/-
  Walks, by the document.
-/
set_option linter.unusedSimpArgs false
set_option linter.unusedVariables false
set_option linter.unnecessarySimpa false
set_option maxRecDepth 8000
set_option maxHeartbeats 1000000
namespace Go.Proofs.Ytbjklbmmchiahaa
open Go.Esp
theorem F.ok28 : okFn Try.prog 28 = true := by kernel_rfl
theorem F.ok30 : okFn Try.prog 30 = true := by kernel_rfl
theorem F.ok89 : okFn Try.prog 89 = true := by kernel_rfl

theorem rWalk_ok (M : Mem) (l : (Sl TableV)) (frm : Int) (id : Plc) (most : Int) (hl0 : SlK M TableV.segs 44 l) (hl1 : ∀ y ∈ (l).l, TableV.ok M y) : Esp.Fn Try.prog 49 [Sl.val l, .int .i64 frm, aggV [idSeg id], .int .i64 most] M (fun M' v => RouteE M' v (walkT (l.l.map TableV.tb) frm id most)) := by
  obtain ⟨l_a, l_c, l_l⟩ := l
  have k_l : SlK M TableV.segs 44 ⟨l_a, l_c, l_l⟩ := hl0
  have s_l : SlM M l_a (l_l.map TableV.segs) 44 := k_l.h1
  have n_l : (l_l.map TableV.segs).length = l_l.length := List.length_map ..
  have m_l : l_l.length ≤ 9223372036854775807 := k_l.h2
  have c_l : l_l.length ≤ l_c := k_l.h3
  refine fn_enter Try.func49 rfl Try.ntmps49 rfl ?_; intro H
  refine C_seq ?_
  refine C_region (l := [0, 1, 2]) rfl ?_
  refine Y_box ?_; intro b1
  refine Y_alloc F.zero63 ?_; intro b2
  refine Y_assign ?_
  refine XD_end ?_
  refine K_then ?_
  refine Y_pk [9, 8, 6, 0, 1, 3] ?_
  iterate 2 refine C_seq ?_
  refine C_region (l := [0, 1, 2, 3, 4, 5, 6, 7, 8, 9, 10, 11, 12, 13, 14, 15, 16, 17, 18, 19, 20, 21]) rfl ?_
  refine Y_move ?_
  refine Y_len_sl F.elem60 ?_
  refine Y_cmp ?_
  refine Y_move ?_
  refine XD_part 19 rfl (fun hc3 => ?_) (fun hc3 => ?_)
  ·replace hc3 := dT hc3
   iterate 3 refine Y_skip ?_
   refine Y_pick ?_
   refine Y_move ?_
   iterate 4 refine Y_skip ?_
   refine Y_pick ?_
   refine Y_move ?_
   iterate 2 refine Y_skip ?_
   refine Y_pick ?_
   refine Y_move ?_
   iterate 2 refine Y_skip ?_
   refine Y_pick ?_
   refine XD_end ?_
   refine K_then ?_
   refine Y_pk [37, 9, 8, 6, 0, 1, 3] ?_
   refine C_true rfl ?_
   refine C_seq ?_
   refine C_region (l := [0, 1, 2]) rfl ?_
   refine X_build rfl rfl F.bld63 (.nil) rfl rfl ?_
   refine Y_store F.lay63 ?_
   refine Y_assign ?_
   refine XD_end ?_
   refine K_then ?_
   refine Y_pk [9, 8, 6, 0, 1, 3] ?_
   refine C_ret ?_
   refine K_ret ?_
   refine K_end (.inr rfl) (.cell rfl (by repeat first | exact List.Mem.head _ | refine List.Mem.tail _ ?_ | refine List.mem_append_right _ ?_) F.lay63 rfl rfl (.tmp rfl .nil)) (fun w hw => ?_)
   refine ⟨_, M, rfl, Mem.le.refl M, hw.c, ?_⟩
   rw [show walkT (l_l.map TableV.tb) frm id most = (Rt.zero, 1) from walkT_wrong (fun h9 => by have h8 := h9.1; rw [List.length_map] at h8; omega)]
   exact ⟨_, rfl, routeIs_zero⟩
  ·replace hc3 := dF hc3
   refine Y_move ?_
   refine X_fs rfl rfl F.ok89 rfl (right_ok M ⟨l_a, l_c, l_l⟩ k_l hl1) rfl ?_
   rintro _ rfl
   refine Y_not ?_
   refine Y_pick ?_
   refine Y_move ?_
   refine XD_part 24 rfl (fun hc4 => ?_) (fun hc4 => ?_)
   ·replace hc4 := nT hc4
    simp only [PeerV.eta, TableV.eta, RouteV.eta] at hc4
    iterate 4 refine Y_skip ?_
    refine Y_pick ?_
    refine Y_move ?_
    iterate 2 refine Y_skip ?_
    refine Y_pick ?_
    refine Y_move ?_
    iterate 2 refine Y_skip ?_
    refine Y_pick ?_
    refine XD_end ?_
    refine K_then ?_
    refine Y_pk [37, 9, 8, 6, 0, 1, 3] ?_
    refine C_true rfl ?_
    refine C_seq ?_
    refine C_region (l := [0, 1, 2]) rfl ?_
    refine X_build rfl rfl F.bld63 (.nil) rfl rfl ?_
    refine Y_store F.lay63 ?_
    refine Y_assign ?_
    refine XD_end ?_
    refine K_then ?_
    refine Y_pk [9, 8, 6, 0, 1, 3] ?_
    refine C_ret ?_
    refine K_ret ?_
    refine K_end (.inr rfl) (.cell rfl (by repeat first | exact List.Mem.head _ | refine List.Mem.tail _ ?_ | refine List.mem_append_right _ ?_) F.lay63 rfl rfl (.tmp rfl .nil)) (fun w hw => ?_)
    refine ⟨_, M, rfl, Mem.le.refl M, hw.c, ?_⟩
    rw [show walkT (l_l.map TableV.tb) frm id most = (Rt.zero, 1) from walkT_wrong (by assumption)]
    exact ⟨_, rfl, routeIs_zero⟩
   ·replace hc4 := nF hc4
    simp only [PeerV.eta, TableV.eta, RouteV.eta] at hc4
    iterate 2 refine Y_move ?_
    refine X_fs rfl rfl F.ok90 rfl (find_ok _ ⟨l_a, l_c, l_l⟩ _ (k_l.mono (by exact Mem.le.refl _)) (fun y hy => (hl1 y hy).mono (by exact Mem.le.refl _))) rfl ?_
    rintro _ rfl
    simp only
    refine Y_cmp ?_
    refine Y_pick ?_
    refine Y_move ?_
    refine XD_part 30 rfl (fun hc5 => ?_) (fun hc5 => ?_)
    ·replace hc5 := dT hc5
     iterate 2 refine Y_skip ?_
     refine Y_pick ?_
     refine Y_move ?_
     iterate 2 refine Y_skip ?_
     refine Y_pick ?_
     refine XD_end ?_
     refine K_then ?_
     refine Y_pk [37, 9, 8, 6, 0, 1, 3] ?_
     refine C_true rfl ?_
     refine C_seq ?_
     refine C_region (l := [0, 1, 2]) rfl ?_
     refine X_build rfl rfl F.bld63 (.nil) rfl rfl ?_
     refine Y_store F.lay63 ?_
     refine Y_assign ?_
     refine XD_end ?_
     refine K_then ?_
     refine Y_pk [9, 8, 6, 0, 1, 3] ?_
     refine C_ret ?_
     refine K_ret ?_
     refine K_end (.inr rfl) (.cell rfl (by repeat first | exact List.Mem.head _ | refine List.Mem.tail _ ?_ | refine List.mem_append_right _ ?_) F.lay63 rfl rfl (.tmp rfl .nil)) (fun w hw => ?_)
     refine ⟨_, M, rfl, Mem.le.refl M, hw.c, ?_⟩
     rw [show walkT (l_l.map TableV.tb) frm id most = (Rt.zero, 1) from walkT_none (by rw [findT_map, (findV_idx (l := l_l) (a := frm)).resolve_right (fun ⟨i9, h9, h8, _⟩ => by omega) |>.2]; rfl)]
     exact ⟨_, rfl, routeIs_zero⟩
    ·replace hc5 := dF hc5
     refine Y_move ?_
     refine Y_cmp ?_
     refine Y_pick ?_
     refine Y_move ?_
     refine XD_part 34 rfl (fun hc6 => ?_) (fun hc6 => ?_)
     ·replace hc6 := dT hc6
      iterate 2 refine Y_skip ?_
      refine Y_pick ?_
      refine XD_end ?_
      refine K_then ?_
      refine Y_pk [37, 9, 8, 6, 0, 1, 3] ?_
      refine C_true rfl ?_
      refine C_seq ?_
      refine C_region (l := [0, 1, 2]) rfl ?_
      refine X_build rfl rfl F.bld63 (.nil) rfl rfl ?_
      refine Y_store F.lay63 ?_
      refine Y_assign ?_
      refine XD_end ?_
      refine K_then ?_
      refine Y_pk [9, 8, 6, 0, 1, 3] ?_
      refine C_ret ?_
      refine K_ret ?_
      refine K_end (.inr rfl) (.cell rfl (by repeat first | exact List.Mem.head _ | refine List.Mem.tail _ ?_ | refine List.mem_append_right _ ?_) F.lay63 rfl rfl (.tmp rfl .nil)) (fun w hw => ?_)
      refine ⟨_, M, rfl, Mem.le.refl M, hw.c, ?_⟩
      rw [show walkT (l_l.map TableV.tb) frm id most = (Rt.zero, 1) from walkT_far (by omega)]
      exact ⟨_, rfl, routeIs_zero⟩
     ·replace hc6 := dF hc6
      refine Y_move ?_
      refine Y_cmp ?_
      refine Y_pick ?_
      refine XD_end ?_
      refine K_then ?_
      refine Y_pk [37, 9, 8, 6, 0, 1, 3] ?_
      refine C_cond rfl (fun hc7 => ?_) (fun hc7 => ?_)
      ·replace hc7 := dT hc7
       refine C_seq ?_
       refine C_region (l := [0, 1, 2]) rfl ?_
       refine X_build rfl rfl F.bld63 (.nil) rfl rfl ?_
       refine Y_store F.lay63 ?_
       refine Y_assign ?_
       refine XD_end ?_
       refine K_then ?_
       refine Y_pk [9, 8, 6, 0, 1, 3] ?_
       refine C_ret ?_
       refine K_ret ?_
       refine K_end (.inr rfl) (.cell rfl (by repeat first | exact List.Mem.head _ | refine List.Mem.tail _ ?_ | refine List.mem_append_right _ ?_) F.lay63 rfl rfl (.tmp rfl .nil)) (fun w hw => ?_)
       refine ⟨_, M, rfl, Mem.le.refl M, hw.c, ?_⟩
       rw [show walkT (l_l.map TableV.tb) frm id most = (Rt.zero, 1) from walkT_far (by omega)]
       exact ⟨_, rfl, routeIs_zero⟩
      ·replace hc7 := dF hc7
       refine C_skip ?_
       refine K_then ?_
       refine Y_pk [9, 8, 6, 0, 1, 3] ?_
       refine C_seq ?_
       have hR : RightL (l_l.map TableV.tb) := by assumption
       obtain ⟨mn, rfl⟩ : ∃ mn : Nat, most = mn := ⟨most.toNat, by omega⟩
       obtain ⟨i0, hi0, hx0, hf0⟩ := (findV_idx (l := l_l) (a := frm)).resolve_left (fun h9 => by omega)
       refine C_region (l := [0, 1, 2, 3]) rfl ?_
       iterate 2 refine Y_move ?_
       refine X_fs rfl rfl F.ok90 rfl (find_ok _ ⟨l_a, l_c, l_l⟩ _ (k_l.mono (by exact Mem.le.refl _)) (fun y hy => (hl1 y hy).mono (by exact Mem.le.refl _))) rfl ?_
       rintro _ rfl
       simp only
       refine Y_assign ?_
       refine XD_end ?_
       refine K_then ?_
       refine Y_pk [10, 9, 8, 6, 0, 1, 3] ?_
       refine C_seq ?_
       refine C_region (l := [0, 1, 2]) rfl ?_
       rw [hx0]
       refine Y_move ?_
       refine X_buildSliceF rfl rfl F.elem41 F.zero3 rfl rfl (.cons rfl (by constructor) .nil) rfl rfl (by simp only [List.map_cons, List.map_nil] <;> rfl) rfl ?_; intro b8 hob9
       refine Y_assign ?_
       refine XD_end ?_
       refine K_then ?_
       refine Y_pk [11, 10, 9, 8, 6, 0, 3] ?_
       refine C_block ?_
       refine Y_pk [10, 11, 9, 8, 6, 0, 3] ?_
       refine C_loopO (Hin := [(b8, _)]) (.succ (.succ .zero)) (by repeat first | exact Rem.here _ | exact Rem.two | apply Rem.skip | apply Rem.over) (fun (k : Nat) M1 h1 z => ∃ (i : Nat) (hi : i < l_l.length) (hops : List Int) (v : Value), z = [(10, .int .i64 (i : Int)), (11, v)] ∧ hops.length = k + 1 ∧ k ≤ mn ∧ OSl 3 1 v h1 (hops.map (oneI .i64)) ∧ walkGo (l_l.map TableV.tb) id mn (mn + 1) (TableV.tb l_l[i0]) [frm] = walkGo (l_l.map TableV.tb) id mn (mn + 1 - k) (TableV.tb l_l[i]) hops) (fun k => mn + 1 - k) (0) (⟨i0, hi0, [frm], _, rfl, rfl, by omega, hob9, rfl⟩) ?_
       rintro k M1 h1 z hm1 ⟨i, hi, hops, v0, rfl, hhl, hk, ho, hI⟩
       obtain ⟨ad0, cp0, rfl⟩ := ho.valL
       have hml : (hops.map (oneI .i64)).length = hops.length := List.length_map ..
       obtain ⟨t, ht⟩ : ∃ t, l_l[i] = t := ⟨_, rfl⟩
       have hm9 : l_l[i] ∈ l_l := List.getElem_mem hi
       have hTb : IsTb (TableV.tb l_l[i]) := hR.2.1 _ (List.mem_map_of_mem hm9)
       have hok : TableV.ok M1 l_l[i] := (hl1 _ hm9).mono hm1
       have hbig := isTb_small hTb
       rw [show mn + 1 - k = (mn - k) + 1 by omega] at hI
       have s_l1 := s_l.mono hm1
       refine C_block ?_
       refine C_seq ?_
       refine C_region_any (l := [0, 1, 2, 3, 4, 5, 6, 7, 8, 9, 10, 11]) #[0, 0, 3, 7, 0, 31, 63, 127, 127, 0, 767, 2047] _ rfl (by kernel_rfl) (by kernel_rfl) St.drawn (fun _ h => h) ?_
       iterate 2 refine Y_move ?_
       refine X_indexAddr rfl rfl rfl rfl F.elem60 (by rfl) (by omega) (by exact SlM.plain (by assumption) (by (simp; omega))) rfl ?_
       refine X_load_el rfl rfl rfl (by assumption) (by exact row_map (by omega)) F.lay28 rfl rfl rfl ?_
       refine Y_load F.lay23 ?_
       refine X_fs rfl rfl F.ok30 rfl (rDone_ok _ l_l[i] id hok) rfl ?_
       rintro _ hv
       obtain ⟨⟨⟨da, di⟩, db⟩, hdd⟩ : ∃ r, doneT (TableV.tb l_l[i]) id = r := ⟨_, rfl⟩
       rw [hdd] at hv
       subst hv
       refine Y_move ?_
       iterate 2 refine Y_extract ?_
       refine Y_alloc F.zero25 ?_; intro b10
       refine Y_store F.lay25 ?_
       refine Y_assign ?_
       refine XD_end ?_
       refine K_then ?_
       iterate 2 refine C_seq ?_
       refine C_region (l := [0]) rfl ?_
       refine Y_move ?_
       refine XD_end ?_
       refine K_then ?_
       refine C_cond rfl (fun hc11 => ?_) (fun hc11 => ?_)
       ·skip
        simp only [PeerV.eta, TableV.eta, RouteV.eta] at hc11
        refine C_seq ?_
        have hdb : db = true := by assumption
        refine C_region (l := [0, 1, 2, 3, 4]) rfl ?_
        refine Y_move ?_
        refine Y_load F.lay25 ?_
        refine X_build rfl rfl F.bld63 (.cons rfl (by constructor) (.cons rfl (by constructor) .nil)) rfl rfl ?_
        refine Y_store F.lay63 ?_
        refine Y_assign ?_
        refine XD_end ?_
        refine K_then ?_
        refine C_ret ?_
        refine K_ret ?_
        refine K_retB ?_
        refine K_ret ?_
        refine K_retB ?_
        refine K_end (.inr rfl) (.cell rfl (by repeat first | exact List.Mem.head _ | refine List.Mem.tail _ ?_ | refine List.mem_append_right _ ?_) F.lay63 rfl rfl (.tmp rfl .nil)) (fun w hw => ?_)
        have hgo := walkT_go (id := id) (most := mn) hR (by omega) (show findT (l_l.map TableV.tb) frm = some (TableV.tb l_l[i0]) by rw [findT_map, hf0]; rfl)
        rw [hI] at hgo
        obtain ⟨M9, s1, g1, g2, g3, g4, g5⟩ := OSl.freezeK (f := oneI .i64) (H := H) (l := hops) ho (hw.c)
        refine ⟨_, M9, rfl, hm1.trans g1, g2, ?_⟩
        rw [show walkT (l_l.map TableV.tb) frm id (mn : Int) = (⟨hops, ⟨da, di⟩⟩, 0) from hgo.trans (walkGo_done (by rw [hdd, hdb]))]
        exact ⟨_, rfl, routeIs_mk g3 g5 (by rw [g4])⟩
       ·skip
        simp only [PeerV.eta, TableV.eta, RouteV.eta] at hc11
        refine C_skip ?_
        refine K_then ?_
        refine C_seq ?_
        have hdb : db = false := by assumption
        refine C_region_any (l := [0, 1, 2, 3, 4, 5, 6, 7, 8, 9, 10, 11]) #[0, 0, 3, 7, 0, 31, 63, 127, 127, 0, 767, 2047] _ rfl (by kernel_rfl) (by kernel_rfl) St.drawn (fun _ h => h) ?_
        iterate 2 refine Y_move ?_
        refine X_indexAddr rfl rfl rfl rfl F.elem60 (by rfl) (by omega) (by exact SlM.plain (by assumption) (by (simp; omega))) rfl ?_
        refine X_load_el rfl rfl rfl (by assumption) (by exact row_map (by omega)) F.lay28 rfl rfl rfl ?_
        refine Y_load F.lay23 ?_
        refine X_fn rfl rfl F.ok28 rfl (rNearest_ok _ l_l[i] id ⟨none, 0, []⟩ hok SlK.nil hbig) rfl ?_
        rintro _ M2 hm2 hv
        obtain ⟨⟨⟨na, ni⟩, nb⟩, hnn⟩ : ∃ r, nearestT (TableV.tb l_l[i]) id [] = r := ⟨_, rfl⟩
        rw [hnn] at hv
        subst hv
        refine Y_move ?_
        iterate 2 refine Y_extract ?_
        refine Y_alloc F.zero25 ?_; intro b12
        refine Y_store F.lay25 ?_
        refine Y_assign ?_
        refine XD_end ?_
        refine K_then ?_
        iterate 2 refine C_seq ?_
        refine C_region (l := [0, 1]) rfl ?_
        refine Y_move ?_
        refine Y_not ?_
        refine XD_end ?_
        refine K_then ?_
        refine C_cond rfl (fun hc13 => ?_) (fun hc13 => ?_)
        ·skip
         simp only [PeerV.eta, TableV.eta, RouteV.eta] at hc13
         refine C_seq ?_
         have hnb : nb = false := by simp_all
         refine C_region (l := [0, 1, 2]) rfl ?_
         refine X_build rfl rfl F.bld63 (.nil) rfl rfl ?_
         refine Y_store F.lay63 ?_
         refine Y_assign ?_
         refine XD_end ?_
         refine K_then ?_
         refine C_ret ?_
         refine K_ret ?_
         refine K_retB ?_
         refine K_ret ?_
         refine K_retB ?_
         refine K_end (.inr rfl) (.cell rfl (by repeat first | exact List.Mem.head _ | refine List.Mem.tail _ ?_ | refine List.mem_append_right _ ?_) F.lay63 rfl rfl (.tmp rfl .nil)) (fun w hw => ?_)
         have hgo := walkT_go (id := id) (most := mn) hR (by omega) (show findT (l_l.map TableV.tb) frm = some (TableV.tb l_l[i0]) by rw [findT_map, hf0]; rfl)
         rw [hI] at hgo
         refine ⟨_, M2, rfl, hm1.trans hm2, hw.c, ?_⟩
         rw [show walkT (l_l.map TableV.tb) frm id (mn : Int) = (Rt.zero, 7) from hgo.trans (walkGo_none (q := ⟨na, ni⟩) (by rw [hdd, hdb]) (by rw [hnn, hnb]))]
         exact ⟨_, rfl, routeIs_zero⟩
        ·skip
         simp only [PeerV.eta, TableV.eta, RouteV.eta] at hc13
         refine C_skip ?_
         refine K_then ?_
         iterate 2 refine C_seq ?_
         have hnb : nb = true := by simp_all
         refine C_region (l := [0, 1, 2, 3]) rfl ?_
         refine Y_move ?_
         refine Y_len_sl F.elem41 ?_
         refine Y_move ?_
         refine Y_cmp ?_
         refine XD_end ?_
         refine K_then ?_
         refine C_cond rfl (fun hc14 => ?_) (fun hc14 => ?_)
         ·replace hc14 := dT hc14
          refine C_seq ?_
          refine C_region (l := [0, 1, 2]) rfl ?_
          refine X_build rfl rfl F.bld63 (.nil) rfl rfl ?_
          refine Y_store F.lay63 ?_
          refine Y_assign ?_
          refine XD_end ?_
          refine K_then ?_
          refine C_ret ?_
          refine K_ret ?_
          refine K_retB ?_
          refine K_ret ?_
          refine K_retB ?_
          refine K_end (.inr rfl) (.cell rfl (by repeat first | exact List.Mem.head _ | refine List.Mem.tail _ ?_ | refine List.mem_append_right _ ?_) F.lay63 rfl rfl (.tmp rfl .nil)) (fun w hw => ?_)
          have hgo := walkT_go (id := id) (most := mn) hR (by omega) (show findT (l_l.map TableV.tb) frm = some (TableV.tb l_l[i0]) by rw [findT_map, hf0]; rfl)
          rw [hI] at hgo
          refine ⟨_, M2, rfl, hm1.trans hm2, hw.c, ?_⟩
          rw [show walkT (l_l.map TableV.tb) frm id (mn : Int) = (Rt.zero, 2) from hgo.trans (walkGo_limit (q := ⟨na, ni⟩) (by rw [hdd, hdb]) (by rw [hnn, hnb]) (by omega))]
          exact ⟨_, rfl, routeIs_zero⟩
         ·replace hc14 := dF hc14
          refine C_skip ?_
          refine K_then ?_
          refine C_seq ?_
          refine C_region (l := [0, 1, 2, 3, 4]) rfl ?_
          refine Y_move ?_
          refine Y_fieldAddr F.foff25_0 ?_
          refine Y_load F.lay3 ?_
          refine X_fs rfl rfl F.ok90 rfl (find_ok _ ⟨l_a, l_c, l_l⟩ _ (k_l.mono (by (repeat first | assumption | refine Mem.le.trans (by assumption) ?_))) (fun y hy => (hl1 y hy).mono (by (repeat first | assumption | refine Mem.le.trans (by assumption) ?_)))) rfl ?_
          rintro _ rfl
          simp only
          refine Y_assign ?_
          refine XD_end ?_
          refine K_then ?_
          iterate 2 refine C_seq ?_
          refine C_region (l := [0, 1]) rfl ?_
          refine Y_move ?_
          refine Y_cmp ?_
          refine XD_end ?_
          refine K_then ?_
          refine C_cond rfl (fun hc15 => ?_) (fun hc15 => ?_)
          ·replace hc15 := dT hc15
           refine C_seq ?_
           have hfn : findV l_l na = none := ((findV_idx (l := l_l) (a := na)).resolve_right (fun ⟨i9, h9, h8, _⟩ => by omega)).2
           refine C_region (l := [0, 1, 2]) rfl ?_
           refine X_build rfl rfl F.bld63 (.nil) rfl rfl ?_
           refine Y_store F.lay63 ?_
           refine Y_assign ?_
           refine XD_end ?_
           refine K_then ?_
           refine C_ret ?_
           refine K_ret ?_
           refine K_retB ?_
           refine K_ret ?_
           refine K_retB ?_
           refine K_end (.inr rfl) (.cell rfl (by repeat first | exact List.Mem.head _ | refine List.Mem.tail _ ?_ | refine List.mem_append_right _ ?_) F.lay63 rfl rfl (.tmp rfl .nil)) (fun w hw => ?_)
           have hgo := walkT_go (id := id) (most := mn) hR (by omega) (show findT (l_l.map TableV.tb) frm = some (TableV.tb l_l[i0]) by rw [findT_map, hf0]; rfl)
           rw [hI] at hgo
           refine ⟨_, M2, rfl, hm1.trans hm2, hw.c, ?_⟩
           rw [show walkT (l_l.map TableV.tb) frm id (mn : Int) = (Rt.zero, 5) from hgo.trans (walkGo_range (q := ⟨na, ni⟩) (by rw [hdd, hdb]) (by rw [hnn, hnb]) (by omega) (by rw [findT_map, hfn]; rfl))]
           exact ⟨_, rfl, routeIs_zero⟩
          ·replace hc15 := dF hc15
           refine C_skip ?_
           refine K_then ?_
           obtain ⟨i2, hi2, hx2, hfu⟩ := (findV_idx (l := l_l) (a := na)).resolve_left (fun h9 => by omega)
           rw [hx2]
           refine C_region (l := [0, 1, 2, 3, 4, 5]) rfl ?_
           refine Y_move ?_
           refine Y_fieldAddr F.foff25_0 ?_
           refine Y_load F.lay3 ?_
           refine X_buildSliceF rfl rfl F.elem41 F.zero3 rfl rfl (.cons rfl (by constructor) .nil) rfl rfl (by simp only [List.map_cons, List.map_nil] <;> rfl) rfl ?_; intro b16 hob17
           refine X_append (m := 1000000) rfl rfl rfl rfl rfl F.elem41 F.zero3 (by rfl) rfl (by assumption) (by repeat first | exact Rem.here _ | exact Rem.two | apply Rem.skip | apply Rem.over) (Src.own hob17.lens (by (refine rows_one1 ?_; (repeat (first | exact flat_nil | refine flat_id ?_ | (refine flat_one ?_ ?_; rfl))); done)) rfl (by repeat first | exact List.Mem.head _ | refine List.Mem.tail _ ?_ | refine List.mem_append_right _ ?_)) (by (simp; omega)) (by decide) rfl ?_; intro v20 hs19 ho18; obtain ⟨adv20, cpv20, rfl⟩ := ho18.valAt (n := hops.length + 1) (by (simp; done))
           refine Y_assign ?_
           refine XD_end ?_
           refine K_out ?_
           refine K_roundO (a' := [(10, _), (11, _)]) (k + 1) (hs19) (.cons (k := 10) rfl (.cons (k := 11) rfl (.cons (k := 9) rfl (.cons (k := 8) rfl (.cons (k := 6) rfl (.cons (k := 0) rfl (.cons (k := 3) rfl (.nil)))))))) (hm1.trans hm2) (fun w hw => by first | exact hw | exact hw.c) ?_ ?_
           ·refine ⟨i2, hi2, hops ++ [na], _, rfl, by simp; omega, by omega, by rw [List.map_append]; exact ho18, ?_⟩
            rw [hI, walkGo_step (p := ⟨da, di⟩) (q := ⟨na, ni⟩) (u := TableV.tb l_l[i2]) (by rw [hdd, hdb]) (by rw [hnn, hnb]) (by omega) (by rw [findT_map, hfu]; rfl)]
            rw [show mn + 1 - (k + 1) = mn - k by omega]
           ·omega

end Go.Proofs.Ytbjklbmmchiahaa
/-
  The same rows.
-/
set_option linter.unusedSimpArgs false
set_option linter.unusedVariables false
set_option linter.unnecessarySimpa false
set_option maxRecDepth 8000
set_option maxHeartbeats 1000000
namespace Go.Proofs.Ytbjklbmmchiahaa
open Go.Esp
theorem F.ok15 : okFn Try.prog 15 = true := by kernel_rfl
theorem F.ok24 : okFn Try.prog 24 = true := by kernel_rfl
theorem F.ok91 : okFn Try.prog 91 = true := by kernel_rfl

theorem Ints_ok (M : Mem) (a : (Sl Int)) (b : (Sl Int)) (ha0 : SlK M (oneI .i64) 1 a) (hb1 : SlK M (oneI .i64) 1 b) : Fs Try.prog 91 [Sl.val a, Sl.val b] M (fun v => v = Value.bool (decide (a.l = b.l))) := by
  obtain ⟨a_a, a_c, a_l⟩ := a
  obtain ⟨b_a, b_c, b_l⟩ := b
  have k_a : SlK M (oneI .i64) 1 ⟨a_a, a_c, a_l⟩ := ha0
  have s_a : SlM M a_a (a_l.map (oneI .i64)) 1 := k_a.h1
  have n_a : (a_l.map (oneI .i64)).length = a_l.length := List.length_map ..
  have m_a : a_l.length ≤ 9223372036854775807 := k_a.h2
  have c_a : a_l.length ≤ a_c := k_a.h3
  have k_b : SlK M (oneI .i64) 1 ⟨b_a, b_c, b_l⟩ := hb1
  have s_b : SlM M b_a (b_l.map (oneI .i64)) 1 := k_b.h1
  have n_b : (b_l.map (oneI .i64)).length = b_l.length := List.length_map ..
  have m_b : b_l.length ≤ 9223372036854775807 := k_b.h2
  have c_b : b_l.length ≤ b_c := k_b.h3
  refine fs_enter Try.func91 rfl Try.ntmps91 rfl ?_; intro H
  refine C_seq ?_
  refine C_region (l := [0]) rfl ?_
  refine Y_assign ?_
  refine XD_end ?_
  refine K_then ?_
  iterate 2 refine C_seq ?_
  refine C_region (l := [0, 1, 2, 3, 4]) rfl ?_
  refine Y_move ?_
  refine Y_len_sl F.elem41 ?_
  refine Y_move ?_
  refine Y_len_sl F.elem41 ?_
  refine Y_cmp ?_
  refine XD_end ?_
  refine K_then ?_
  refine Y_pk [10, 4, 0, 1] ?_
  refine C_cond rfl (fun hc1 => ?_) (fun hc1 => ?_)
  ·replace hc1 := nT hc1
   refine C_seq ?_
   refine C_region (l := [0]) rfl ?_
   refine Y_assign ?_
   refine XD_end ?_
   refine K_then ?_
   refine Y_pk [4, 0, 1] ?_
   refine C_ret ?_
   refine K_ret ?_
   refine K_end (.inr rfl) (.tmp rfl .nil) (fun w hw => ?_)
   refine ⟨_, rfl, (hw.c), ?_⟩
   clear hw
   refine congrArg Value.bool ?_
   exact (decide_eq_false (fun h9 => by subst h9; simp_all)).symm
  ·replace hc1 := nF hc1
   refine C_skip ?_
   refine K_then ?_
   refine Y_pk [4, 0, 1] ?_
   iterate 2 refine C_seq ?_
   refine C_region (l := [0]) rfl ?_
   refine Y_assign ?_
   refine XD_end ?_
   refine K_then ?_
   refine C_block ?_
   refine Y_pk [5, 4, 0, 1] ?_
   refine C_loopS (.succ .zero) (fun (k : Nat) z => z = [(5, .int .i64 (k : Int))] ∧ k ≤ a_l.length ∧ (∀ j (h2 : j < a_l.length) (h3 : j < b_l.length), j < k → a_l[j] = b_l[j])) (fun k => a_l.length - k) (0) (⟨rfl, by omega, by (intro j h2 h3 hj; omega)⟩) ?_
   rintro k _ ⟨rfl, hk, hI⟩
   iterate 2 refine C_seq ?_
   refine C_region (l := [0, 1, 2, 3]) rfl ?_
   iterate 2 refine Y_move ?_
   refine Y_len_sl F.elem41 ?_
   refine Y_cmp ?_
   refine XD_end ?_
   refine K_then ?_
   refine C_cond rfl (fun hc2 => ?_) (fun hc2 => ?_)
   ·replace hc2 := dT hc2
    refine C_skip ?_
    refine K_then ?_
    refine C_seq ?_
    refine C_block ?_
    refine C_seq ?_
    refine C_region_any (l := [0, 1, 2, 3, 4, 5, 6, 7, 8]) #[0, 0, 3, 7, 0, 0, 48, 112, 255] _ rfl (by kernel_rfl) (by kernel_rfl) St.drawn (fun _ h => h) ?_
    iterate 2 refine Y_move ?_
    refine X_indexAddr rfl rfl rfl rfl F.elem41 (by rfl) (by omega) (by exact SlM.plain (by assumption) (by (simp; omega))) rfl ?_
    refine X_load_el rfl rfl rfl (by assumption) (by exact row_map (by omega)) F.lay3 rfl rfl rfl ?_
    iterate 2 refine Y_move ?_
    refine X_indexAddr rfl rfl rfl rfl F.elem41 (by rfl) (by omega) (by exact SlM.plain (by assumption) (by (simp; omega))) rfl ?_
    refine X_load_el rfl rfl rfl (by assumption) (by exact row_map (by omega)) F.lay3 rfl rfl rfl ?_
    refine Y_cmp ?_
    refine XD_end ?_
    refine K_then ?_
    refine C_cond rfl (fun hc3 => ?_) (fun hc3 => ?_)
    ·replace hc3 := nT hc3
     refine C_seq ?_
     refine C_region (l := [0]) rfl ?_
     refine Y_assign ?_
     refine XD_end ?_
     refine K_then ?_
     refine C_ret ?_
     refine K_retB ?_
     iterate 2 refine K_ret ?_
     refine K_retB ?_
     refine K_ret ?_
     refine K_end (.inr rfl) (.tmp rfl .nil) (fun w hw => ?_)
     refine ⟨_, rfl, (hw.c), ?_⟩
     clear hw
     refine congrArg Value.bool ?_
     exact (decide_eq_false (fun h9 => by subst h9; simp_all)).symm
    ·replace hc3 := nF hc3
     refine C_skip ?_
     refine K_out ?_
     refine K_then ?_
     refine C_region (l := [0, 1, 2]) rfl ?_
     refine Y_move ?_
     refine X_ari rfl rfl rfl rfl rfl (by exact wrap_in (by decide) (by omega)) rfl ?_
     refine Y_assign ?_
     refine XD_end ?_
     refine K_roundS (a' := [(5, _)]) (k + 1) (.cons (k := 5) rfl (.cons (k := 4) rfl (.cons (k := 0) rfl (.cons (k := 1) rfl (.nil))))) (fun w hw => by first | exact hw | exact hw.c) ?_ ?_
     ·refine ⟨rfl, by omega, ?_⟩
      (intro j h2 h3 hj; rcases Nat.lt_or_ge j k with h9 | h9; exact hI j h2 h3 h9; obtain rfl : j = k := (by omega); simp_all)
     ·omega
   ·replace hc2 := dF hc2
    refine C_exit ?_
    iterate 2 refine K_exit ?_
    refine K_hit ?_
    refine K_then ?_
    refine Y_pk [4] ?_
    refine C_seq ?_
    refine C_region (l := [0]) rfl ?_
    refine Y_assign ?_
    refine XD_end ?_
    refine K_then ?_
    refine C_ret ?_
    refine K_end (.inr rfl) (.tmp rfl .nil) (fun w hw => ?_)
    refine ⟨_, rfl, (hw.c), ?_⟩
    clear hw
    refine congrArg Value.bool ?_
    exact (decide_eq_true (List.ext_getElem (by omega) (fun j h2 h3 => hI j h2 h3 (by omega)))).symm

theorem SameR_ok (M : Mem) (a : RouteV) (b : RouteV) (ha0 : RouteV.ok M a) (hb1 : RouteV.ok M b) : Fs Try.prog 51 [a.enc, b.enc] M (fun v => v = Value.bool (decide (a.hops.l = b.hops.l ∧ a.end_ = b.end_))) := by
  obtain ⟨⟨a_hops_a, a_hops_c, a_hops_l⟩, ⟨a_end__addr, a_end__id⟩⟩ := a
  obtain ⟨⟨b_hops_a, b_hops_c, b_hops_l⟩, ⟨b_end__addr, b_end__id⟩⟩ := b
  have k_a_hops : SlK M (oneI .i64) 1 ⟨a_hops_a, a_hops_c, a_hops_l⟩ := ha0.h0
  have s_a_hops : SlM M a_hops_a (a_hops_l.map (oneI .i64)) 1 := k_a_hops.h1
  have n_a_hops : (a_hops_l.map (oneI .i64)).length = a_hops_l.length := List.length_map ..
  have m_a_hops : a_hops_l.length ≤ 9223372036854775807 := k_a_hops.h2
  have c_a_hops : a_hops_l.length ≤ a_hops_c := k_a_hops.h3
  have k_b_hops : SlK M (oneI .i64) 1 ⟨b_hops_a, b_hops_c, b_hops_l⟩ := hb1.h0
  have s_b_hops : SlM M b_hops_a (b_hops_l.map (oneI .i64)) 1 := k_b_hops.h1
  have n_b_hops : (b_hops_l.map (oneI .i64)).length = b_hops_l.length := List.length_map ..
  have m_b_hops : b_hops_l.length ≤ 9223372036854775807 := k_b_hops.h2
  have c_b_hops : b_hops_l.length ≤ b_hops_c := k_b_hops.h3
  refine fs_enter Try.func51 rfl Try.ntmps51 rfl ?_; intro H
  refine C_seq ?_
  refine C_region (l := [0, 1, 2]) rfl ?_
  refine Y_box ?_; intro b1
  refine Y_box ?_; intro b2
  refine Y_assign ?_
  refine XD_end ?_
  refine K_then ?_
  refine Y_pk [4, 3, 2] ?_
  refine C_seq ?_
  refine C_region (l := [0, 1, 2, 3, 4, 5, 6, 7, 8, 9, 10, 11, 12]) rfl ?_
  refine Y_fieldAddr F.foff63_0 ?_
  refine Y_load F.lay41 ?_
  refine Y_fieldAddr F.foff63_0 ?_
  refine Y_load F.lay41 ?_
  refine X_fs rfl rfl F.ok91 rfl (Ints_ok _ ⟨_, _, _⟩ ⟨_, _, _⟩ (by assumption) (by assumption)) rfl ?_
  rintro _ rfl
  refine Y_move ?_
  refine XD_part 10 rfl (fun hc3 => ?_) (fun hc3 => ?_)
  ·replace hc3 := dT hc3
   simp only [PeerV.eta, TableV.eta, RouteV.eta] at hc3
   refine Y_fieldAddr F.foff63_1 ?_
   refine Y_load F.lay25 ?_
   refine Y_fieldAddr F.foff63_1 ?_
   refine Y_load F.lay25 ?_
   refine X_same (m := 20) rfl rfl rfl rfl rfl (by constructor) (by constructor) F.lay25 F.kinds25 rfl F.guard25 (by exact FitPeerV (⟨_, _⟩)) (by exact FitPeerV (⟨_, _⟩)) rfl rfl rfl ?_; intro c4 he5
   replace he5 : c4 = true ↔ Segs.cells _ = Segs.cells _ := he5
   obtain rfl := eqD he5 (PeerV.inj (x := ⟨_, _⟩) (y := ⟨_, _⟩)); clear he5
   refine Y_pick ?_
   refine Y_assign ?_
   refine XD_end ?_
   refine K_then ?_
   refine Y_pk [4] ?_
   refine C_ret ?_
   refine K_end (.inr rfl) (.tmp rfl .nil) (fun w hw => ?_)
   refine ⟨_, rfl, (hw.c), ?_⟩
   clear hw
   refine congrArg Value.bool ?_
   (simp_all; done)
  ·replace hc3 := dF hc3
   simp only [PeerV.eta, TableV.eta, RouteV.eta] at hc3
   iterate 5 refine Y_skip ?_
   refine Y_pick ?_
   refine Y_assign ?_
   refine XD_end ?_
   refine K_then ?_
   refine Y_pk [4] ?_
   refine C_ret ?_
   refine K_end (.inr rfl) (.tmp rfl .nil) (fun w hw => ?_)
   refine ⟨_, rfl, (hw.c), ?_⟩
   clear hw
   refine congrArg Value.bool ?_
   (simp_all; done)

theorem BigL_ok (M : Mem) (l : (Sl TableV)) (hl0 : SlK M TableV.segs 44 l) (hl1 : ∀ y ∈ (l).l, TableV.ok M y) : Fs Try.prog 47 [Sl.val l] M (fun v => v = Value.bool (decide (20 < l.l.length ∨ ∃ t ∈ l.l, 40 < t.succ.l.length ∨ 200 < t.fingers.l.length))) := by
  obtain ⟨l_a, l_c, l_l⟩ := l
  have k_l : SlK M TableV.segs 44 ⟨l_a, l_c, l_l⟩ := hl0
  have s_l : SlM M l_a (l_l.map TableV.segs) 44 := k_l.h1
  have n_l : (l_l.map TableV.segs).length = l_l.length := List.length_map ..
  have m_l : l_l.length ≤ 9223372036854775807 := k_l.h2
  have c_l : l_l.length ≤ l_c := k_l.h3
  refine fs_enter Try.func47 rfl Try.ntmps47 rfl ?_; intro H
  refine C_seq ?_
  refine C_region (l := [0]) rfl ?_
  refine Y_assign ?_
  refine XD_end ?_
  refine K_then ?_
  iterate 2 refine C_seq ?_
  refine C_region (l := [0]) rfl ?_
  refine Y_assign ?_
  refine XD_end ?_
  refine K_then ?_
  refine C_block ?_
  refine Y_pk [3, 2, 0] ?_
  refine C_loopS (.succ .zero) (fun (k : Nat) z => z = [(3, .int .i64 (k : Int))] ∧ k ≤ l_l.length ∧ (∀ j (h2 : j < l_l.length), j < k → l_l[j].succ.l.length ≤ 40 ∧ l_l[j].fingers.l.length ≤ 200)) (fun k => l_l.length - k) (0) (⟨rfl, by omega, by (intro j h2 hj; omega)⟩) ?_
  rintro k _ ⟨rfl, hk, hI⟩
  iterate 2 refine C_seq ?_
  refine C_region (l := [0, 1, 2, 3, 4, 5, 6, 7, 8]) rfl ?_
  iterate 2 refine Y_move ?_
  refine Y_len_sl F.elem60 ?_
  refine Y_cmp ?_
  refine Y_move ?_
  refine XD_part 8 rfl (fun hc1 => ?_) (fun hc1 => ?_)
  ·replace hc1 := dT hc1
   refine Y_move ?_
   refine Y_len_sl F.elem60 ?_
   refine Y_cmp ?_
   refine Y_pick ?_
   refine XD_end ?_
   refine K_then ?_
   refine C_cond rfl (fun hc2 => ?_) (fun hc2 => ?_)
   ·replace hc2 := dT hc2
    refine C_skip ?_
    refine K_then ?_
    refine C_seq ?_
    refine C_block ?_
    refine C_seq ?_
    refine C_region (l := [0, 1, 2, 3, 4]) rfl ?_
    iterate 2 refine Y_move ?_
    refine X_indexAddr rfl rfl rfl rfl F.elem60 (by rfl) (by omega) (by exact SlM.plain (by assumption) (by (simp; omega))) rfl ?_
    refine X_load_el rfl rfl rfl (by assumption) (by exact row_map (by omega)) F.lay28 rfl rfl rfl ?_
    refine X_fs rfl rfl F.ok15 rfl (BigT_ok _ l_l[k] (hl1 _ (show l_l[k] ∈ l_l from List.getElem_mem (by omega)))) rfl ?_
    rintro _ rfl
    refine XD_end ?_
    refine K_then ?_
    refine C_cond rfl (fun hc3 => ?_) (fun hc3 => ?_)
    ·replace hc3 := dT hc3
     refine C_seq ?_
     refine C_region (l := [0]) rfl ?_
     refine Y_assign ?_
     refine XD_end ?_
     refine K_then ?_
     refine C_ret ?_
     refine K_retB ?_
     iterate 2 refine K_ret ?_
     refine K_retB ?_
     refine K_ret ?_
     refine K_end (.inr rfl) (.tmp rfl .nil) (fun w hw => ?_)
     refine ⟨_, rfl, (hw.c), ?_⟩
     clear hw
     refine congrArg Value.bool ?_
     exact (decide_eq_true (.inr ⟨l_l[k], (show l_l[k] ∈ l_l from List.getElem_mem (by omega)), by assumption⟩)).symm
    ·replace hc3 := dF hc3
     refine C_skip ?_
     refine K_out ?_
     refine K_then ?_
     refine C_region (l := [0, 1, 2]) rfl ?_
     refine Y_move ?_
     refine X_ari rfl rfl rfl rfl rfl (by exact wrap_in (by decide) (by omega)) rfl ?_
     refine Y_assign ?_
     refine XD_end ?_
     refine K_roundS (a' := [(3, _)]) (k + 1) (.cons (k := 3) rfl (.cons (k := 2) rfl (.cons (k := 0) rfl (.nil)))) (fun w hw => by first | exact hw | exact hw.c) ?_ ?_
     ·refine ⟨rfl, by omega, ?_⟩
      (intro j h2 hj; rcases Nat.lt_or_ge j k with h9 | h9; exact hI j h2 h9; obtain rfl : j = k := (by omega); simp_all; done)
     ·omega
   ·replace hc2 := dF hc2
    refine C_exit ?_
    iterate 2 refine K_exit ?_
    refine K_hit ?_
    refine K_then ?_
    refine Y_pk [2, 0] ?_
    refine C_seq ?_
    refine C_region (l := [0, 1, 2, 3]) rfl ?_
    refine Y_move ?_
    refine Y_len_sl F.elem60 ?_
    refine Y_cmp ?_
    refine Y_assign ?_
    refine XD_end ?_
    refine K_then ?_
    refine Y_pk [2] ?_
    refine C_ret ?_
    refine K_end (.inr rfl) (.tmp rfl .nil) (fun w hw => ?_)
    refine ⟨_, rfl, (hw.c), ?_⟩
    clear hw
    refine congrArg Value.bool ?_
    (refine decide_eq_decide.2 ?_; constructor; (intro h9; exact .inl (show 20 < l_l.length by omega)); (rintro (h9 | ⟨t, ht, h9⟩); (have h8 : 20 < l_l.length := h9); omega; (obtain ⟨j, hj, rfl⟩ := List.getElem_of_mem (show t ∈ l_l from ht); have h8 := hI j hj; omega)))
  ·replace hc1 := dF hc1
   iterate 3 refine Y_skip ?_
   refine Y_pick ?_
   refine XD_end ?_
   refine K_then ?_
   refine C_false rfl ?_
   refine C_exit ?_
   iterate 2 refine K_exit ?_
   refine K_hit ?_
   refine K_then ?_
   refine Y_pk [2, 0] ?_
   refine C_seq ?_
   refine C_region (l := [0, 1, 2, 3]) rfl ?_
   refine Y_move ?_
   refine Y_len_sl F.elem60 ?_
   refine Y_cmp ?_
   refine Y_assign ?_
   refine XD_end ?_
   refine K_then ?_
   refine Y_pk [2] ?_
   refine C_ret ?_
   refine K_end (.inr rfl) (.tmp rfl .nil) (fun w hw => ?_)
   refine ⟨_, rfl, (hw.c), ?_⟩
   clear hw
   refine congrArg Value.bool ?_
   (refine decide_eq_decide.2 ?_; constructor; (intro h9; exact .inl (show 20 < l_l.length by omega)); (rintro (h9 | ⟨t, ht, h9⟩); (have h8 : 20 < l_l.length := h9); omega; (obtain ⟨j, hj, rfl⟩ := List.getElem_of_mem (show t ∈ l_l from ht); have h8 := hI j hj; omega)))

theorem Tables_ok (M : Mem) (a : (Sl TableV)) (b : (Sl TableV)) (ha0 : SlK M TableV.segs 44 a) (ha1 : ∀ y ∈ (a).l, TableV.ok M y) (hb2 : SlK M TableV.segs 44 b) (hb3 : ∀ y ∈ (b).l, TableV.ok M y) : Fs Try.prog 54 [Sl.val a, Sl.val b] M (fun v => v = Value.bool (decide (a.l.map TableV.tb = b.l.map TableV.tb))) := by
  obtain ⟨a_a, a_c, a_l⟩ := a
  obtain ⟨b_a, b_c, b_l⟩ := b
  have k_a : SlK M TableV.segs 44 ⟨a_a, a_c, a_l⟩ := ha0
  have s_a : SlM M a_a (a_l.map TableV.segs) 44 := k_a.h1
  have n_a : (a_l.map TableV.segs).length = a_l.length := List.length_map ..
  have m_a : a_l.length ≤ 9223372036854775807 := k_a.h2
  have c_a : a_l.length ≤ a_c := k_a.h3
  have k_b : SlK M TableV.segs 44 ⟨b_a, b_c, b_l⟩ := hb2
  have s_b : SlM M b_a (b_l.map TableV.segs) 44 := k_b.h1
  have n_b : (b_l.map TableV.segs).length = b_l.length := List.length_map ..
  have m_b : b_l.length ≤ 9223372036854775807 := k_b.h2
  have c_b : b_l.length ≤ b_c := k_b.h3
  refine fs_enter Try.func54 rfl Try.ntmps54 rfl ?_; intro H
  refine C_seq ?_
  refine C_region (l := [0]) rfl ?_
  refine Y_assign ?_
  refine XD_end ?_
  refine K_then ?_
  iterate 2 refine C_seq ?_
  refine C_region (l := [0, 1, 2, 3, 4]) rfl ?_
  refine Y_move ?_
  refine Y_len_sl F.elem60 ?_
  refine Y_move ?_
  refine Y_len_sl F.elem60 ?_
  refine Y_cmp ?_
  refine XD_end ?_
  refine K_then ?_
  refine Y_pk [10, 4, 0, 1] ?_
  refine C_cond rfl (fun hc1 => ?_) (fun hc1 => ?_)
  ·replace hc1 := nT hc1
   refine C_seq ?_
   refine C_region (l := [0]) rfl ?_
   refine Y_assign ?_
   refine XD_end ?_
   refine K_then ?_
   refine Y_pk [4, 0, 1] ?_
   refine C_ret ?_
   refine K_ret ?_
   refine K_end (.inr rfl) (.tmp rfl .nil) (fun w hw => ?_)
   refine ⟨_, rfl, (hw.c), ?_⟩
   clear hw
   refine congrArg Value.bool ?_
   exact (decide_eq_false (fun h9 => by have := congrArg List.length h9; simp only [List.length_map] at this; omega)).symm
  ·replace hc1 := nF hc1
   refine C_skip ?_
   refine K_then ?_
   refine Y_pk [4, 0, 1] ?_
   iterate 2 refine C_seq ?_
   refine C_region (l := [0]) rfl ?_
   refine Y_assign ?_
   refine XD_end ?_
   refine K_then ?_
   refine C_block ?_
   refine Y_pk [5, 4, 0, 1] ?_
   refine C_loopS (.succ .zero) (fun (k : Nat) z => z = [(5, .int .i64 (k : Int))] ∧ k ≤ a_l.length ∧ (∀ j (h2 : j < a_l.length) (h3 : j < b_l.length), j < k → a_l[j].tb = b_l[j].tb)) (fun k => a_l.length - k) (0) (⟨rfl, by omega, by (intro j h2 h3 hj; omega)⟩) ?_
   rintro k _ ⟨rfl, hk, hI⟩
   iterate 2 refine C_seq ?_
   refine C_region (l := [0, 1, 2, 3]) rfl ?_
   iterate 2 refine Y_move ?_
   refine Y_len_sl F.elem60 ?_
   refine Y_cmp ?_
   refine XD_end ?_
   refine K_then ?_
   refine C_cond rfl (fun hc2 => ?_) (fun hc2 => ?_)
   ·replace hc2 := dT hc2
    refine C_skip ?_
    refine K_then ?_
    refine C_seq ?_
    refine C_block ?_
    refine C_seq ?_
    refine C_region_any (l := [0, 1, 2, 3, 4, 5, 6, 7, 8, 9]) #[0, 0, 3, 7, 0, 0, 48, 112, 255, 511] _ rfl (by kernel_rfl) (by kernel_rfl) St.drawn (fun _ h => h) ?_
    iterate 2 refine Y_move ?_
    refine X_indexAddr rfl rfl rfl rfl F.elem60 (by rfl) (by omega) (by exact SlM.plain (by assumption) (by (simp; omega))) rfl ?_
    refine X_load_el rfl rfl rfl (by assumption) (by exact row_map (by omega)) F.lay28 rfl rfl rfl ?_
    iterate 2 refine Y_move ?_
    refine X_indexAddr rfl rfl rfl rfl F.elem60 (by rfl) (by omega) (by exact SlM.plain (by assumption) (by (simp; omega))) rfl ?_
    refine X_load_el rfl rfl rfl (by assumption) (by exact row_map (by omega)) F.lay28 rfl rfl rfl ?_
    refine X_fs rfl rfl F.ok24 rfl (SameT_ok _ a_l[k] b_l[k] (ha1 _ (show a_l[k] ∈ a_l from List.getElem_mem (by omega))) (hb3 _ (show b_l[k] ∈ b_l from List.getElem_mem (by omega)))) rfl ?_
    rintro _ rfl
    refine Y_not ?_
    refine XD_end ?_
    refine K_then ?_
    refine C_cond rfl (fun hc3 => ?_) (fun hc3 => ?_)
    ·replace hc3 := nT hc3
     refine C_seq ?_
     refine C_region (l := [0]) rfl ?_
     refine Y_assign ?_
     refine XD_end ?_
     refine K_then ?_
     refine C_ret ?_
     refine K_retB ?_
     iterate 2 refine K_ret ?_
     refine K_retB ?_
     refine K_ret ?_
     refine K_end (.inr rfl) (.tmp rfl .nil) (fun w hw => ?_)
     refine ⟨_, rfl, (hw.c), ?_⟩
     clear hw
     refine congrArg Value.bool ?_
     exact (decide_eq_false (fun h9 => by have h8 := congrArg (fun l => l[k]?) h9; simp only [List.getElem?_map, List.getElem?_eq_getElem (show k < a_l.length by omega), List.getElem?_eq_getElem (show k < b_l.length by omega), Option.map_some, Option.some.injEq] at h8; contradiction)).symm
    ·replace hc3 := nF hc3
     refine C_skip ?_
     refine K_out ?_
     refine K_then ?_
     refine C_region (l := [0, 1, 2]) rfl ?_
     refine Y_move ?_
     refine X_ari rfl rfl rfl rfl rfl (by exact wrap_in (by decide) (by omega)) rfl ?_
     refine Y_assign ?_
     refine XD_end ?_
     refine K_roundS (a' := [(5, _)]) (k + 1) (.cons (k := 5) rfl (.cons (k := 4) rfl (.cons (k := 0) rfl (.cons (k := 1) rfl (.nil))))) (fun w hw => by first | exact hw | exact hw.c) ?_ ?_
     ·refine ⟨rfl, by omega, ?_⟩
      (intro j h2 h3 hj; rcases Nat.lt_or_ge j k with h9 | h9; exact hI j h2 h3 h9; obtain rfl : j = k := (by omega); simp_all)
     ·omega
   ·replace hc2 := dF hc2
    refine C_exit ?_
    iterate 2 refine K_exit ?_
    refine K_hit ?_
    refine K_then ?_
    refine Y_pk [4] ?_
    refine C_seq ?_
    refine C_region (l := [0]) rfl ?_
    refine Y_assign ?_
    refine XD_end ?_
    refine K_then ?_
    refine C_ret ?_
    refine K_end (.inr rfl) (.tmp rfl .nil) (fun w hw => ?_)
    refine ⟨_, rfl, (hw.c), ?_⟩
    clear hw
    refine congrArg Value.bool ?_
    exact (decide_eq_true (List.ext_getElem (by simp only [List.length_map]; omega) (fun j h2 h3 => by simp only [List.getElem_map]; simp only [List.length_map] at h2 h3; exact hI j h2 h3 (by omega)))).symm

end Go.Proofs.Ytbjklbmmchiahaa
/-
  Fingers and arcs of circles, in plain Lean.
-/
set_option linter.unusedSimpArgs false
set_option linter.unusedVariables false
set_option linter.unnecessarySimpa false
namespace Go.Esp
def fingerAt (l : List PeerV) (p : PeerV) (k : Nat) : Int := ((ownerI l (p.id + powP k) : Nat) : Int)
def fingersR (l : List PeerV) (i : Int) : List Int × Int := if h : IsCircle l ∧ 0 ≤ i ∧ i < l.length then ((List.range 160).map (fingerAt l (l[i.toNat]'(by omega))), 0) else ([], 1)
theorem fingersR_yes {l : List PeerV} {i : Nat} (h : IsCircle l) (hi : i < l.length) : fingersR l (i : Int) = ((List.range 160).map (fingerAt l l[i]), 0) := by
  unfold fingersR
  rw [dif_pos ⟨h, by omega, by omega⟩]
  simp only [Int.toNat_natCast]
theorem fingersR_no {l : List PeerV} {i : Int} (h : ¬ (IsCircle l ∧ 0 ≤ i ∧ i < l.length)) : fingersR l i = ([], 1) := dif_neg h
/-- The first k of 160 are known. -/
def fillL (f : Nat → Int) (k : Nat) : List Int := (List.range 160).map fun j => if j < k then f j else 0
theorem fillL_zero (f : Nat → Int) : fillL f 0 = List.replicate 160 0 := by
  unfold fillL
  simp only [Nat.not_lt_zero, if_false]
  exact List.map_const' ..
theorem fillL_all (f : Nat → Int) : fillL f 160 = (List.range 160).map f := by
  unfold fillL
  refine List.map_congr_left fun j hj => ?_
  rw [if_pos (List.mem_range.1 hj)]
theorem fillL_len (f : Nat → Int) (k : Nat) : (fillL f k).length = 160 := by unfold fillL; simp
theorem fillL_set (f : Nat → Int) {k : Nat} (hk : k < 160) {v : Int} (hv : v = f k) : (fillL f k).set k v = fillL f (k + 1) := by
  unfold fillL
  refine List.ext_getElem (by simp) fun j h1 h2 => ?_
  rw [List.getElem_set]
  simp only [List.getElem_map, List.getElem_range]
  split
  · rename_i h; subst h; rw [if_pos (by omega)]; exact hv
  · rename_i h
    by_cases h3 : j < k
    · rw [if_pos h3, if_pos (by omega)]
    · rw [if_neg h3, if_neg (by omega)]
def IntsE (M : Mem) (v : Value) (r : List Int × Int) : Prop := ∃ s : Sl Int, v = .tuple #[s.val, .int .i64 r.2] ∧ s.l = r.1 ∧ SlK M (oneI .i64) 1 s
def arcR (l : List PeerV) (i : Int) : Plc × Plc × Int := if h : IsCircle l ∧ 0 ≤ i ∧ i < l.length then ((l[(i.toNat + l.length - 1) % l.length]'(Nat.mod_lt _ (by have := h.1.1; omega))).id, (l[i.toNat]'(by omega)).id, 0) else (0, 0, 1)
theorem arcR_yes {l : List PeerV} {i : Nat} (h : IsCircle l) (hi : i < l.length) : arcR l (i : Int) = ((l[(i + l.length - 1) % l.length]'(Nat.mod_lt _ (by omega))).id, l[i].id, 0) := by
  unfold arcR
  rw [dif_pos ⟨h, by omega, by omega⟩]
  simp only [Int.toNat_natCast]
theorem arcR_no {l : List PeerV} {i : Int} (h : ¬ (IsCircle l ∧ 0 ≤ i ∧ i < l.length)) : arcR l i = (0, 0, 1) := dif_neg h
def ofArc (r : Plc × Plc × Int) : Value := .tuple #[aggV [idSeg r.1], aggV [idSeg r.2.1], .int .i64 r.2.2]
end Go.Esp
