/-
  Texts of this claim, one behind the other: T15, TableS, T16, SortL, SortM, T17, T18, T19, SmallN, T20, TableX, T21, T22, T23, T24, TableL, T25, T26, TableN.
-/
import Derived.Test.YtbjklbmmchiahaaPk3
import Derived.Shelf.SlSortCmp.WholeK
import Derived.Shelf.SlGeneric
import Derived.Ground.SlsfProg
import Derived.Test.YtbjklbmmchiahaaRows
import Derived.KernelRfl
/-
  Who is known, by the document.
-/
set_option linter.unusedSimpArgs false
set_option linter.unusedVariables false
set_option linter.unnecessarySimpa false
set_option maxRecDepth 8000
set_option maxHeartbeats 1000000
namespace Go.Proofs.Ytbjklbmmchiahaa
open Go.Esp


theorem rKnown_ok (M : Mem) (t : TableV) (ht0 : TableV.ok M t) (hbig : t.succ.l.length ≤ 40 ∧ t.fingers.l.length ≤ 200) : Esp.Fn Try.prog 39 [t.enc] M (fun M' v => PsIs M' v (knownT t.tb)) := by
  obtain ⟨⟨t_self_addr, t_self_id⟩, ⟨t_pred_addr, t_pred_id⟩, ⟨t_succ_a, t_succ_c, t_succ_l⟩, ⟨t_fingers_a, t_fingers_c, t_fingers_l⟩⟩ := t
  have k_t_succ : SlK M PeerV.segs 21 ⟨t_succ_a, t_succ_c, t_succ_l⟩ := ht0.h0
  have s_t_succ : SlM M t_succ_a (t_succ_l.map PeerV.segs) 21 := k_t_succ.h1
  have n_t_succ : (t_succ_l.map PeerV.segs).length = t_succ_l.length := List.length_map ..
  have m_t_succ : t_succ_l.length ≤ 9223372036854775807 := k_t_succ.h2
  have c_t_succ : t_succ_l.length ≤ t_succ_c := k_t_succ.h3
  have k_t_fingers : SlK M PeerV.segs 21 ⟨t_fingers_a, t_fingers_c, t_fingers_l⟩ := ht0.h1
  have s_t_fingers : SlM M t_fingers_a (t_fingers_l.map PeerV.segs) 21 := k_t_fingers.h1
  have n_t_fingers : (t_fingers_l.map PeerV.segs).length = t_fingers_l.length := List.length_map ..
  have m_t_fingers : t_fingers_l.length ≤ 9223372036854775807 := k_t_fingers.h2
  have c_t_fingers : t_fingers_l.length ≤ t_fingers_c := k_t_fingers.h3
  simp only at hbig
  refine fn_enter Try.func39 rfl Try.ntmps39 rfl ?_; intro H
  refine C_seq ?_
  refine C_region (l := [0, 1]) rfl ?_
  refine Y_box ?_; intro b1
  refine Y_assign ?_
  refine XD_end ?_
  refine K_then ?_
  refine Y_pk [2, 1] ?_
  refine C_seq ?_
  refine C_region (l := [0, 1, 2, 3]) rfl ?_
  refine Y_fieldAddr F.foff28_1 ?_
  refine Y_load F.lay25 ?_
  refine X_buildSliceF rfl rfl F.elem26 F.zero25 rfl rfl (.cons rfl (by constructor) .nil) rfl rfl (by simp only [List.map_cons, List.map_nil] <;> rfl) rfl ?_; intro b2 hob3
  refine Y_assign ?_
  refine XD_end ?_
  refine K_then ?_
  refine Y_pk [3, 2, 1] ?_
  refine C_seq ?_
  refine C_region (l := [0, 1, 2, 3, 4]) rfl ?_
  refine Y_move ?_
  refine Y_fieldAddr F.foff28_2 ?_
  refine Y_load F.lay26 ?_
  refine X_appendK (m := 1000000) rfl rfl rfl rfl rfl F.elem26 F.zero25 (by exact agg_size rfl) rfl (by assumption) (by repeat first | exact Rem.here _ | exact Rem.two | apply Rem.skip | apply Rem.over) (s_t_succ) PeerV.flat (by (simp; omega)) (by decide) rfl ?_; intro v6 hs5 ho4; obtain ⟨adv6, cpv6, rfl⟩ := ho4.valAt (n := 1 + t_succ_l.length) (by (simp; omega))
  refine Y_assign ?_
  refine XD_end ?_
  refine K_then ?_
  refine Y_pk [3, 2, 1] ?_
  refine C_seq ?_
  refine C_region (l := [0, 1, 2, 3, 4]) rfl ?_
  refine Y_move ?_
  refine Y_fieldAddr F.foff28_3 ?_
  refine Y_load F.lay26 ?_
  refine X_appendK (m := 1000000) rfl rfl rfl rfl rfl F.elem26 F.zero25 (by exact agg_size rfl) rfl (by assumption) (by repeat first | exact Rem.here _ | exact Rem.two | apply Rem.skip | apply Rem.over) (s_t_fingers) PeerV.flat (by (simp; omega)) (by decide) rfl ?_; intro v9 hs8 ho7; obtain ⟨adv9, cpv9, rfl⟩ := ho7.valAt (n := (1 + t_succ_l.length + t_fingers_l.length)) (by (simp; omega))
  refine Y_assign ?_
  refine XD_end ?_
  refine K_then ?_
  refine Y_pk [3, 2, 1] ?_
  refine C_seq ?_
  obtain ⟨all, hall⟩ : ∃ all : List PeerV, all = (⟨t_pred_addr, t_pred_id⟩ :: (t_succ_l ++ t_fingers_l)) := ⟨_, rfl⟩
  have nal : all.length = (1 + t_succ_l.length + t_fingers_l.length) := by rw [hall]; simp only [List.length_cons, List.length_append]; omega
  have hml : (all.map PeerV.segs).length = all.length := List.length_map ..
  replace ho7 : OSl 25 21 (.slice adv9 (1 + t_succ_l.length + t_fingers_l.length) cpv9) hs8 (all.map PeerV.segs) := by rw [hall]; have h9 := ho7; simp only [List.map_cons, List.map_append, List.cons_append, List.nil_append, List.append_assoc, List.map_take, List.map_drop] at h9 ⊢; exact h9
  refine C_frz ho7 (by repeat first | exact Rem.here _ | exact Rem.two | apply Rem.skip | apply Rem.over) (fun M1 hm1 k_all => ?_)
  have s_all := k_all.h1
  refine C_region (l := [0]) rfl ?_
  refine Y_assign ?_
  refine XD_end ?_
  refine K_then ?_
  iterate 2 refine C_seq ?_
  refine C_region (l := [0]) rfl ?_
  refine Y_assign ?_
  refine XD_end ?_
  refine K_then ?_
  refine C_block ?_
  refine Y_pk [5, 4, 3, 2, 1] ?_
  refine C_loopO (Hin := []) (.succ (.succ .zero)) (by repeat first | exact Rem.here _ | exact Rem.two | apply Rem.skip | apply Rem.over) (fun (k : Nat) M9 h1 z => ∃ s : Sl PeerV, h1 = [] ∧ z = [(5, .int .i64 (k : Int)), (4, s.val)] ∧ k ≤ all.length ∧ SlK M9 PeerV.segs 21 s ∧ s.l.length ≤ k ∧ s.l = (all.take (k)).foldl (knownStep ⟨t_self_addr, t_self_id⟩) []) (fun k => all.length - k) (0) (⟨⟨none, 0, []⟩, rfl, rfl, by omega, SlK.nil, by simp, rfl⟩) ?_
  rintro k M2 h1 z hm2 ⟨⟨out_a, out_c, out_l⟩, rfl, rfl, hk, k_out, hol, hI⟩
  simp only at hol hI
  have s_out := k_out.h1
  have n_out : (out_l.map PeerV.segs).length = out_l.length := List.length_map ..
  have m_out := k_out.h2
  have c_out := k_out.h3
  simp only at m_out c_out
  have s_all2 := s_all.mono hm2
  iterate 2 refine C_seq ?_
  refine C_region (l := [0, 1, 2, 3]) rfl ?_
  iterate 2 refine Y_move ?_
  refine Y_len_sl F.elem26 ?_
  refine Y_cmp ?_
  refine XD_end ?_
  refine K_then ?_
  refine C_cond rfl (fun hc10 => ?_) (fun hc10 => ?_)
  ·replace hc10 := dT hc10
   refine C_skip ?_
   refine K_then ?_
   refine C_seq ?_
   refine C_block ?_
   refine C_seq ?_
   refine C_region (l := [0, 1, 2, 3, 4, 5]) rfl ?_
   iterate 2 refine Y_move ?_
   refine X_indexAddr rfl rfl rfl rfl F.elem26 (by rfl) (by omega) (by exact SlM.plain (by assumption) (by (simp; omega))) rfl ?_
   refine X_load_el rfl rfl rfl (by assumption) (by exact row_map (by (simp; omega))) F.lay25 rfl rfl rfl ?_
   refine Y_alloc F.zero25 ?_; intro b11
   refine Y_store F.lay25 ?_
   refine XD_end ?_
   refine K_then ?_
   iterate 2 refine C_seq ?_
   refine C_region (l := [0, 1, 2, 3, 4, 5, 6, 7, 8, 9, 10, 11, 12, 13, 14, 15, 16]) rfl ?_
   refine Y_fieldAddr F.foff25_0 ?_
   refine Y_load F.lay3 ?_
   refine Y_cmp ?_
   refine Y_move ?_
   refine XD_part 33 rfl (fun hc12 => ?_) (fun hc12 => ?_)
   ·replace hc12 := dT hc12
    simp only [PeerV.eta, TableV.eta, RouteV.eta] at hc12
    iterate 6 refine Y_skip ?_
    refine Y_pick ?_
    refine Y_move ?_
    iterate 4 refine Y_skip ?_
    refine Y_pick ?_
    refine XD_end ?_
    refine K_then ?_
    refine C_true rfl ?_
    refine C_exit ?_
    refine K_exit ?_
    refine K_hit ?_
    refine K_then ?_
    refine C_region (l := [0, 1, 2]) rfl ?_
    refine Y_move ?_
    refine X_ari rfl rfl rfl rfl rfl (by exact wrap_in (by decide) (by omega)) rfl ?_
    refine Y_assign ?_
    refine XD_end ?_
    refine K_roundO (a' := [(5, _), (4, _)]) (k + 1) ([]) (.cons (k := 5) rfl (.cons (k := 4) rfl (.cons (k := 3) rfl (.cons (k := 2) rfl (.cons (k := 1) rfl (.nil)))))) hm2 (fun w hw => by first | exact hw | exact hw.c) ?_ ?_
    ·refine ⟨⟨out_a, out_c, out_l⟩, rfl, rfl, by omega, k_out, by simp only; omega, ?_⟩
     simp only
     rw [foldl_take (by omega : k < all.length), ← hI]; unfold knownStep; rw [if_pos (by exact .inl (by omega))]
    ·omega
   ·replace hc12 := dF hc12
    simp only [PeerV.eta, TableV.eta, RouteV.eta] at hc12
    refine Y_fieldAddr F.foff25_0 ?_
    refine Y_load F.lay3 ?_
    refine Y_fieldAddr F.foff28_0 ?_
    refine Y_fieldAddr F.foff25_0 ?_
    refine Y_load F.lay3 ?_
    refine Y_cmp ?_
    refine Y_pick ?_
    refine Y_move ?_
    refine XD_part 41 rfl (fun hc13 => ?_) (fun hc13 => ?_)
    ·replace hc13 := dT hc13
     simp only [PeerV.eta, TableV.eta, RouteV.eta] at hc13
     iterate 4 refine Y_skip ?_
     refine Y_pick ?_
     refine XD_end ?_
     refine K_then ?_
     refine C_true rfl ?_
     refine C_exit ?_
     refine K_exit ?_
     refine K_hit ?_
     refine K_then ?_
     refine C_region (l := [0, 1, 2]) rfl ?_
     refine Y_move ?_
     refine X_ari rfl rfl rfl rfl rfl (by exact wrap_in (by decide) (by omega)) rfl ?_
     refine Y_assign ?_
     refine XD_end ?_
     refine K_roundO (a' := [(5, _), (4, _)]) (k + 1) ([]) (.cons (k := 5) rfl (.cons (k := 4) rfl (.cons (k := 3) rfl (.cons (k := 2) rfl (.cons (k := 1) rfl (.nil)))))) hm2 (fun w hw => by first | exact hw | exact hw.c) ?_ ?_
     ·refine ⟨⟨out_a, out_c, out_l⟩, rfl, rfl, by omega, k_out, by simp only; omega, ?_⟩
      simp only
      rw [foldl_take (by omega : k < all.length), ← hI]; unfold knownStep; rw [if_pos (by exact .inr (.inl (by assumption)))]
     ·omega
    ·replace hc13 := dF hc13
     simp only [PeerV.eta, TableV.eta, RouteV.eta] at hc13
     refine Y_move ?_
     refine Y_fieldAddr F.foff25_0 ?_
     refine Y_load F.lay3 ?_
     refine X_fs rfl rfl F.ok66 rfl (rhas_ok _ ⟨_, _, _⟩ _ k_out) rfl ?_
     rintro _ rfl
     refine Y_pick ?_
     refine XD_end ?_
     refine K_then ?_
     refine C_cond rfl (fun hc14 => ?_) (fun hc14 => ?_)
     ·replace hc14 := dT hc14
      simp only [PeerV.eta, TableV.eta, RouteV.eta] at hc14
      refine C_exit ?_
      refine K_exit ?_
      refine K_hit ?_
      refine K_then ?_
      refine C_region (l := [0, 1, 2]) rfl ?_
      refine Y_move ?_
      refine X_ari rfl rfl rfl rfl rfl (by exact wrap_in (by decide) (by omega)) rfl ?_
      refine Y_assign ?_
      refine XD_end ?_
      refine K_roundO (a' := [(5, _), (4, _)]) (k + 1) ([]) (.cons (k := 5) rfl (.cons (k := 4) rfl (.cons (k := 3) rfl (.cons (k := 2) rfl (.cons (k := 1) rfl (.nil)))))) hm2 (fun w hw => by first | exact hw | exact hw.c) ?_ ?_
      ·refine ⟨⟨out_a, out_c, out_l⟩, rfl, rfl, by omega, k_out, by simp only; omega, ?_⟩
       simp only
       rw [foldl_take (by omega : k < all.length), ← hI]; unfold knownStep; rw [if_pos (by exact .inr (.inr (by assumption)))]
      ·omega
     ·replace hc14 := dF hc14
      simp only [PeerV.eta, TableV.eta, RouteV.eta] at hc14
      refine C_skip ?_
      refine K_then ?_
      refine C_seq ?_
      refine C_region (l := [0]) rfl ?_
      refine Y_assign ?_
      refine XD_end ?_
      refine K_then ?_
      refine C_seq ?_
      refine C_region (l := [0]) rfl ?_
      refine Y_assign ?_
      refine XD_end ?_
      refine K_then ?_
      refine C_seq ?_
      refine C_block ?_
      refine Y_pk [8, 7, 46, 45, 44, 43, 42, 41, 40, 39, 38, 37, 36, 35, 34, 33, 32, 31, 30, 6, 29, 28, 27, 26, 23, 22, 21, 20, 5, 4, 3, 2, 1] ?_
      refine C_loopS (.succ .zero) (fun (i : Nat) z => z = [(8, .int .i64 (i : Int))] ∧ i ≤ out_l.length ∧ ∀ j (h : j < i) (h2 : j < out_l.length), out_l[j].addr < all[k].addr) (fun i => out_l.length - i) (0) (⟨rfl, by omega, by intro j hj; omega⟩) ?_
      rintro at9 _ ⟨rfl, hat, hJ⟩
      have k_tk := k_out.take at9 hat
      have k_dr := k_out.drop at9 hat
      iterate 2 refine C_seq ?_
      refine C_region_any (l := [0, 1, 2, 3, 4, 5, 6, 7, 8, 9, 10, 11, 12, 13]) #[0, 0, 2, 7, 15, 31, 31, 127, 255, 511, 31, 1055, 4095, 8191] _ rfl (by kernel_rfl) (by kernel_rfl) St.drawn (fun _ h => h) ?_
      iterate 2 refine Y_move ?_
      refine Y_len_sl F.elem26 ?_
      refine Y_cmp ?_
      refine Y_move ?_
      refine XD_part 51 rfl (fun hc15 => ?_) (fun hc15 => ?_)
      ·replace hc15 := dT hc15
       iterate 2 refine Y_move ?_
       refine X_indexAddr rfl rfl rfl rfl F.elem26 (by rfl) (by omega) (by exact SlM.plain (by assumption) (by (simp; omega))) rfl ?_
       refine X_fieldAddr_el rfl rfl rfl (by exact SlM.plain (by assumption) (by (simp; omega))) F.foff25_0 rfl ?_
       refine X_load_el rfl rfl rfl (by assumption) (by exact row_map (by (simp; omega))) F.lay3 rfl rfl rfl ?_
       refine Y_fieldAddr F.foff25_0 ?_
       refine Y_load F.lay3 ?_
       refine Y_cmp ?_
       refine Y_pick ?_
       refine XD_end ?_
       refine K_then ?_
       refine C_cond rfl (fun hc16 => ?_) (fun hc16 => ?_)
       ·replace hc16 := dT hc16
        simp only [PeerV.eta, TableV.eta, RouteV.eta] at hc16
        refine C_skip ?_
        refine K_then ?_
        refine C_block ?_
        refine C_region (l := [0, 1, 2]) rfl ?_
        refine Y_move ?_
        refine X_ari rfl rfl rfl rfl rfl (by exact wrap_in (by decide) (by omega)) rfl ?_
        refine Y_assign ?_
        refine XD_end ?_
        refine K_out ?_
        refine K_roundS (a' := [(8, _)]) (at9 + 1) (.cons (k := 8) rfl (.cons (k := 7) rfl (.cons (k := 46) rfl (.cons (k := 45) rfl (.cons (k := 44) rfl (.cons (k := 43) rfl (.cons (k := 42) rfl (.cons (k := 41) rfl (.cons (k := 40) rfl (.cons (k := 39) rfl (.cons (k := 38) rfl (.cons (k := 37) rfl (.cons (k := 36) rfl (.cons (k := 35) rfl (.cons (k := 34) rfl (.cons (k := 33) rfl (.cons (k := 32) rfl (.cons (k := 31) rfl (.cons (k := 30) rfl (.cons (k := 6) rfl (.cons (k := 29) rfl (.cons (k := 28) rfl (.cons (k := 27) rfl (.cons (k := 26) rfl (.cons (k := 23) rfl (.cons (k := 22) rfl (.cons (k := 21) rfl (.cons (k := 20) rfl (.cons (k := 5) rfl (.cons (k := 4) rfl (.cons (k := 3) rfl (.cons (k := 2) rfl (.cons (k := 1) rfl (.nil)))))))))))))))))))))))))))))))))) (fun w hw => by first | exact hw | exact hw.c) ?_ ?_
        ·exact ⟨rfl, by omega, fun j hj hj2 => by rcases Nat.lt_or_ge j at9 with h9 | h9; exact hJ j h9 hj2; obtain rfl : j = at9 := (by omega); assumption⟩
        ·omega
       ·replace hc16 := dF hc16
        simp only [PeerV.eta, TableV.eta, RouteV.eta] at hc16
        refine C_exit ?_
        iterate 2 refine K_exit ?_
        refine K_hit ?_
        refine K_then ?_
        refine C_seq ?_
        refine C_region (l := [0, 1, 2, 3, 4, 5]) rfl ?_
        iterate 3 refine Y_move ?_
        refine X_slice rfl rfl rfl .none (.some (k := at9) rfl rfl) .none F.elem26 (by simp only [Option.getD_none]; omega) (by simp only [Option.getD_some, Option.getD_none]; omega) (by simp only [Option.getD_some, Option.getD_none]; omega) (by simp) (pieceV_take (l := out_l) (k := at9) (by omega)) rfl ?_
        refine X_appendK (m := 1000000) rfl rfl rfl rfl rfl F.elem26 F.zero25 (by exact agg_size rfl) rfl (by exact OSl.nil) (by repeat first | exact Rem.here _ | exact Rem.two | apply Rem.skip | apply Rem.over) (k_tk.h1) PeerV.flat (by (simp; omega)) (by decide) rfl ?_; intro v19 hs18 ho17; obtain ⟨adv19, cpv19, rfl⟩ := ho17.valAt (n := at9) (by (simp; omega))
        refine Y_assign ?_
        refine XD_end ?_
        refine K_then ?_
        refine C_seq ?_
        refine C_region (l := [0, 1, 2, 3, 4]) rfl ?_
        refine Y_move ?_
        refine Y_load F.lay25 ?_
        refine X_buildSliceF rfl rfl F.elem26 F.zero25 rfl rfl (.cons rfl (by constructor) .nil) rfl rfl (by simp only [List.map_cons, List.map_nil] <;> rfl) rfl ?_; intro b20 hob21
        refine X_append (m := 1000000) rfl rfl rfl rfl rfl F.elem26 F.zero25 (by exact agg_size rfl) rfl (by assumption) (by repeat first | exact Rem.here _ | exact Rem.two | apply Rem.skip | apply Rem.over) (Src.own hob21.lens (by (refine rows_one1 ?_; (repeat (first | exact flat_nil | refine flat_id ?_ | (refine flat_one ?_ ?_; rfl))); done)) rfl (by repeat first | exact List.Mem.head _ | refine List.Mem.tail _ ?_ | refine List.mem_append_right _ ?_)) (by (simp; omega)) (by decide) rfl ?_; intro v24 hs23 ho22; obtain ⟨adv24, cpv24, rfl⟩ := ho22.valAt (n := at9 + 1) (by (simp; omega))
        refine Y_assign ?_
        refine XD_end ?_
        refine K_then ?_
        refine C_seq ?_
        refine C_region (l := [0, 1, 2, 3, 4, 5]) rfl ?_
        iterate 3 refine Y_move ?_
        refine X_slice rfl rfl rfl (.some (k := at9) rfl rfl) .none .none F.elem26 (by simp only [Option.getD_none]; omega) (by simp only [Option.getD_some, Option.getD_none]; omega) (by simp only [Option.getD_some, Option.getD_none]; omega) (by simp) (pieceV_drop (l := out_l) (k := at9)) rfl ?_
        refine X_appendK (m := 1000000) rfl rfl rfl rfl rfl F.elem26 F.zero25 (by exact agg_size rfl) rfl (by assumption) (by repeat first | exact Rem.here _ | exact Rem.two | apply Rem.skip | apply Rem.over) (k_dr.h1) PeerV.flat (by (simp; omega)) (by decide) rfl ?_; intro v27 hs26 ho25; obtain ⟨adv27, cpv27, rfl⟩ := ho25.valAt (n := out_l.length + 1) (by (simp; omega))
        have hnew : out_l.take at9 ++ all[k] :: out_l.drop at9 = insP all[k] out_l := insP_at hat hJ (by intro h9; first | assumption | omega)
        have nnew : out_l.length + 1 = (out_l.length + 1 : Nat) := rfl
        have ho_ : OSl 25 21 (.slice adv27 (out_l.length + 1) cpv27) hs26 ((insP all[k] out_l).map PeerV.segs) := by rw [← hnew]; have h9 := ho25; simp only [List.map_cons, List.map_append, List.cons_append, List.nil_append, List.append_assoc, List.map_take, List.map_drop] at h9 ⊢; exact h9
        refine Y_assign ?_
        refine XD_end ?_
        refine K_then ?_
        refine C_region (l := [0, 1]) rfl ?_
        refine Y_move ?_
        refine Y_assign ?_
        refine XD_end ?_
        refine K_out ?_
        refine K_then ?_
        refine C_region (l := [0, 1, 2]) rfl ?_
        refine Y_move ?_
        refine X_ari rfl rfl rfl rfl rfl (by exact wrap_in (by decide) (by omega)) rfl ?_
        refine Y_assign ?_
        refine XD_end ?_
        refine K_frz (l := insP all[k] out_l) ho_ (by repeat first | exact Rem.here _ | exact Rem.two | apply Rem.skip | apply Rem.over) (fun M4 hm4 k_new => ?_)
        refine K_roundO (a' := [(5, _), (4, _)]) (k + 1) ([]) (.cons (k := 5) rfl (.cons (k := 4) rfl (.cons (k := 3) rfl (.cons (k := 2) rfl (.cons (k := 1) rfl (.nil)))))) (hm2.trans hm4) (fun w hw => by first | exact hw | exact hw.c) ?_ ?_
        ·refine ⟨⟨adv27, cpv27, insP all[k] out_l⟩, rfl, ?_, by omega, k_new, by simp only [insP_len]; omega, ?_⟩
         ·simp only [Sl.val, insP_len]; rfl
         ·rw [foldl_take (by omega : k < all.length), ← hI]; unfold knownStep; rw [if_neg (by rintro (g1 | g1 | g1); exact absurd g1 (by assumption); exact absurd g1 (by assumption); exact absurd g1 (by assumption))]
        ·omega
      ·replace hc15 := dF hc15
       iterate 8 refine Y_skip ?_
       refine Y_pick ?_
       refine XD_end ?_
       refine K_then ?_
       refine C_false rfl ?_
       refine C_exit ?_
       iterate 2 refine K_exit ?_
       refine K_hit ?_
       refine K_then ?_
       refine C_seq ?_
       refine C_region (l := [0, 1, 2, 3, 4, 5]) rfl ?_
       iterate 3 refine Y_move ?_
       refine X_slice rfl rfl rfl .none (.some (k := at9) rfl rfl) .none F.elem26 (by simp only [Option.getD_none]; omega) (by simp only [Option.getD_some, Option.getD_none]; omega) (by simp only [Option.getD_some, Option.getD_none]; omega) (by simp) (pieceV_take (l := out_l) (k := at9) (by omega)) rfl ?_
       refine X_appendK (m := 1000000) rfl rfl rfl rfl rfl F.elem26 F.zero25 (by exact agg_size rfl) rfl (by exact OSl.nil) (by repeat first | exact Rem.here _ | exact Rem.two | apply Rem.skip | apply Rem.over) (k_tk.h1) PeerV.flat (by (simp; omega)) (by decide) rfl ?_; intro v30 hs29 ho28; obtain ⟨adv30, cpv30, rfl⟩ := ho28.valAt (n := at9) (by (simp; omega))
       refine Y_assign ?_
       refine XD_end ?_
       refine K_then ?_
       refine C_seq ?_
       refine C_region (l := [0, 1, 2, 3, 4]) rfl ?_
       refine Y_move ?_
       refine Y_load F.lay25 ?_
       refine X_buildSliceF rfl rfl F.elem26 F.zero25 rfl rfl (.cons rfl (by constructor) .nil) rfl rfl (by simp only [List.map_cons, List.map_nil] <;> rfl) rfl ?_; intro b31 hob32
       refine X_append (m := 1000000) rfl rfl rfl rfl rfl F.elem26 F.zero25 (by exact agg_size rfl) rfl (by assumption) (by repeat first | exact Rem.here _ | exact Rem.two | apply Rem.skip | apply Rem.over) (Src.own hob32.lens (by (refine rows_one1 ?_; (repeat (first | exact flat_nil | refine flat_id ?_ | (refine flat_one ?_ ?_; rfl))); done)) rfl (by repeat first | exact List.Mem.head _ | refine List.Mem.tail _ ?_ | refine List.mem_append_right _ ?_)) (by (simp; omega)) (by decide) rfl ?_; intro v35 hs34 ho33; obtain ⟨adv35, cpv35, rfl⟩ := ho33.valAt (n := at9 + 1) (by (simp; omega))
       refine Y_assign ?_
       refine XD_end ?_
       refine K_then ?_
       refine C_seq ?_
       refine C_region (l := [0, 1, 2, 3, 4, 5]) rfl ?_
       iterate 3 refine Y_move ?_
       refine X_slice rfl rfl rfl (.some (k := at9) rfl rfl) .none .none F.elem26 (by simp only [Option.getD_none]; omega) (by simp only [Option.getD_some, Option.getD_none]; omega) (by simp only [Option.getD_some, Option.getD_none]; omega) (by simp) (pieceV_drop (l := out_l) (k := at9)) rfl ?_
       refine X_appendK (m := 1000000) rfl rfl rfl rfl rfl F.elem26 F.zero25 (by exact agg_size rfl) rfl (by assumption) (by repeat first | exact Rem.here _ | exact Rem.two | apply Rem.skip | apply Rem.over) (k_dr.h1) PeerV.flat (by (simp; omega)) (by decide) rfl ?_; intro v38 hs37 ho36; obtain ⟨adv38, cpv38, rfl⟩ := ho36.valAt (n := out_l.length + 1) (by (simp; omega))
       have hnew : out_l.take at9 ++ all[k] :: out_l.drop at9 = insP all[k] out_l := insP_at hat hJ (by intro h9; first | assumption | omega)
       have nnew : out_l.length + 1 = (out_l.length + 1 : Nat) := rfl
       have ho_ : OSl 25 21 (.slice adv38 (out_l.length + 1) cpv38) hs37 ((insP all[k] out_l).map PeerV.segs) := by rw [← hnew]; have h9 := ho36; simp only [List.map_cons, List.map_append, List.cons_append, List.nil_append, List.append_assoc, List.map_take, List.map_drop] at h9 ⊢; exact h9
       refine Y_assign ?_
       refine XD_end ?_
       refine K_then ?_
       refine C_region (l := [0, 1]) rfl ?_
       refine Y_move ?_
       refine Y_assign ?_
       refine XD_end ?_
       refine K_out ?_
       refine K_then ?_
       refine C_region (l := [0, 1, 2]) rfl ?_
       refine Y_move ?_
       refine X_ari rfl rfl rfl rfl rfl (by exact wrap_in (by decide) (by omega)) rfl ?_
       refine Y_assign ?_
       refine XD_end ?_
       refine K_frz (l := insP all[k] out_l) ho_ (by repeat first | exact Rem.here _ | exact Rem.two | apply Rem.skip | apply Rem.over) (fun M4 hm4 k_new => ?_)
       refine K_roundO (a' := [(5, _), (4, _)]) (k + 1) ([]) (.cons (k := 5) rfl (.cons (k := 4) rfl (.cons (k := 3) rfl (.cons (k := 2) rfl (.cons (k := 1) rfl (.nil)))))) (hm2.trans hm4) (fun w hw => by first | exact hw | exact hw.c) ?_ ?_
       ·refine ⟨⟨adv38, cpv38, insP all[k] out_l⟩, rfl, ?_, by omega, k_new, by simp only [insP_len]; omega, ?_⟩
        ·simp only [Sl.val, insP_len]; rfl
        ·rw [foldl_take (by omega : k < all.length), ← hI]; unfold knownStep; rw [if_neg (by rintro (g1 | g1 | g1); exact absurd g1 (by assumption); exact absurd g1 (by assumption); exact absurd g1 (by assumption))]
       ·omega
  ·replace hc10 := dF hc10
   refine C_exit ?_
   iterate 2 refine K_exit ?_
   refine K_hit ?_
   refine K_then ?_
   refine Y_pk [4, 2] ?_
   refine C_seq ?_
   refine C_region (l := [0, 1]) rfl ?_
   refine Y_move ?_
   refine Y_assign ?_
   refine XD_end ?_
   refine K_then ?_
   refine Y_pk [2] ?_
   refine C_ret ?_
   refine K_end (.inr rfl) (.tmp rfl .nil) (fun w hw => ?_)
   obtain rfl : k = all.length := by omega
   rw [List.take_length] at hI
   exact ⟨_, M2, rfl, hm1.trans hm2, hw.c, ⟨_, _, _⟩, rfl, by simp only [hI]; rw [hall]; rfl, k_out⟩

end Go.Proofs.Ytbjklbmmchiahaa
/-
  Who is known: those met, sorted.
-/
set_option linter.unusedSimpArgs false
set_option linter.unusedVariables false
set_option linter.unnecessarySimpa false
namespace Go.Esp

def cmp3 (x y : Int) : Int := if x < y then -1 else if y < x then 1 else 0
/-- One more is met. -/
def collStep (s : PeerV) (acc : List PeerV) (p : PeerV) : List PeerV := if 0 ≤ p.addr ∧ p.addr ≠ s.addr ∧ ¬ hasA acc p.addr then acc ++ [p] else acc
def metT (t : Tb) : List PeerV := (t.pred :: (t.succ ++ t.fingers)).foldl (collStep t.self) []
theorem insP_perm {p : PeerV} : ∀ {l : List PeerV}, (insP p l).Perm (p :: l)
  | [] => .refl _
  | q :: l => by
    unfold insP
    split
    · exact (insP_perm.cons q).trans (.swap _ _ _)
    · exact .refl _
theorem insP_sorted {p : PeerV} : ∀ {l : List PeerV}, l.Pairwise (fun a b => a.addr < b.addr) → ¬ hasA l p.addr → (insP p l).Pairwise (fun a b => a.addr < b.addr)
  | [], _, _ => List.pairwise_singleton _ _
  | q :: l, h, hn => by
    obtain ⟨h1, h2⟩ := List.pairwise_cons.1 h
    have hq : p.addr ≠ q.addr := fun e => hn (by unfold hasA; rw [List.map_cons, e]; exact .head _)
    have hl : ¬ hasA l p.addr := fun e => hn (by unfold hasA at *; rw [List.map_cons]; exact .tail _ e)
    unfold insP
    split
    · rename_i hlt
      refine List.pairwise_cons.2 ⟨fun a ha => ?_, insP_sorted h2 hl⟩
      rcases List.mem_cons.1 (insP_perm.mem_iff.1 ha) with rfl | ha
      · exact hlt
      · exact h1 a ha
    · rename_i hge
      refine List.pairwise_cons.2 ⟨fun a ha => ?_, h⟩
      rcases List.mem_cons.1 ha with rfl | ha
      · omega
      · have := h1 a ha; omega
theorem hasA_perm {l l' : List PeerV} (h : l.Perm l') {a : Int} : hasA l a ↔ hasA l' a := (h.map PeerV.addr).mem_iff
theorem known_met {s : PeerV} : ∀ {xs out acc : List PeerV}, out.Perm acc → out.Pairwise (fun a b => a.addr < b.addr) →
    (xs.foldl (knownStep s) out).Perm (xs.foldl (collStep s) acc) ∧ (xs.foldl (knownStep s) out).Pairwise (fun a b => a.addr < b.addr)
  | [], out, acc, h1, h2 => ⟨h1, h2⟩
  | p :: xs, out, acc, h1, h2 => by
    rw [List.foldl_cons, List.foldl_cons]
    unfold knownStep collStep
    by_cases hc : p.addr < 0 ∨ p.addr = s.addr ∨ hasA out p.addr
    · rw [if_pos hc, if_neg (by rintro ⟨g1, g2, g3⟩; rcases hc with hc | hc | hc; omega; exact g2 hc; exact g3 ((hasA_perm h1).1 hc))]
      exact known_met h1 h2
    · rw [if_neg hc, if_pos ⟨by have : ¬ p.addr < 0 := fun h => hc (.inl h); omega, fun h => hc (.inr (.inl h)), fun h => hc (.inr (.inr ((hasA_perm h1).2 h)))⟩]
      exact known_met (insP_perm.trans ((h1.cons p).trans (List.perm_append_singleton p acc).symm)) (insP_sorted h2 fun h => hc (.inr (.inr h)))
/-- Two rows with the same peers, each rising. -/
theorem sorted_one : ∀ {l l' : List PeerV}, l.Perm l' → l.Pairwise (fun a b => a.addr < b.addr) → l'.Pairwise (fun a b => a.addr ≤ b.addr) → l = l'
  | [], l', h, _, _ => (h.symm.eq_nil).symm
  | a :: l, [], h, _, _ => (h.eq_nil)
  | a :: l, b :: l', h, h1, h2 => by
    obtain ⟨g1, g2⟩ := List.pairwise_cons.1 h1
    obtain ⟨g3, g4⟩ := List.pairwise_cons.1 h2
    have hab : a = b := by
      rcases List.mem_cons.1 (h.mem_iff.1 (.head _) : a ∈ b :: l') with e | e
      · exact e
      · rcases List.mem_cons.1 (h.mem_iff.2 (.head _) : b ∈ a :: l) with e2 | e2
        · exact e2.symm
        · have := g1 b e2; have := g3 a e; omega
    subst hab
    rw [sorted_one (h.cons_inv) g2 g4]
theorem known_is {t : Tb} {l : List PeerV} (h1 : l.Perm (metT t)) (h2 : l.Pairwise (fun a b => a.addr ≤ b.addr)) : l = knownT t := by
  have h := known_met (s := t.self) (xs := t.pred :: (t.succ ++ t.fingers)) (List.Perm.refl []) List.Pairwise.nil
  exact (sorted_one (h.1.trans h1.symm) h.2 h2).symm
theorem met_step {s p : PeerV} {xs : List PeerV} {acc : List PeerV} (h : acc = xs.foldl (collStep s) []) : (xs ++ [p]).foldl (collStep s) [] = collStep s acc p := by
  rw [List.foldl_append, ← h]; rfl
theorem flat_at {rows : List (Sl PeerV)} {i k : Nat} {a : Option Addr} {c : Nat} {l : List PeerV} (hi : i < rows.length) (hr : rows[i] = ⟨a, c, l⟩) (hk : k < l.length) :
    (rows.map Sl.l).flatten = (((rows.take i).map Sl.l).flatten ++ l.take k) ++ l[k] :: (l.drop (k + 1) ++ ((rows.drop (i + 1)).map Sl.l).flatten) := by
  conv => lhs; rw [← List.take_append_drop i rows, List.drop_eq_getElem_cons hi, hr]
  simp only [List.map_append, List.flatten_append, List.map_cons, List.flatten_cons]
  conv => lhs; rw [← List.take_append_drop k l, List.drop_eq_getElem_cons hk]
  simp only [List.append_assoc, List.cons_append]
theorem flat_next {rows : List (Sl PeerV)} {i : Nat} {a : Option Addr} {c : Nat} {l : List PeerV} (hi : i < rows.length) (hr : rows[i] = ⟨a, c, l⟩) : ((rows.take (i + 1)).map Sl.l).flatten = ((rows.take i).map Sl.l).flatten ++ l := by
  rw [List.take_add_one, List.getElem?_eq_getElem hi, hr]
  simp
theorem flat_rest {rows : List (Sl PeerV)} {i k : Nat} {a : Option Addr} {c : Nat} {l : List PeerV} (hi : i < rows.length) (hr : rows[i] = ⟨a, c, l⟩) (hk : k < l.length) :
    (rows.map Sl.l).flatten = ((((rows.take i).map Sl.l).flatten ++ l.take k) ++ [l[k]]) ++ (l.drop (k + 1) ++ ((rows.drop (i + 1)).map Sl.l).flatten) := by
  rw [flat_at hi hr hk, List.append_assoc _ [l[k]]]; rfl
/-! Which one is nearer. -/
theorem sub_shift (p b s : Plc) : (p + s) - (b + s) = p - b := by
  apply BitVec.eq_of_toNat_eq
  have h1 := p.isLt; have h2 := b.isLt; have h3 := s.isLt
  simp only [BitVec.toNat_sub, BitVec.toNat_add]
  omega
theorem open_less {s b p i : Plc} (h1 : OpenP s b i) (h2 : OpenP s p i) : OpenP b p i ↔ LessP (b - s) (p - s) := by
  obtain ⟨B, rfl⟩ : ∃ B, b = B + s := ⟨b - s, (BitVec.sub_add_cancel b s).symm⟩
  obtain ⟨Q, rfl⟩ : ∃ Q, p = Q + s := ⟨p - s, (BitVec.sub_add_cancel p s).symm⟩
  obtain ⟨I, rfl⟩ : ∃ I, i = I + s := ⟨i - s, (BitVec.sub_add_cancel i s).symm⟩
  unfold OpenP LessP at *
  simp only [sub_shift, BitVec.add_sub_cancel] at *
  have e : ∀ x y : Plc, (x + s = y + s) ↔ x = y := fun x y => ⟨fun h => by have := congrArg (· - s) h; simpa [BitVec.add_sub_cancel] using this, fun h => by rw [h]⟩
  have e0 : ∀ x : Plc, (x + s = s) ↔ x = 0 := fun x => by have := e x 0; simpa using this
  have e1 : ∀ x : Plc, (s = x + s) ↔ x = 0 := fun x => by rw [eq_comm, e0]
  simp only [ne_eq, e, e0, e1] at *
  have q1 := B.isLt; have q2 := Q.isLt; have q3 := I.isLt
  have z : ∀ x : Plc, x = 0 ↔ x.toNat = 0 := fun x => ⟨fun h => by rw [h]; rfl, fun h => BitVec.eq_of_toNat_eq h⟩
  have n : ∀ x y : Plc, x = y ↔ x.toNat = y.toNat := fun x y => ⟨fun h => by rw [h], fun h => BitVec.eq_of_toNat_eq h⟩
  simp only [z, n, BitVec.toNat_sub] at *
  omega
end Go.Esp
/-
  Rows, one behind the other; what compares.
-/
set_option linter.unusedSimpArgs false
set_option linter.unusedVariables false
set_option linter.unnecessarySimpa false
set_option maxRecDepth 8000
set_option maxHeartbeats 1000000
namespace Go.Proofs.Ytbjklbmmchiahaa
open Go.Esp
theorem F.elem117 : slOf Try.prog 117 = some (26, 1, 24) := by kernel_rfl
theorem F.lay117 : lay Try.prog 117 = some (false, 1) := by kernel_rfl
theorem F.ok107 : okFn Try.prog 107 = true := by kernel_rfl
theorem F.ok85 : okFn Try.prog 85 = true := by kernel_rfl

theorem all_ok (M : Mem) (b : Nat) (hs12 hs7 : Hp) (v7 : Value) (p : PeerV) (a2 : Option Addr) (c2 : Nat) (l2 : List PeerV) (a3 : Option Addr) (c3 : Nat) (l3 : List PeerV) (ho12 : OSl 26 1 (.slice (some ⟨b, 0, none⟩) 3 3) hs12 [[.one v7], [.one (Sl.val ⟨a2, c2, l2⟩)], [.one (Sl.val ⟨a3, c3, l3⟩)]]) (ho7 : OSl 25 21 v7 hs7 ([p].map PeerV.segs)) (k2 : SlK M PeerV.segs 21 ⟨a2, c2, l2⟩) (k3 : SlK M PeerV.segs 21 ⟨a3, c3, l3⟩) : Fh Try.prog 82 [.slice (some ⟨b, 0, none⟩) 3 3] M (hs12 ++ hs7) (fun M' v Hout => Hout = [] ∧ ∃ (q1 c : Nat) (ad : Option Addr) (rows : List (Sl PeerV)), v = .func (.func 104) #[] #[.pointer (some ⟨q1, 0, none⟩)] ∧ M' q1 = some (rowO [.one (.slice ad rows.length c)] 117) ∧ SlM M' ad (rows.map (fun s => [.one s.val])) 1 ∧ rows.length = 3 ∧ (∀ s ∈ rows, SlK M' PeerV.segs 21 s) ∧ (rows.map Sl.l).flatten = p :: (l2 ++ l3)) := by
  refine fh_enterF (fun H => hs12 ++ (hs7 ++ H)) (fun _ => (List.append_assoc _ _ _)) Try.func82 rfl Try.ntmps82 rfl ?_; intro H
  refine C_seq ?_
  refine C_region (l := [0, 1]) rfl ?_
  refine Y_box ?_; intro b1
  refine Y_assign ?_
  refine XD_end ?_
  refine K_then ?_
  refine Y_pk [2, 1] ?_
  refine C_seq ?_
  refine C_region (l := [0, 1]) rfl ?_
  refine X_makeFunc rfl rfl rfl rfl rfl ?_
  refine Y_assign ?_
  refine XD_end ?_
  refine K_then ?_
  refine Y_pk [2] ?_
  refine C_ret ?_
  refine K_end (.inr rfl) (.tmp rfl .nil) (fun w hw => ?_)
  obtain ⟨g1, g2⟩ := hw.freeze
  obtain ⟨M7, ad7, cp7, e1, e2, e3, e4⟩ := ho12.freeze g2
  obtain ⟨M8, s7, d1, d2, d3, d4, d5⟩ := OSl.freezeK (f := PeerV.segs) (l := [p]) (H := H) ho7 e2
  simp only [Value.slice.injEq, List.length_cons, List.length_nil] at e3
  obtain ⟨rfl, _, rfl⟩ := e3
  have hle := g1.trans (e1.trans d1)
  refine ⟨_, M8, [], rfl, hle, d2, rfl, _, 3, _, [s7, ⟨a2, c2, l2⟩, ⟨a3, c3, l3⟩], rfl, Mem.get_of (Mem.add_self _ _ _) (e1.trans d1), ?_, rfl, ?_, ?_⟩
  ·have e5 := e4.mono d1; rw [d3] at e5; exact e5
  ·intro s hs; simp only [List.mem_cons, List.not_mem_nil, or_false] at hs; rcases hs with rfl | rfl | rfl; exact d5; exact k2.mono hle; exact k3.mono hle
  ·simp [d4]

theorem all_seq (M : Mem) (q1 c : Nat) (ad : Option Addr) (rows : List (Sl PeerV)) (h1 : M q1 = some (rowO [.one (.slice ad rows.length c)] 117)) (h2 : SlM M ad (rows.map (fun s => [.one s.val])) 1) (hn : rows.length = 3) (h3 : ∀ s ∈ rows, SlK M PeerV.segs 21 s) : Seqs Try.prog 104 [.pointer (some ⟨q1, 0, none⟩)] (fun p : PeerV => [p.enc]) (rows.map Sl.l).flatten M [] := by
  intro lp J Jx hR M0 Jb G w hm0 hJ hw
  have nrows : (rows.map (fun s : Sl PeerV => [Seg.one s.val])).length = rows.length := List.length_map ..
  refine enter (S := St M0 (Jb ++ G)) Try.func104 rfl Try.ntmps104 rfl hw ?_
  refine C_seq ?_
  refine C_region (l := [0, 1, 2]) rfl ?_
  refine X_load_mem rfl rfl rfl (by exact Mem.get_of (by assumption) (by repeat first | assumption | refine Mem.le.trans (by assumption) ?_)) F.lay117 rfl rfl rfl ?_
  refine Y_len_sl F.elem117 ?_
  refine Y_move ?_
  refine XD_end ?_
  refine K_then ?_
  refine Y_pk [9, 8, 7, 0] ?_
  refine C_block ?_
  refine Y_pk [9, 8, 7, 0] ?_
  refine C_loopO (Hin := Jb) (.succ .zero) (by repeat first | exact Rem.here _ | exact Rem.two | apply Rem.skip | apply Rem.over) (fun (i : Nat) M9 h1 z => z = [(9, .int .i64 (i : Int))] ∧ i ≤ rows.length ∧ J ((rows.take i).map Sl.l).flatten M9 h1) (fun i => rows.length - i) (0) (⟨rfl, by omega, hJ⟩) ?_
  rintro i M1 h1 z hm1 ⟨rfl, hi, hJ1⟩
  have h2b := h2.mono (hm0.trans hm1)
  refine C_seq ?_
  refine C_region (l := [0]) rfl ?_
  refine Y_cmp ?_
  refine XD_end ?_
  refine K_then ?_
  refine C_seq ?_
  refine C_cond rfl (fun hc1 => ?_) (fun hc1 => ?_)
  ·replace hc1 := dT hc1
   refine C_skip ?_
   refine K_then ?_
   refine C_seq ?_
   refine C_block ?_
   refine C_seq ?_
   have hi2 : i < rows.length := by omega
   obtain ⟨⟨r_a, r_c, r_l⟩, hr⟩ : ∃ s, rows[i] = s := ⟨_, rfl⟩
   have k_r : SlK M1 PeerV.segs 21 ⟨r_a, r_c, r_l⟩ := hr ▸ (h3 rows[i] (List.getElem_mem hi2)).mono (hm0.trans hm1)
   have s_r := k_r.h1
   have n_r : (r_l.map PeerV.segs).length = r_l.length := List.length_map ..
   have m_r : r_l.length ≤ 9223372036854775807 := k_r.h2
   simp only at s_r
   refine C_region (l := [0, 1, 2]) rfl ?_
   refine X_indexAddr rfl rfl rfl rfl F.elem117 (by rfl) (by omega) (by exact SlM.plain (by assumption) (by (simp; omega))) rfl ?_
   refine X_load_el rfl rfl rfl (by assumption) (by exact row_map (by omega)) F.lay26 rfl rfl rfl ?_
   rw [hr]
   refine Y_assign ?_
   refine XD_end ?_
   refine K_then ?_
   refine C_seq ?_
   refine C_region (l := [0, 1, 2]) rfl ?_
   refine Y_move ?_
   refine Y_len_sl F.elem26 ?_
   refine Y_move ?_
   refine XD_end ?_
   refine K_then ?_
   refine C_block ?_
   refine Y_pk [15, 14, 13, 4, 12, 11, 10, 9, 8, 7, 0] ?_
   refine C_loopO (Hin := h1) (.succ .zero) (by repeat first | exact Rem.here _ | exact Rem.two | apply Rem.skip | apply Rem.over) (fun (k : Nat) M9 h1 z => z = [(15, .int .i64 (k : Int))] ∧ k ≤ r_l.length ∧ J (((rows.take i).map Sl.l).flatten ++ r_l.take k) M9 h1) (fun k => r_l.length - k) (0) (⟨rfl, by omega, by rw [List.take_zero, List.append_nil]; exact hJ1⟩) ?_
   rintro k M2 h2 z hm2 ⟨rfl, hk, hJ2⟩
   have s_r2 := s_r.mono hm2
   refine C_seq ?_
   refine C_region (l := [0]) rfl ?_
   refine Y_cmp ?_
   refine XD_end ?_
   refine K_then ?_
   refine C_seq ?_
   refine C_cond rfl (fun hc2 => ?_) (fun hc2 => ?_)
   ·replace hc2 := dT hc2
    refine C_skip ?_
    refine K_then ?_
    refine C_seq ?_
    refine C_block ?_
    refine C_seq ?_
    refine C_region (l := [0, 1, 2, 3]) rfl ?_
    refine X_indexAddr rfl rfl rfl rfl F.elem26 (by rfl) (by omega) (by exact SlM.plain (by assumption) (by (simp; omega))) rfl ?_
    refine X_load_el rfl rfl rfl (by assumption) (by exact row_map (by omega)) F.lay25 rfl rfl rfl ?_
    refine Y_alloc F.zero25 ?_; intro b3
    refine Y_store F.lay25 ?_
    refine XD_end ?_
    refine K_then ?_
    refine C_seq ?_
    refine C_regionR (l := [0, 1, 2, 3]) (Hin := h2) (by repeat first | exact Rem.here _ | exact Rem.two | apply Rem.skip | apply Rem.over) rfl ?_
    refine Y_move ?_
    refine Y_load F.lay25 ?_
    refine X_yield (x := r_l[k]) (pre := ((rows.take i).map Sl.l).flatten ++ r_l.take k) (post := r_l.drop (k + 1) ++ ((rows.drop (i + 1)).map Sl.l).flatten) (Hb := h2) rfl rfl rfl rfl rfl hR (flat_at hi2 hr (by omega)) (hm0.trans (hm1.trans hm2)) hJ2 (by repeat first | exact Rem.here _ | exact Rem.two | apply Rem.skip | apply Rem.over) rfl (fun _ _ _ hm hw => (hw.lower hm).c) rfl ?_ ?_
    ·intro M3 Jb3 hm3 hJ3
     refine Y_not ?_
     refine XD_end ?_
     refine K_then ?_
     refine C_false rfl ?_
     refine C_skip ?_
     refine K_out ?_
     refine K_then ?_
     refine C_region (l := [0, 1]) rfl ?_
     refine X_ari rfl rfl rfl rfl rfl (by exact wrap_in (by decide) (by omega)) rfl ?_
     refine Y_move ?_
     refine XD_end ?_
     refine K_roundO (a' := [(15, _)]) (k + 1) (Jb3) (.cons (k := 15) rfl (.cons (k := 14) rfl (.cons (k := 13) rfl (.cons (k := 4) rfl (.cons (k := 12) rfl (.cons (k := 11) rfl (.cons (k := 10) rfl (.cons (k := 9) rfl (.cons (k := 8) rfl (.cons (k := 7) rfl (.cons (k := 0) rfl (.nil)))))))))))) (hm2.trans hm3) (fun w hw => by first | exact hw | exact hw.c) ?_ ?_
     ·exact ⟨rfl, by omega, by rw [List.take_add_one, List.getElem?_eq_getElem (by omega : k < r_l.length), ← List.append_assoc]; exact hJ3⟩
     ·omega
    ·intro M3 Jb3 hm3 hJ3
     refine Y_not ?_
     refine XD_end ?_
     refine K_then ?_
     refine C_true rfl ?_
     refine C_ret ?_
     refine K_retB ?_
     iterate 2 refine K_ret ?_
     iterate 2 refine K_retB ?_
     iterate 2 refine K_ret ?_
     refine K_retB ?_
     refine K_end (.inr rfl) (.nil) (fun w hw => ?_)
     exact ⟨_, M3, Jb3, rfl, hm1.trans (hm2.trans hm3), hw.c, .inr ⟨_, _, flat_rest hi2 hr (by omega), hJ3⟩⟩
   ·replace hc2 := dF hc2
    refine C_exit ?_
    iterate 2 refine K_exit ?_
    refine K_hit ?_
    refine K_out ?_
    refine K_then ?_
    refine C_region (l := [0, 1]) rfl ?_
    refine X_ari rfl rfl rfl rfl rfl (by exact wrap_in (by decide) (by omega)) rfl ?_
    refine Y_move ?_
    refine XD_end ?_
    refine K_roundO (a' := [(9, _)]) (i + 1) (h2) (.cons (k := 9) rfl (.cons (k := 8) rfl (.cons (k := 7) rfl (.cons (k := 0) rfl (.nil))))) (hm1.trans hm2) (fun w hw => by first | exact hw | exact hw.c) ?_ ?_
    ·exact ⟨rfl, by omega, by obtain rfl : k = r_l.length := (by omega); rw [flat_next hi2 hr, ← List.take_length (l := r_l)]; exact hJ2⟩
    ·omega
  ·replace hc1 := dF hc1
   refine C_exit ?_
   iterate 2 refine K_exit ?_
   refine K_hit ?_
   refine K_end (.inl rfl) (.nil) (fun w hw => ?_)
   obtain rfl : i = rows.length := by omega
   exact ⟨_, M1, h1, rfl, hm1, hw.c, .inl (by rw [List.take_length] at hJ1; exact hJ1)⟩

theorem isNaN_ok (M : Mem) (x : Int) : Fs Try.prog 107 [.int .i64 x] M (fun v => v = Value.bool (decide (False))) := by
  refine fs_enter Try.func107 rfl Try.ntmps107 rfl ?_; intro H
  refine C_seq ?_
  refine C_region (l := [0]) rfl ?_
  refine Y_assign ?_
  refine XD_end ?_
  refine K_then ?_
  refine C_seq ?_
  refine C_region (l := [0, 1, 2, 3]) rfl ?_
  iterate 2 refine Y_move ?_
  refine Y_cmp ?_
  refine Y_assign ?_
  refine XD_end ?_
  refine K_then ?_
  refine Y_pk [2] ?_
  refine C_ret ?_
  refine K_end (.inr rfl) (.tmp rfl .nil) (fun w hw => ?_)
  refine ⟨_, rfl, (hw.c), ?_⟩
  clear hw
  refine congrArg Value.bool ?_
  simp

theorem Compare_ok (M : Mem) (x : Int) (y : Int) : Fs Try.prog 85 [.int .i64 x, .int .i64 y] M (fun v => v =  (.int .i64 (cmp3 x y))) := by
  refine fs_enter Try.func85 rfl Try.ntmps85 rfl ?_; intro H
  refine C_seq ?_
  refine C_region (l := [0]) rfl ?_
  refine Y_assign ?_
  refine XD_end ?_
  refine K_then ?_
  refine C_seq ?_
  refine C_region (l := [0, 1, 2]) rfl ?_
  refine Y_move ?_
  refine X_fs rfl rfl F.ok107 rfl (isNaN_ok _ _) rfl ?_
  rintro _ rfl
  refine Y_assign ?_
  refine XD_end ?_
  refine K_then ?_
  refine Y_pk [5, 4, 0, 1] ?_
  refine C_seq ?_
  refine C_region (l := [0, 1, 2]) rfl ?_
  refine Y_move ?_
  refine X_fs rfl rfl F.ok107 rfl (isNaN_ok _ _) rfl ?_
  rintro _ rfl
  refine Y_assign ?_
  refine XD_end ?_
  refine K_then ?_
  refine Y_pk [6, 5, 4, 0, 1] ?_
  iterate 2 refine C_seq ?_
  refine C_region (l := [0]) rfl ?_
  refine Y_move ?_
  refine XD_end ?_
  refine K_then ?_
  refine Y_pk [11, 6, 4, 0, 1] ?_
  refine C_cond rfl (fun hc1 => ?_) (fun hc1 => ?_)
  ·replace hc1 := dT hc1
   (exfalso; omega)
  ·replace hc1 := dF hc1
   refine C_skip ?_
   refine K_then ?_
   refine Y_pk [6, 4, 0, 1] ?_
   iterate 2 refine C_seq ?_
   refine C_region (l := [0]) rfl ?_
   refine Y_move ?_
   refine XD_end ?_
   refine K_then ?_
   refine Y_pk [13, 4, 0, 1] ?_
   refine C_cond rfl (fun hc2 => ?_) (fun hc2 => ?_)
   ·replace hc2 := dT hc2
    (exfalso; omega)
   ·replace hc2 := dF hc2
    refine C_skip ?_
    refine K_then ?_
    refine Y_pk [4, 0, 1] ?_
    iterate 2 refine C_seq ?_
    refine C_region (l := [0, 1, 2]) rfl ?_
    iterate 2 refine Y_move ?_
    refine Y_cmp ?_
    refine XD_end ?_
    refine K_then ?_
    refine Y_pk [16, 4, 0, 1] ?_
    refine C_cond rfl (fun hc3 => ?_) (fun hc3 => ?_)
    ·replace hc3 := dT hc3
     refine C_seq ?_
     refine C_region (l := [0]) rfl ?_
     refine Y_assign ?_
     refine XD_end ?_
     refine K_then ?_
     refine Y_pk [4, 0, 1] ?_
     refine C_ret ?_
     refine K_ret ?_
     refine K_end (.inr rfl) (.tmp rfl .nil) (fun w hw => ?_)
     refine ⟨_, rfl, (hw.c), ?_⟩
     clear hw
     refine congrArg (Value.int .i64) ?_
     unfold cmp3
     (rw [if_pos (by omega)]; done)
    ·replace hc3 := dF hc3
     refine C_skip ?_
     refine K_then ?_
     refine Y_pk [4, 0, 1] ?_
     iterate 2 refine C_seq ?_
     refine C_region (l := [0, 1, 2]) rfl ?_
     iterate 2 refine Y_move ?_
     refine Y_cmp ?_
     refine XD_end ?_
     refine K_then ?_
     refine Y_pk [19, 4] ?_
     refine C_cond rfl (fun hc4 => ?_) (fun hc4 => ?_)
     ·replace hc4 := dT hc4
      refine C_seq ?_
      refine C_region (l := [0]) rfl ?_
      refine Y_assign ?_
      refine XD_end ?_
      refine K_then ?_
      refine Y_pk [4] ?_
      refine C_ret ?_
      refine K_ret ?_
      refine K_end (.inr rfl) (.tmp rfl .nil) (fun w hw => ?_)
      refine ⟨_, rfl, (hw.c), ?_⟩
      clear hw
      refine congrArg (Value.int .i64) ?_
      unfold cmp3
      (rw [if_neg (by omega), if_pos (by omega)]; done)
     ·replace hc4 := dF hc4
      refine C_skip ?_
      refine K_then ?_
      refine Y_pk [4] ?_
      refine C_seq ?_
      refine C_region (l := [0]) rfl ?_
      refine Y_assign ?_
      refine XD_end ?_
      refine K_then ?_
      refine C_ret ?_
      refine K_end (.inr rfl) (.tmp rfl .nil) (fun w hw => ?_)
      refine ⟨_, rfl, (hw.c), ?_⟩
      clear hw
      refine congrArg (Value.int .i64) ?_
      unfold cmp3
      (rw [if_neg (by omega), if_neg (by omega)]; done)

theorem byAddr_ok (M : Mem) (x : PeerV) (y : PeerV) : Fs Try.prog 84 [x.enc, y.enc] M (fun v => v =  (.int .i64 (cmp3 x.addr y.addr))) := by
  obtain ⟨x_addr, x_id⟩ := x
  obtain ⟨y_addr, y_id⟩ := y
  refine fs_enter Try.func84 rfl Try.ntmps84 rfl ?_; intro H
  refine C_seq ?_
  refine C_region (l := [0, 1, 2]) rfl ?_
  refine Y_box ?_; intro b1
  refine Y_box ?_; intro b2
  refine Y_assign ?_
  refine XD_end ?_
  refine K_then ?_
  refine Y_pk [4, 3, 2] ?_
  refine C_seq ?_
  refine C_region (l := [0, 1, 2, 3, 4, 5]) rfl ?_
  refine Y_fieldAddr F.foff25_0 ?_
  refine Y_load F.lay3 ?_
  refine Y_fieldAddr F.foff25_0 ?_
  refine Y_load F.lay3 ?_
  refine X_fs rfl rfl F.ok85 rfl (Compare_ok _ _ _) rfl ?_
  rintro _ rfl
  refine Y_assign ?_
  refine XD_end ?_
  refine K_then ?_
  refine Y_pk [4] ?_
  refine C_ret ?_
  refine K_end (.inr rfl) (.tmp rfl .nil) (fun w hw => ?_)
  refine ⟨_, rfl, (hw.c), ?_⟩
  clear hw
  rfl

end Go.Proofs.Ytbjklbmmchiahaa
/-
  DERIVED: THE SHELF's CONTRACTS AT THIS DUMP, IN PLAIN WORDS (tools/lay-plain.mjs out of 'YtbjklbmmchiahaaLayTmp.lean', which tools/lay-shelf.mjs wrote): THE SAME DECLARATIONS UNDER THE SAME NAMES: 'import', 'namespace', 'open', 'def', 'theorem' AND NOTHING ELSE: no command of the shelf's: FOR A HAND-IN. Each laying: the table of numbers ('.._ren') and one theorem, a field a fact of the dump's own or the kernel's comparison; each contract: ONE APPLICATION.
-/
namespace Go.Proofs
open Go.Shelf
def Try.sortL_ren : Go.Shelf.Ren := ⟨fun | 6 => 83 | 15 => 106 | 14 => 105 | 28 => 123 | 29 => 124 | 20 => 115 | 21 => 116 | 22 => 117 | 23 => 118 | 24 => 119 | 25 => 120 | 26 => 121 | 27 => 122 | 46 => 125 | 47 => 126 | 48 => 127 | 49 => 128 | 50 => 129 | 57 => 130 | n => n, fun | 22 => 26 | 24 => 25 | 25 => 97 | 3 => 3 | 39 => 99 | 0 => 0 | 53 => 121 | 55 => 124 | 4 => 4 | 46 => 129 | 45 => 128 | 50 => 133 | 5 => 5 | 9 => 9 | 66 => 137 | 70 => 141 | 76 => 143 | 77 => 144 | n => n, fun | n => n⟩
theorem Try.sortL : Go.Proofs.SlLaysF0.n6 Try.prog Try.sortL_ren := {
  mixed := by kernel_rfl
  f6 := ⟨Try.f83.name, by decide, Try.func83.trans (congrArg some (by kernel_rfl))⟩
  f14 := ⟨Try.f105.name, by decide, Try.func105.trans (congrArg some (by kernel_rfl))⟩
  f15 := Try.func106.trans (congrArg some (by kernel_rfl))
  f20 := ⟨Try.f115.name, by decide, Try.func115.trans (congrArg some (by kernel_rfl))⟩
  f21 := ⟨Try.f116.name, by decide, Try.func116.trans (congrArg some (by kernel_rfl))⟩
  f22 := ⟨Try.f117.name, by decide, Try.func117.trans (congrArg some (by kernel_rfl))⟩
  f23 := ⟨Try.f118.name, by decide, Try.func118.trans (congrArg some (by kernel_rfl))⟩
  f24 := ⟨Try.f119.name, by decide, Try.func119.trans (congrArg some (by kernel_rfl))⟩
  f25 := ⟨Try.f120.name, by decide, Try.func120.trans (congrArg some (by kernel_rfl))⟩
  f26 := ⟨Try.f121.name, by decide, Try.func121.trans (congrArg some (by kernel_rfl))⟩
  f27 := ⟨Try.f122.name, by decide, Try.func122.trans (congrArg some (by kernel_rfl))⟩
  f28 := Try.func123.trans (congrArg some (by kernel_rfl))
  f29 := Try.func124.trans (congrArg some (by kernel_rfl))
  f46 := ⟨Try.f125.name, by decide, Try.func125.trans (congrArg some (by kernel_rfl))⟩
  f47 := Try.func126.trans (congrArg some (by kernel_rfl))
  f48 := Try.func127.trans (congrArg some (by kernel_rfl))
  f49 := ⟨Try.f128.name, by decide, Try.func128.trans (congrArg some (by kernel_rfl))⟩
  f50 := ⟨Try.f129.name, by decide, Try.func129.trans (congrArg some (by kernel_rfl))⟩
  f57 := ⟨Try.f130.name, by decide, Try.func130.trans (congrArg some (by kernel_rfl))⟩
  t0 := Try.underlying0
  a0 := Try.isAgg0
  z0 := Try.sizeOf0
  v0 := Try.zeroValue0
  t3 := Try.underlying3
  a3 := Try.isAgg3
  z3 := Try.sizeOf3
  v3 := Try.zeroValue3
  t4 := Try.underlying4
  a4 := Try.isAgg4
  z4 := Try.sizeOf4
  v4 := Try.zeroValue4
  t5 := Try.underlying5
  a5 := Try.isAgg5
  z5 := Try.sizeOf5
  v5 := Try.zeroValue5
  t9 := Try.underlying9
  a9 := Try.isAgg9
  z9 := Try.sizeOf9
  v9 := Try.zeroValue9
  t22 := Try.underlying26
  a22 := Try.isAgg26
  z22 := Try.sizeOf26
  v22 := Try.zeroValue26
  t25 := Try.underlying97
  a25 := Try.isAgg97
  z25 := Try.sizeOf97
  v25 := Try.zeroValue97
  t39 := Try.underlying99
  a39 := Try.isAgg99
  z39 := Try.sizeOf99
  v39 := Try.zeroValue99
  t45 := Try.underlying128
  a45 := Try.isAgg128
  z45 := Try.sizeOf128
  v45 := Try.zeroValue128
  t46 := Try.underlying129
  a46 := Try.isAgg129
  z46 := Try.sizeOf129
  v46 := Try.zeroValue129
  t50 := Try.underlying133
  a50 := Try.isAgg133
  z50 := Try.sizeOf133
  v50 := Try.zeroValue133
  t53 := Try.underlying121
  a53 := Try.isAgg121
  z53 := Try.sizeOf121
  v53 := Try.zeroValue121
  t55 := Try.underlying124
  a55 := Try.isAgg124
  z55 := Try.sizeOf124
  v55 := Try.zeroValue124
  t66 := Try.underlying137
  a66 := Try.isAgg137
  z66 := Try.sizeOf137
  v66 := Try.zeroValue137
  t70 := Try.underlying141
  a70 := Try.isAgg141
  z70 := Try.sizeOf141
  v70 := Try.zeroValue141
  t76 := Try.underlying143
  a76 := Try.isAgg143
  z76 := Try.sizeOf143
  v76 := Try.zeroValue143
  t77 := Try.underlying144
  a77 := Try.isAgg144
  z77 := Try.sizeOf144
  v77 := Try.zeroValue144 }
end Go.Proofs
/-
  slices.SortFunc, at rows of structs of our own: the shelf's contract, in our terms.
-/
set_option linter.unusedSimpArgs false
set_option linter.unusedVariables false
set_option linter.unnecessarySimpa false
namespace Go.Esp
open Go.Proofs Go.Shelf Go.RowKit Go.Lib Go.Sort

theorem lays_of_fs {P : Program} {g : FuncId} {vs : List Value} {r : Value} (h : ∀ M, Fs P g vs M (fun v => v = r)) (W : World) : Calls P g vs.toArray W fun e w' => e = .returned r ∧ ∃ q os', w' = grow (W.drewN q) os' := by
  refine (h (memOf W) [] W (St.start W)).mono ?_
  rintro e w' ⟨v, rfl, hst, rfl⟩
  refine ⟨rfl, w'.drawn - W.drawn, w'.heap.extract W.heap.size w'.heap.size, ?_⟩
  have hp : ∀ b o, W.heap[b]? = some o → w'.heap[b]? = some o := hst.mem
  obtain ⟨h1, h2, h3, h4⟩ := hst.io
  have hle : W.heap.size ≤ w'.heap.size := by
    rcases Nat.eq_zero_or_pos W.heap.size with h0 | h0
    · omega
    · have := hp (W.heap.size - 1) _ (Array.getElem?_eq_getElem (by omega))
      have := (Array.getElem?_eq_some_iff.1 this).1
      omega
  have hh : w'.heap = W.heap ++ w'.heap.extract W.heap.size w'.heap.size := by
    apply Array.ext_getElem?
    intro i
    rw [Array.getElem?_append]
    split
    · rename_i hi
      rw [hp i _ (Array.getElem?_eq_getElem hi), Array.getElem?_eq_getElem hi]
    · rename_i hi
      rw [Array.getElem?_extract]
      rw [show W.heap.size + (i - W.heap.size) = i by omega]
      split
      · rfl
      · rw [Array.getElem?_eq_none]; omega
  cases w' with
  | mk heap tape drawn os output =>
    simp only [grow, World.drewN, World.mk.injEq]
    simp only [memOf] at h1 h2 h3 h4
    exact ⟨hh, h2, (Nat.add_sub_cancel' h4).symm, h1, h3⟩

theorem OSl.noneAll {α : Type} {T sz c : Nat} {f : α → Segs} {l : List α} {hs : Hp} (h : OSl T sz (.slice none l.length c) hs (l.map f)) : l = [] ∧ c = 0 ∧ hs = [] := by
  generalize hv : Value.slice none l.length c = v at h
  generalize hr : l.map f = r at h
  cases h with
  | nil => simp only [Value.slice.injEq] at hv; exact ⟨List.map_eq_nil_iff.1 hr, hv.2.2, rfl⟩
  | own => simp at hv
theorem OSl.someAll {T sz l c : Nat} {ad : Addr} {hs : Hp} {rows : List Segs} (h : OSl T sz (.slice (some ad) l c) hs rows) : ∃ b, ad = ⟨b, 0, none⟩ := by
  generalize hv : Value.slice (some ad) l c = v at h
  cases h with
  | nil => simp at hv
  | own b => simp only [Value.slice.injEq, Option.some.injEq] at hv; exact ⟨b, hv.1⟩
section
variable {α : Type} [Inhabited α] {f : α → Segs} {sz : Nat}
theorem rowsCells_get {rows : List Segs} (h : lens sz rows) {j i : Nat} {r : Segs} (hr : rows[j]? = some r) (hi : i < sz) : (rowsCells rows)[j * sz + i]? = (Segs.cells r)[i]? := by
  rw [← rowsCells_at h hr, List.getElem?_take, if_pos hi, List.getElem?_drop]
theorem flat_get (hpos : 0 < sz) (hk : ∀ x, (Segs.cells (f x)).length = sz) {l : List α} (hl : lens sz (l.map f)) {t : Nat} (ht : t < l.length * sz) :
    (rowsCells (l.map f))[t]? = some ((flatK (fun x => Segs.cells (f x)) sz l.toArray)[t]!) := by
  have hj : t / sz < l.length := (Nat.div_lt_iff_lt_mul hpos).2 ht
  have hm := Nat.mod_lt t hpos
  have h := rowsCells_get hl (j := t / sz) (i := t % sz) (r := f l[t / sz]) (by rw [List.getElem?_map, List.getElem?_eq_getElem hj]; rfl) hm
  rw [Nat.div_add_mod'] at h
  rw [h, get_flatK _ _ _ _ (by simpa using ht)]
  have e : l.toArray[t / sz]! = l[t / sz] := by rw [getElem!_pos _ _ (by simpa using hj)]; simp
  rw [e, List.getElem?_eq_getElem (by rw [hk]; exact hm)]
  congr 1
  rw [getElem!_pos _ _ (by rw [hk]; exact hm)]
theorem st_sorted {M : Mem} {H : Hp} {w : World} {b T : Nat} {cur F : Array Value} (hw : St M ((b, .cells cur T (0, 0)) :: H) w) (n : Nat) (os : Array Obj) :
    St M ((b, .cells (putCells id 0 F cur) T (0, 0)) :: H) (grow (putRow id (Sort.ahead w n) b 0 F) os) := by
  have hb := hw.own b _ (.head _)
  have hlt := (Array.getElem?_eq_some_iff.1 hb).1
  refine hw.upd .head ?_ (fun c hc x hx => ?_) ⟨rfl, rfl, rfl, Nat.le_add_right _ _⟩
  · show ((w.heap.modify b _) ++ os)[b]? = _
    rw [Array.getElem?_append_left (by simpa using hlt), Array.getElem?_modify, if_pos rfl, hb]
    rfl
  · show ((w.heap.modify b _) ++ os)[c]? = _
    have hcl := (Array.getElem?_eq_some_iff.1 hx).1
    rw [Array.getElem?_append_left (by simpa using hcl), Array.getElem?_modify, if_neg (Ne.symm hc), hx]

theorem sort_fh {P : Program} {ρ : Ren} (L : SlLaysF0.n6 P ρ) (aE : ∀ w, (isAgg (ρ.t 24)).run P w = .ok true w) (zE : ∀ w, (Go.sizeOf (ρ.t 24)).run P w = .ok sz w) (hpos : 0 < sz) (hk : ∀ x, (Segs.cells (f x)).length = sz)
    (h1 : ∀ x, ∀ v ∈ Segs.cells (f x), v.oneCell' = true) (cf : α → α → Int) (hO : SWO (ltOf cf)) (g : FuncId) (hg : okFn P g = true) (hc : ∀ M x y, Fs P g [aggV (f x), aggV (f y)] M (fun v => v = .int .i64 (cf x y)))
    {T b c : Nat} {l : List α} {hs : Hp} (ho : OSl T sz (.slice (some ⟨b, 0, none⟩) l.length c) hs (l.map f)) (hl : l.length ≤ 1000000) (M : Mem) :
    Fh P (ρ.f 6) [.slice (some ⟨b, 0, none⟩) l.length c, .func (.func g) #[] #[]] M hs (fun M' v Hout => M' = M ∧ v = .tuple #[] ∧ ∃ l' : List α, l'.Perm l ∧ l'.Pairwise (fun x y => ¬ cf y x < 0) ∧ OSl T sz (.slice (some ⟨b, 0, none⟩) l.length c) Hout (l'.map f)) := by
  obtain ⟨cur, rfl, hl0, hlens, hle, hcm, hcs, htk⟩ := ho.inv
  have hml : (l.map f).length = l.length := List.length_map ..
  rw [hml] at hle htk
  intro H w hw
  have hb := hw.own b _ (.head _)
  have hlt := (Array.getElem?_eq_some_iff.1 hb).1
  have hsz : l.length * sz ≤ cur.size := by rw [hcs]; exact Nat.mul_le_mul_right _ hle
  have hH : HoldsK (fun x => Segs.cells (f x)) sz w b 0 l.toArray := by
    intro j hj
    have hj' : j < l.length * sz := by simpa using hj
    refine ⟨?_, ?_⟩
    · unfold World.cell?
      simp only [hb, Option.isSome_none, Bool.false_eq_true, if_false, Nat.zero_add, id]
      rw [← flat_get hpos hk hlens hj', ← htk, List.getElem?_take, if_pos hj']
      simp
    · unfold World.frozen?
      simp only [hb]
      simp
  have hcl : CmpLays P g #[] (fun x => Segs.cells (f x)) sz cf b 0 l.toArray.size w := fun m os dk _ x y => lays_of_fs (fun M => hc M x y) _
  have key := AnyQ.slices_SortFunc L sz aE zE (fun x => Segs.cells (f x)) hk h1 cf hO g #[] b 0 c l.toArray w (fun args w => callFunc_run hg) hcl hH hlt (by simp; omega)
  rw [show l.toArray.size = l.length from by simp] at key
  refine key.mono ?_
  rintro e w' ⟨rfl, d', n, os, ⟨hp1, _, hp3⟩, hs1, rfl⟩
  have hd : d'.size = l.length := by simpa using hp1
  have hst := st_sorted (F := flatK (fun x => Segs.cells (f x)) sz d') hw n os
  have hperm : d'.toList.Perm l := by
    have h9 := hp3
    rw [show d'.extract 0 l.length = d' from by rw [← hd]; simp, show l.toArray.extract 0 l.length = l.toArray from by rw [show l.length = l.toArray.size from by simp]; simp] at h9
    simpa using h9
  have hlens' : lens sz (d'.toList.map f) := fun r hr => by
    obtain ⟨x, hx, rfl⟩ := List.mem_map.1 hr
    rw [← Segs.cells_length]; exact hk x
  refine ⟨_, M, [(b, .cells (putCells id 0 (flatK (fun x => Segs.cells (f x)) sz d') cur) T (0, 0))], rfl, Mem.le.refl M, hst, rfl, rfl, d'.toList, hperm, ?_, ?_⟩
  · rw [List.pairwise_iff_getElem]
    intro i j hi hj hij
    have h9 := hs1 i j (Nat.zero_le _) hij (by rw [← hd]; simpa using hj)
    rw [getElem!_pos _ _ (by simpa using hj), getElem!_pos _ _ (by simpa using hi)] at h9
    unfold ltOf at h9
    simpa using h9
  · have hln : (d'.toList.map f).length = l.length := by simpa using hd
    have := OSl.own (T := T) b c (d'.toList.map f) (putCells id 0 (flatK (fun x => Segs.cells (f x)) sz d') cur) hlens' (by rw [hln]; exact hle) hcm (by simpa [putCells] using hcs) ?_
    · rw [hln] at this; exact this
    · apply List.ext_getElem?
      intro t
      rw [List.getElem?_take]
      by_cases ht : t < (d'.toList.map f).length * sz
      · rw [if_pos ht]
        have ht' : t < d'.toList.length * sz := by simpa using ht
        rw [flat_get hpos hk hlens' ht']
        have htc : t < cur.size := by rw [hln] at ht; omega
        simp only [putCells, Array.getElem?_toList, Array.getElem?_mapIdx, Array.getElem?_eq_getElem htc, Option.map_some]
        rw [if_pos ⟨Nat.zero_le _, by simpa using ht⟩]
        simp
      · rw [if_neg ht, List.getElem?_eq_none]
        rw [rowsCells_len hlens']; omega
end
end Go.Esp
/-
  Rows that are sorted.
-/
set_option linter.unusedSimpArgs false
set_option linter.unusedVariables false
set_option linter.unnecessarySimpa false
set_option maxRecDepth 8000
set_option maxHeartbeats 1000000
namespace Go.Proofs.Ytbjklbmmchiahaa
open Go.Esp
theorem F.ok105 : okFn Try.prog 105 = true := by kernel_rfl
theorem F.ok106 : okFn Try.prog 106 = true := by kernel_rfl
theorem F.ok115 : okFn Try.prog 115 = true := by kernel_rfl
theorem F.ok84 : okFn Try.prog 84 = true := by kernel_rfl

theorem Ins_nil (M : Mem) (g : FuncId) : Fs Try.prog 115 [.slice none 0 0, .int .i64 0, .int .i64 0, .func (.func g) #[] #[]] M (fun v => v = .tuple #[]) := by
  refine fs_enter Try.func115 rfl Try.ntmps115 rfl ?_; intro H
  refine C_seq ?_
  refine C_region (l := [0, 1, 2]) rfl ?_
  refine Y_move ?_
  refine X_ari rfl rfl rfl rfl rfl (by exact wrap_in (by decide) (by omega)) rfl ?_
  refine Y_assign ?_
  refine XD_end ?_
  refine K_then ?_
  refine Y_pk [8, 0, 1, 2, 3] ?_
  refine C_block ?_
  refine Y_pk [8, 0, 1, 2, 3] ?_
  refine C_loopS (.succ .zero) (fun (_ : Nat) z => z = [(8, .int .i64 1)]) (fun _ => 1) (0) (rfl) ?_
  rintro _ _ rfl
  iterate 2 refine C_seq ?_
  refine C_region (l := [0, 1, 2]) rfl ?_
  iterate 2 refine Y_move ?_
  refine Y_cmp ?_
  refine XD_end ?_
  refine K_then ?_
  refine C_cond rfl (fun hc1 => ?_) (fun hc1 => ?_)
  ·replace hc1 := dT hc1
   (exfalso; omega)
  ·replace hc1 := dF hc1
   refine C_exit ?_
   iterate 2 refine K_exit ?_
   refine K_hit ?_
   refine K_end (.inl rfl) (.nil) (fun w hw => ?_)
   exact ⟨_, rfl, hw.c, rfl⟩

theorem Pdq_nil (M : Mem) (g : FuncId) (lim : Int) : Fs Try.prog 105 [.slice none 0 0, .int .i64 0, .int .i64 0, .int .i64 lim, .func (.func g) #[] #[]] M (fun v => v = .tuple #[]) := by
  refine fs_enter Try.func105 rfl Try.ntmps105 rfl ?_; intro H
  refine C_seq ?_
  refine C_region (l := [0]) rfl ?_
  refine Y_assign ?_
  refine XD_end ?_
  refine K_then ?_
  refine C_seq ?_
  refine C_region (l := [0]) rfl ?_
  refine Y_assign ?_
  refine XD_end ?_
  refine K_then ?_
  refine C_block ?_
  refine Y_pk [1, 2, 3, 10, 11, 0, 4] ?_
  refine C_loopS (.succ (.succ (.succ (.succ (.succ .zero))))) (fun (_ : Nat) z => z = [(1, .int .i64 0), (2, .int .i64 0), (3, .int .i64 lim), (10, .bool true), (11, .bool true)]) (fun _ => 1) (0) (rfl) ?_
  rintro _ _ rfl
  refine C_block ?_
  refine C_seq ?_
  refine C_region (l := [0, 1, 2, 3]) rfl ?_
  iterate 2 refine Y_move ?_
  refine X_ari rfl rfl rfl rfl rfl (by exact wrap_in (by decide) (by omega)) rfl ?_
  refine Y_assign ?_
  refine XD_end ?_
  refine K_then ?_
  iterate 2 refine C_seq ?_
  refine C_region (l := [0, 1]) rfl ?_
  refine Y_move ?_
  refine Y_cmp ?_
  refine XD_end ?_
  refine K_then ?_
  refine C_cond rfl (fun hc1 => ?_) (fun hc1 => ?_)
  ·replace hc1 := dT hc1
   refine C_seq ?_
   refine C_region (l := [0, 1, 2, 3, 4]) rfl ?_
   iterate 4 refine Y_move ?_
   refine X_fs rfl rfl F.ok115 rfl (Ins_nil M g) rfl ?_
   rintro _ rfl
   refine XD_end ?_
   refine K_then ?_
   refine Y_pk [29, 28, 27, 26, 25, 24, 12, 23, 22, 21, 1, 2, 3, 10, 11, 0, 4] ?_
   refine C_ret ?_
   refine K_ret ?_
   refine K_retB ?_
   refine K_ret ?_
   refine K_retB ?_
   refine K_end (.inr rfl) (.nil) (fun w hw => ?_)
   exact ⟨_, rfl, hw.c, rfl⟩
  ·replace hc1 := dF hc1
   (exfalso; omega)

theorem Len_nil (M : Mem) : Fs Try.prog 106 [.int .u64 0] M (fun v => v = .int .i64 (Lib.bitLen 0)) := fun H w hw => (Any.bits_Len (SlLaysF0.n15.bits (P := Try.prog) (ρ := Try.sortL_ren) { Try.sortL with }) 0 w (by omega) (by omega)).mono fun _ _ ⟨he, hw2⟩ => ⟨_, he, by rw [hw2]; exact hw, rfl⟩

theorem Sort_nil (M : Mem) (g : FuncId) : Fs Try.prog 83 [.slice none 0 0, .func (.func g) #[] #[]] M (fun v => v = .tuple #[]) := by
  refine fs_enter Try.func83 rfl Try.ntmps83 rfl ?_; intro H
  refine C_seq ?_
  refine C_region (l := [0, 1, 2]) rfl ?_
  refine Y_move ?_
  refine Y_len_sl F.elem26 ?_
  refine Y_assign ?_
  refine XD_end ?_
  refine K_then ?_
  refine Y_pk [4, 0, 1] ?_
  refine C_region (l := [0, 1, 2, 3, 4, 5, 6]) rfl ?_
  iterate 3 refine Y_move ?_
  refine X_conv rfl rfl rfl Try.underlying3 Try.underlying99 (by exact wrap_u64_in (by decide) (by omega)) rfl ?_
  refine X_fs rfl rfl F.ok106 rfl (Len_nil M) rfl ?_
  rintro _ rfl
  refine Y_move ?_
  refine X_fs rfl rfl F.ok105 rfl (Pdq_nil M g _) rfl ?_
  rintro _ rfl
  refine XD_end ?_
  refine K_end (.inl rfl) (.nil) (fun w hw => ?_)
  exact ⟨_, rfl, hw.c, rfl⟩

instance : Inhabited PeerV := ⟨⟨0, 0⟩⟩
theorem byAddr_swo : Sort.SWO (ltOf fun x y : PeerV => cmp3 x.addr y.addr) := by
  have e : ∀ x y : PeerV, ltOf (fun x y : PeerV => cmp3 x.addr y.addr) x y = decide (x.addr < y.addr) := by
   intro x y; unfold ltOf cmp3; by_cases h : x.addr < y.addr <;> simp [h]; split <;> omega
  exact ⟨fun x => by rw [e]; simp, fun x y z h1 h2 => by rw [e] at *; simp at *; omega, fun x y z h1 h2 => by rw [e] at *; simp at *; omega⟩

theorem Sort_ok (M : Mem) (a : Option Addr) (c : Nat) (l : List PeerV) (hs : Hp) (ho : OSl 25 21 (.slice a l.length c) hs (l.map PeerV.segs)) (hl : l.length ≤ 1000000) : Fh Try.prog 83 [.slice a l.length c, .func (.func 84) #[] #[]] M hs (fun M' v Hout => M' = M ∧ v = .tuple #[] ∧ ∃ l' : List PeerV, l'.Perm l ∧ l'.Pairwise (fun x y => x.addr ≤ y.addr) ∧ OSl 25 21 (.slice a l.length c) Hout (l'.map PeerV.segs)) := by
  cases a with
  |none =>
   obtain ⟨rfl, rfl, rfl⟩ := ho.noneAll
   exact fun H w hw => (Sort_nil M 84 H w hw).mono fun e w' ⟨v, he, hst, hv⟩ => ⟨v, M, [], he, Mem.le.refl M, hst, rfl, hv, [], .refl _, .nil, OSl.nil⟩
  |some ad =>
   obtain ⟨b, rfl⟩ := ho.someAll
   have key := sort_fh (f := PeerV.segs) (sz := 21) Try.sortL Try.isAgg25 Try.sizeOf25 (by decide) (fun x => (Segs.cells_length _).trans (PeerV.len x)) (fun x => PeerV.flat x) (fun x y : PeerV => cmp3 x.addr y.addr) byAddr_swo 84 F.ok84 (fun M x y => byAddr_ok M x y) ho hl M
   exact fun H w hw => (key H w hw).mono fun e w' ⟨v, M2, Ho, he, hle, hst, hM, hv, l2, h1, h2, h3⟩ => ⟨v, M2, Ho, he, hle, hst, hM, hv, l2, h1, h2.imp (fun h => by unfold cmp3 at h; split at h <;> (try split at h) <;> omega), h3⟩

end Go.Proofs.Ytbjklbmmchiahaa
/-
  Who is known.
-/
set_option linter.unusedSimpArgs false
set_option linter.unusedVariables false
set_option linter.unnecessarySimpa false
set_option maxRecDepth 8000
set_option maxHeartbeats 1000000
namespace Go.Proofs.Ytbjklbmmchiahaa
open Go.Esp
theorem F.ok104 : okFn Try.prog 104 = true := by kernel_rfl
theorem F.ok82 : okFn Try.prog 82 = true := by kernel_rfl
theorem F.ok83 : okFn Try.prog 83 = true := by kernel_rfl
theorem F.zero26 : zeroOf Try.prog 26 = some ((.slice none 0 0)) := by kernel_rfl

theorem Known_ok (M : Mem) (t : TableV) (ht0 : TableV.ok M t) (hbig : t.succ.l.length ≤ 40 ∧ t.fingers.l.length ≤ 200) : Esp.Fn Try.prog 38 [t.enc] M (fun M' v => PsIs M' v (knownT t.tb)) := by
  obtain ⟨⟨t_self_addr, t_self_id⟩, ⟨t_pred_addr, t_pred_id⟩, ⟨t_succ_a, t_succ_c, t_succ_l⟩, ⟨t_fingers_a, t_fingers_c, t_fingers_l⟩⟩ := t
  have k_t_succ : SlK M PeerV.segs 21 ⟨t_succ_a, t_succ_c, t_succ_l⟩ := ht0.h0
  have s_t_succ : SlM M t_succ_a (t_succ_l.map PeerV.segs) 21 := k_t_succ.h1
  have n_t_succ : (t_succ_l.map PeerV.segs).length = t_succ_l.length := List.length_map ..
  have m_t_succ : t_succ_l.length ≤ 9223372036854775807 := k_t_succ.h2
  have c_t_succ : t_succ_l.length ≤ t_succ_c := k_t_succ.h3
  have k_t_fingers : SlK M PeerV.segs 21 ⟨t_fingers_a, t_fingers_c, t_fingers_l⟩ := ht0.h1
  have s_t_fingers : SlM M t_fingers_a (t_fingers_l.map PeerV.segs) 21 := k_t_fingers.h1
  have n_t_fingers : (t_fingers_l.map PeerV.segs).length = t_fingers_l.length := List.length_map ..
  have m_t_fingers : t_fingers_l.length ≤ 9223372036854775807 := k_t_fingers.h2
  have c_t_fingers : t_fingers_l.length ≤ t_fingers_c := k_t_fingers.h3
  simp only at hbig
  refine fnM_enter Try.func38 rfl Try.ntmps38 rfl ?_; intro H
  refine C_seq ?_
  refine C_region (l := [0, 1]) rfl ?_
  refine Y_box ?_; intro b1
  refine Y_assign ?_
  refine XD_end ?_
  refine K_then ?_
  refine Y_pk [2, 1] ?_
  refine C_seq ?_
  refine C_region (l := [0]) rfl ?_
  refine Y_alloc F.zero26 ?_; intro b2
  refine XD_end ?_
  refine K_then ?_
  iterate 2 refine C_seq ?_
  refine C_region (l := [0, 1, 2, 3, 4, 5, 6, 7, 8]) rfl ?_
  refine Y_fieldAddr F.foff28_1 ?_
  refine Y_load F.lay25 ?_
  refine X_buildSliceF rfl rfl F.elem26 F.zero25 rfl rfl (.cons rfl (by constructor) .nil) rfl rfl (by simp only [List.map_cons, List.map_nil] <;> rfl) rfl ?_; intro b3 hob4
  refine Y_fieldAddr F.foff28_2 ?_
  refine Y_load F.lay26 ?_
  refine Y_fieldAddr F.foff28_3 ?_
  refine Y_load F.lay26 ?_
  refine X_buildSliceF rfl rfl F.elem117 F.zero26 rfl rfl (.cons rfl (by constructor) (.cons rfl (by constructor) (.cons rfl (by constructor) .nil))) rfl rfl (by simp only [List.map_cons, List.map_nil] <;> rfl) rfl ?_; intro b5 hob6
  refine X_fhR2 rfl rfl F.ok82 rfl (all_ok M _ _ _ _ ⟨t_pred_addr, t_pred_id⟩ t_succ_a t_succ_c t_succ_l t_fingers_a t_fingers_c t_fingers_l hob6 hob4 k_t_succ k_t_fingers) (by repeat first | exact Rem.here _ | exact Rem.two | apply Rem.skip | apply Rem.over) (by repeat first | exact Rem.here _ | exact Rem.two | apply Rem.skip | apply Rem.over) (by rintro v M9 Hout w hm ⟨rfl, _⟩ hw; exact (hw.lower hm).c) (putE_some rfl) ?_
  rintro _ M1 _ hm1 ⟨rfl, q1, qc, qad, qrows, rfl, hq1, hq2, hqn, hq3, hqx⟩
  simp only [List.nil_append]
  refine XD_end ?_
  refine K_then ?_
  refine Y_pk [13, 3, 2, 1] ?_
  refine C_block ?_
  refine Y_pk [13, 3, 2, 1] ?_
  refine C_rangeFunc (enc := fun p : PeerV => [p.enc]) (xs := (qrows.map Sl.l).flatten) (Hi := []) (Hu := (b1, rowO [.one (.int .i64 t_self_addr), idSeg t_self_id, .one (.int .i64 t_pred_addr), idSeg t_pred_id, .one (Sl.val ⟨t_succ_a, t_succ_c, t_succ_l⟩), .one (Sl.val ⟨t_fingers_a, t_fingers_c, t_fingers_l⟩)] 28) :: (b2, rowO [.one (.slice none 0 0)] 26) :: []) (H0 := H) (fun pre M9 Hu => ∃ (acc : List PeerV) (v : Value) (hs : Hp), Hu = (b1, rowO [.one (.int .i64 t_self_addr), idSeg t_self_id, .one (.int .i64 t_pred_addr), idSeg t_pred_id, .one (Sl.val ⟨t_succ_a, t_succ_c, t_succ_l⟩), .one (Sl.val ⟨t_fingers_a, t_fingers_c, t_fingers_l⟩)] 28) :: (b2, rowO [.one v] 26) :: hs ∧ OSl 25 21 v hs (acc.map PeerV.segs) ∧ acc.length ≤ pre.length ∧ acc = pre.foldl (collStep ⟨t_self_addr, t_self_id⟩) []) (fun _ _ _ _ => False) rfl F.ok104 (all_seq M1 q1 qc qad qrows hq1 hq2 hqn hq3) (fun w hw => hw.c) ⟨[], _, [], rfl, OSl.nil, by simp, rfl⟩ (fun _ => rfl) rfl ?_ ?_ ?_
  ·rintro lp rdy bsy pre ⟨x_addr, x_id⟩ post M3 _ G hxs hm3 ⟨acc, v0, hs0, rfl, ho, hal, hI⟩
   obtain ⟨ad0, cp0, rfl⟩ := ho.valL
   have hml : (acc.map PeerV.segs).length = acc.length := List.length_map ..
   have hpl : pre.length ≤ 1000 := by
    have h9 := congrArg List.length (hqx.symm.trans hxs)
    simp only [List.length_cons, List.length_append] at h9
    omega
   simp only [List.cons_append, rEnv]
   refine C_region (l := [0, 1]) rfl ?_
   refine Y_alloc F.zero25 ?_; intro b7
   refine Y_store F.lay25 ?_
   refine XD_end ?_
   refine K_assign1 ?_
   refine C_block ?_
   refine C_seq ?_
   refine C_region (l := [0, 1, 2, 3, 4, 5, 6, 7, 8, 9, 10, 11, 12, 13, 14, 15, 16, 17]) rfl ?_
   refine Y_fieldAddr F.foff25_0 ?_
   refine Y_load F.lay3 ?_
   refine Y_cmp ?_
   refine Y_move ?_
   refine XD_part 18 rfl (fun hc8 => ?_) (fun hc8 => ?_)
   ·replace hc8 := dT hc8
    refine Y_fieldAddr F.foff25_0 ?_
    refine Y_load F.lay3 ?_
    refine Y_fieldAddr F.foff28_0 ?_
    refine Y_fieldAddr F.foff25_0 ?_
    refine Y_load F.lay3 ?_
    refine Y_cmp ?_
    refine Y_pick ?_
    refine Y_move ?_
    refine XD_part 26 rfl (fun hc9 => ?_) (fun hc9 => ?_)
    ·replace hc9 := nT hc9
     refine Y_load F.lay26 ?_
     refine Y_fieldAddr F.foff25_0 ?_
     refine Y_load F.lay3 ?_
     refine X_fo rfl rfl F.ok64 rfl (has_rd _ hs0 ⟨ad0, cp0, acc⟩ _ (ho.rd _) (by show acc.length ≤ 9223372036854775807; omega)) (by repeat first | exact Rem.here _ | exact Rem.two | apply Rem.skip | apply Rem.over) (putE_some rfl) ?_
     rintro _ M1 _ ⟨hM1, rfl⟩; subst M1
     refine Y_not ?_
     refine Y_pick ?_
     refine XD_end ?_
     refine K_then ?_
     refine Y_pk [32, 4, 3, 2] ?_
     refine C_cond rfl (fun hc10 => ?_) (fun hc10 => ?_)
     ·replace hc10 := nT hc10
      simp only [PeerV.eta, TableV.eta, RouteV.eta] at hc10
      refine C_region (l := [0, 1, 2, 3, 4]) rfl ?_
      refine Y_load F.lay26 ?_
      refine Y_load F.lay25 ?_
      refine X_buildSliceF rfl rfl F.elem26 F.zero25 rfl rfl (.cons rfl (by constructor) .nil) rfl rfl (by simp only [List.map_cons, List.map_nil] <;> rfl) rfl ?_; intro b11 hob12
      refine X_append (m := 1000000) rfl rfl rfl rfl rfl F.elem26 F.zero25 (by exact agg_size rfl) rfl (by assumption) (by repeat first | exact Rem.here _ | exact Rem.two | apply Rem.skip | apply Rem.over) (Src.own hob12.lens (by (refine rows_one1 ?_; (repeat (first | exact flat_nil | refine flat_id ?_ | (refine flat_one ?_ ?_; rfl))); done)) rfl (by repeat first | exact List.Mem.head _ | refine List.Mem.tail _ ?_ | refine List.mem_append_right _ ?_)) (by (simp; omega)) (by decide) rfl ?_; intro v15 hs14 ho13; obtain ⟨adv15, cpv15, rfl⟩ := ho13.valAt (n := acc.length + 1) (by (simp; done))
      refine Y_store F.lay26 ?_
      refine XD_end ?_
      refine K_out ?_
      refine K_rnd (Hu := (b1, rowO [.one (.int .i64 t_self_addr), idSeg t_self_id, .one (.int .i64 t_pred_addr), idSeg t_pred_id, .one (Sl.val ⟨t_succ_a, t_succ_c, t_succ_l⟩), .one (Sl.val ⟨t_fingers_a, t_fingers_c, t_fingers_l⟩)] 28) :: (b2, rowO [.one (.slice adv15 (acc.length + 1) cpv15)] 26) :: hs14) (Mem.le.refl _) (fun w hw => hw.c) ⟨acc ++ [⟨x_addr, x_id⟩], _, _, rfl, by rw [List.map_append]; exact ho13, by simp only [List.length_append, List.length_cons, List.length_nil]; omega, ?_⟩
      rw [met_step hI]; unfold collStep; rw [if_pos ⟨by assumption, by assumption, by assumption⟩]
     ·replace hc10 := nF hc10
      simp only [PeerV.eta, TableV.eta, RouteV.eta] at hc10
      refine C_skip ?_
      refine K_out ?_
      refine K_rnd (Hu := (b1, rowO [.one (.int .i64 t_self_addr), idSeg t_self_id, .one (.int .i64 t_pred_addr), idSeg t_pred_id, .one (Sl.val ⟨t_succ_a, t_succ_c, t_succ_l⟩), .one (Sl.val ⟨t_fingers_a, t_fingers_c, t_fingers_l⟩)] 28) :: (b2, rowO [.one (.slice ad0 acc.length cp0)] 26) :: hs0) (Mem.le.refl _) (fun w hw => hw.c) ⟨acc, _, _, rfl, ho, by simp only [List.length_append, List.length_cons, List.length_nil]; omega, ?_⟩
      rw [met_step hI]; unfold collStep; rw [if_neg (by rintro ⟨g1, g2, g3⟩; first | exact absurd g1 (by assumption) | exact absurd g2 (by assumption) | exact absurd (by assumption) g2 | exact absurd (by assumption) g3 | omega)]
    ·replace hc9 := nF hc9
     iterate 5 refine Y_skip ?_
     refine Y_pick ?_
     refine XD_end ?_
     refine K_then ?_
     refine Y_pk [32, 4, 3, 2] ?_
     refine C_false rfl ?_
     refine C_skip ?_
     refine K_out ?_
     refine K_rnd (Hu := (b1, rowO [.one (.int .i64 t_self_addr), idSeg t_self_id, .one (.int .i64 t_pred_addr), idSeg t_pred_id, .one (Sl.val ⟨t_succ_a, t_succ_c, t_succ_l⟩), .one (Sl.val ⟨t_fingers_a, t_fingers_c, t_fingers_l⟩)] 28) :: (b2, rowO [.one (.slice ad0 acc.length cp0)] 26) :: hs0) (Mem.le.refl _) (fun w hw => hw.c) ⟨acc, _, _, rfl, ho, by simp only [List.length_append, List.length_cons, List.length_nil]; omega, ?_⟩
     rw [met_step hI]; unfold collStep; rw [if_neg (by rintro ⟨g1, g2, g3⟩; first | exact absurd g1 (by assumption) | exact absurd g2 (by assumption) | exact absurd (by assumption) g2 | exact absurd (by assumption) g3 | omega)]
   ·replace hc8 := dF hc8
    iterate 6 refine Y_skip ?_
    refine Y_pick ?_
    refine Y_move ?_
    iterate 5 refine Y_skip ?_
    refine Y_pick ?_
    refine XD_end ?_
    refine K_then ?_
    refine Y_pk [32, 4, 3, 2] ?_
    refine C_false rfl ?_
    refine C_skip ?_
    refine K_out ?_
    refine K_rnd (Hu := (b1, rowO [.one (.int .i64 t_self_addr), idSeg t_self_id, .one (.int .i64 t_pred_addr), idSeg t_pred_id, .one (Sl.val ⟨t_succ_a, t_succ_c, t_succ_l⟩), .one (Sl.val ⟨t_fingers_a, t_fingers_c, t_fingers_l⟩)] 28) :: (b2, rowO [.one (.slice ad0 acc.length cp0)] 26) :: hs0) (Mem.le.refl _) (fun w hw => hw.c) ⟨acc, _, _, rfl, ho, by simp only [List.length_append, List.length_cons, List.length_nil]; omega, ?_⟩
    rw [met_step hI]; unfold collStep; rw [if_neg (by rintro ⟨g1, g2, g3⟩; first | exact absurd g1 (by assumption) | exact absurd g2 (by assumption) | exact absurd (by assumption) g2 | exact absurd (by assumption) g3 | omega)]
  ·rintro D L o M3 _ hm3 ⟨acc, v0, hs0, rfl, ho, hal, hI⟩
   obtain ⟨ad0, cp0, rfl⟩ := ho.valL
   have hpl : acc.length ≤ 1000 := by
    have h9 := congrArg List.length hqx
    simp only [List.length_cons, List.length_append] at h9
    omega
   simp only [List.cons_append, List.nil_append]
   refine K_out ?_
   refine K_then ?_
   refine Y_pk [3, 2] ?_
   refine C_seq ?_
   refine C_regionR (l := [0, 1]) (Hin := hs0) (by repeat first | exact Rem.here _ | exact Rem.two | apply Rem.skip | apply Rem.over) rfl ?_
   refine Y_load F.lay26 ?_
   refine X_fhR rfl rfl F.ok83 rfl (Sort_ok M3 ad0 cp0 acc hs0 ho (by omega)) (by repeat first | exact Rem.here _ | exact Rem.two | apply Rem.skip | apply Rem.over) (fun _ _ _ hm hw => (hw.lower (by exact hm)).c) (putE_some rfl) ?_
   rintro _ M4 hs9 hm4 ⟨hM4, rfl, l9, hp9, hs99, ho9⟩; subst M4
   refine XD_end ?_
   refine K_then ?_
   refine Y_pk [3, 2] ?_
   refine C_seq ?_
   refine C_region (l := [0, 1]) rfl ?_
   refine Y_load F.lay26 ?_
   refine Y_assign ?_
   refine XD_end ?_
   refine K_then ?_
   refine Y_pk [2] ?_
   refine C_ret ?_
   refine K_endM (Ds := [D]) (Hd := [(D, .deferred (some []))]) (H := hs9 ++ H) (.inr rfl) (.tmp rfl .nil) (fun w hw => hw.c) (by simp) (by simp) (fun w hw => ?_)
   obtain ⟨M9, j1, j2, j3⟩ := OSl.frz ho9 hw
   exact ⟨_, M9, rfl, hm1.trans (hm3.trans j1), j2, ⟨ad0, cp0, l9⟩, congrArg (fun n => Value.slice ad0 n cp0) (by simpa using hp9.length_eq.symm), known_is (by rw [hI, hqx] at hp9; exact hp9) hs99, j3⟩
  ·intro c D L o M2 Hu2 pre post _ _ h; exact h.elim

end Go.Proofs.Ytbjklbmmchiahaa
/-
  Who is nearest.
-/
set_option linter.unusedSimpArgs false
set_option linter.unusedVariables false
set_option linter.unnecessarySimpa false
set_option maxRecDepth 8000
set_option maxHeartbeats 1000000
namespace Go.Proofs.Ytbjklbmmchiahaa
open Go.Esp
theorem F.elem41 : slOf Try.prog 41 = some (3, 1, 8) := by kernel_rfl
theorem F.ok102 : okFn Try.prog 102 = true := by kernel_rfl
theorem F.ok38 : okFn Try.prog 38 = true := by kernel_rfl
theorem F.ok39 : okFn Try.prog 39 = true := by kernel_rfl
theorem F.ok75 : okFn Try.prog 75 = true := by kernel_rfl
theorem F.ok76 : okFn Try.prog 76 = true := by kernel_rfl

theorem IndexI_rd (M : Mem) (Hin : Hp) (l : Sl Int) (x : Int) (hl : RdS M Hin l.a (l.l.map (oneI .i64)) 1) (bl : l.l.length ≤ 9223372036854775807) : Fo Try.prog 102 [l.val, .int .i64 x] M Hin (fun M' v => M' = M ∧ v = .int .i64 (idxI x l.l)) := by
  have nl : (l.l.map (oneI .i64)).length = l.l.length := List.length_map ..
  refine fo_enter Try.func102 rfl Try.ntmps102 rfl ?_; intro H
  have hrd := hl.app H
  refine C_seq ?_
  refine C_region (l := [0]) rfl ?_
  refine Y_assign ?_
  refine XD_end ?_
  refine K_then ?_
  iterate 2 refine C_seq ?_
  refine C_region (l := [0, 1, 2]) rfl ?_
  refine Y_move ?_
  refine Y_len_sl F.elem41 ?_
  refine Y_move ?_
  refine XD_end ?_
  refine K_then ?_
  refine Y_pk [8, 7, 4, 0, 1] ?_
  refine C_block ?_
  refine Y_pk [8, 7, 4, 0, 1] ?_
  refine C_loopS (.succ .zero) (fun (k : Nat) z => z = [(8, .int .i64 (k : Int))] ∧ k ≤ l.l.length ∧ (x ∉ l.l.take k)) (fun k => l.l.length - k) (0) (⟨rfl, by omega, by simp⟩) ?_
  rintro k _ ⟨rfl, hk, hI⟩
  refine C_seq ?_
  refine C_region (l := [0]) rfl ?_
  refine Y_cmp ?_
  refine XD_end ?_
  refine K_then ?_
  refine C_seq ?_
  refine C_cond rfl (fun hc1 => ?_) (fun hc1 => ?_)
  ·replace hc1 := dT hc1
   refine C_skip ?_
   refine K_then ?_
   refine C_seq ?_
   refine C_block ?_
   refine C_seq ?_
   refine C_region (l := [0, 1]) rfl ?_
   refine Y_move ?_
   refine Y_assign ?_
   refine XD_end ?_
   refine K_then ?_
   refine C_seq ?_
   refine C_region (l := [0, 1, 2, 3, 4, 5]) rfl ?_
   iterate 3 refine Y_move ?_
   refine X_indexAddr rfl rfl rfl rfl F.elem41 (by rfl) (by omega) (by exact RdS.plain (by assumption) (by (simp; omega))) rfl ?_
   refine X_load_rd rfl rfl rfl (by assumption) (by exact row_map (by omega)) F.lay3 rfl rfl rfl ?_
   refine Y_cmp ?_
   refine XD_end ?_
   refine K_then ?_
   refine C_cond rfl (fun hc2 => ?_) (fun hc2 => ?_)
   ·replace hc2 := dT hc2
    refine C_seq ?_
    refine C_region (l := [0, 1]) rfl ?_
    refine Y_move ?_
    refine Y_assign ?_
    refine XD_end ?_
    refine K_then ?_
    refine C_ret ?_
    refine K_retB ?_
    iterate 2 refine K_ret ?_
    refine K_retB ?_
    refine K_ret ?_
    refine K_end (.inr rfl) (.tmp rfl .nil) (fun w hw => ?_)
    refine ⟨_, M, rfl, Mem.le.refl M, hw.c, rfl, ?_⟩
    refine congrArg (Value.int .i64) ?_
    exact (idxI_at (by omega) hI (by assumption)).symm
   ·replace hc2 := dF hc2
    refine C_skip ?_
    refine K_out ?_
    refine K_then ?_
    refine C_region (l := [0, 1]) rfl ?_
    refine X_ari rfl rfl rfl rfl rfl (by exact wrap_in (by decide) (by omega)) rfl ?_
    refine Y_move ?_
    refine XD_end ?_
    refine K_roundS (a' := [(8, _)]) (k + 1) (.cons (k := 8) rfl (.cons (k := 7) rfl (.cons (k := 4) rfl (.cons (k := 0) rfl (.cons (k := 1) rfl (.nil)))))) (fun w hw => by first | exact hw | exact hw.c) ?_ ?_
    ·refine ⟨rfl, by omega, ?_⟩
     exact not_take_succ (by omega) hI (by assumption)
    ·omega
  ·replace hc1 := dF hc1
   refine C_exit ?_
   iterate 2 refine K_exit ?_
   refine K_hit ?_
   refine K_then ?_
   refine Y_pk [4] ?_
   refine C_seq ?_
   refine C_region (l := [0]) rfl ?_
   refine Y_assign ?_
   refine XD_end ?_
   refine K_then ?_
   refine C_ret ?_
   refine K_end (.inr rfl) (.tmp rfl .nil) (fun w hw => ?_)
   refine ⟨_, M, rfl, Mem.le.refl M, hw.c, rfl, ?_⟩
   refine congrArg (Value.int .i64) ?_
   (have hk9 : k = l.l.length := (by omega); subst hk9; rw [List.take_length] at hI; exact (idxI_none hI).symm)

theorem ContainsI_rd (M : Mem) (Hin : Hp) (l : Sl Int) (x : Int) (hl : RdS M Hin l.a (l.l.map (oneI .i64)) 1) (bl : l.l.length ≤ 9223372036854775807) : Fo Try.prog 75 [l.val, .int .i64 x] M Hin (fun M' v => M' = M ∧ v = .bool (decide (x ∈ l.l))) := by
  refine fo_enter Try.func75 rfl Try.ntmps75 rfl ?_; intro H
  refine C_seq ?_
  refine C_region (l := [0]) rfl ?_
  refine Y_assign ?_
  refine XD_end ?_
  refine K_then ?_
  refine C_seq ?_
  refine C_region (l := [0, 1, 2, 3, 4]) rfl ?_
  iterate 2 refine Y_move ?_
  refine X_fo rfl rfl F.ok102 rfl (IndexI_rd _ Hin ⟨_, _, _⟩ _ hl bl) (by repeat first | exact Rem.here _ | exact Rem.two | apply Rem.skip | apply Rem.over) (putE_some rfl) ?_
  rintro _ M1 _ ⟨hM1, rfl⟩; subst M1
  refine Y_cmp ?_
  refine Y_assign ?_
  refine XD_end ?_
  refine K_then ?_
  refine Y_pk [4] ?_
  refine C_ret ?_
  refine K_end (.inr rfl) (.tmp rfl .nil) (fun w hw => ?_)
  exact ⟨_, M, rfl, Mem.le.refl M, hw.c, rfl, congrArg Value.bool (by simp [idxI_nn])⟩

theorem IndexI_ok (M : Mem) (l : Sl Int) (x : Int) (hl : SlM M l.a (l.l.map (oneI .i64)) 1) (bl : l.l.length ≤ maxLen) : Fs Try.prog 102 [l.val, .int .i64 x] M (fun v => v = .int .i64 (idxI x l.l)) :=
  fs_of_fo (IndexI_rd M [] l x (hl.rd []) bl)

theorem ContainsI_ok (M : Mem) (l : Sl Int) (x : Int) (hl : SlM M l.a (l.l.map (oneI .i64)) 1) (bl : l.l.length ≤ maxLen) : Fs Try.prog 75 [l.val, .int .i64 x] M (fun v => v = .bool (decide (x ∈ l.l))) :=
  fs_of_fo (ContainsI_rd M [] l x (hl.rd []) bl)

theorem in_ok (M : Mem) (l : (Sl Int)) (n : Int) (hl0 : SlK M (oneI .i64) 1 l) : Fs Try.prog 76 [Sl.val l, .int .i64 n] M (fun v => v = Value.bool (decide (n ∈ l.l))) := by
  obtain ⟨l_a, l_c, l_l⟩ := l
  have k_l : SlK M (oneI .i64) 1 ⟨l_a, l_c, l_l⟩ := hl0
  have s_l : SlM M l_a (l_l.map (oneI .i64)) 1 := k_l.h1
  have n_l : (l_l.map (oneI .i64)).length = l_l.length := List.length_map ..
  have m_l : l_l.length ≤ 9223372036854775807 := k_l.h2
  have c_l : l_l.length ≤ l_c := k_l.h3
  refine fs_enter Try.func76 rfl Try.ntmps76 rfl ?_; intro H
  refine C_seq ?_
  refine C_region (l := [0]) rfl ?_
  refine Y_assign ?_
  refine XD_end ?_
  refine K_then ?_
  iterate 2 refine C_seq ?_
  refine C_region (l := [0]) rfl ?_
  refine Y_assign ?_
  refine XD_end ?_
  refine K_then ?_
  refine C_block ?_
  refine Y_pk [5, 4, 0, 1] ?_
  refine C_loopS (.succ .zero) (fun (k : Nat) z => z = [(5, .int .i64 (k : Int))] ∧ k ≤ l_l.length ∧ (n ∉ l_l.take k)) (fun k => l_l.length - k) (0) (⟨rfl, by omega, by simp⟩) ?_
  rintro k _ ⟨rfl, hk, hI⟩
  iterate 2 refine C_seq ?_
  refine C_region (l := [0, 1, 2, 3]) rfl ?_
  iterate 2 refine Y_move ?_
  refine Y_len_sl F.elem41 ?_
  refine Y_cmp ?_
  refine XD_end ?_
  refine K_then ?_
  refine C_cond rfl (fun hc1 => ?_) (fun hc1 => ?_)
  ·replace hc1 := dT hc1
   refine C_skip ?_
   refine K_then ?_
   refine C_seq ?_
   refine C_block ?_
   refine C_seq ?_
   refine C_region (l := [0, 1, 2, 3, 4, 5]) rfl ?_
   iterate 2 refine Y_move ?_
   refine X_indexAddr rfl rfl rfl rfl F.elem41 (by rfl) (by omega) (by exact SlM.plain (by assumption) (by (simp; omega))) rfl ?_
   refine X_load_el rfl rfl rfl (by assumption) (by exact row_map (by omega)) F.lay3 rfl rfl rfl ?_
   refine Y_move ?_
   refine Y_cmp ?_
   refine XD_end ?_
   refine K_then ?_
   refine C_cond rfl (fun hc2 => ?_) (fun hc2 => ?_)
   ·replace hc2 := dT hc2
    refine C_seq ?_
    refine C_region (l := [0]) rfl ?_
    refine Y_assign ?_
    refine XD_end ?_
    refine K_then ?_
    refine C_ret ?_
    refine K_retB ?_
    iterate 2 refine K_ret ?_
    refine K_retB ?_
    refine K_ret ?_
    refine K_end (.inr rfl) (.tmp rfl .nil) (fun w hw => ?_)
    refine ⟨_, rfl, (hw.c), ?_⟩
    clear hw
    refine congrArg Value.bool ?_
    (refine (decide_eq_true ?_).symm; have h9 := List.getElem_mem (l := l_l) (n := k) (by omega); simp_all)
   ·replace hc2 := dF hc2
    refine C_skip ?_
    refine K_out ?_
    refine K_then ?_
    refine C_region (l := [0, 1, 2]) rfl ?_
    refine Y_move ?_
    refine X_ari rfl rfl rfl rfl rfl (by exact wrap_in (by decide) (by omega)) rfl ?_
    refine Y_assign ?_
    refine XD_end ?_
    refine K_roundS (a' := [(5, _)]) (k + 1) (.cons (k := 5) rfl (.cons (k := 4) rfl (.cons (k := 0) rfl (.cons (k := 1) rfl (.nil))))) (fun w hw => by first | exact hw | exact hw.c) ?_ ?_
    ·refine ⟨rfl, by omega, ?_⟩
     exact not_take_succ (by omega) hI (fun h9 => absurd h9.symm (by assumption))
    ·omega
  ·replace hc1 := dF hc1
   refine C_exit ?_
   iterate 2 refine K_exit ?_
   refine K_hit ?_
   refine K_then ?_
   refine Y_pk [4] ?_
   refine C_seq ?_
   refine C_region (l := [0]) rfl ?_
   refine Y_assign ?_
   refine XD_end ?_
   refine K_then ?_
   refine C_ret ?_
   refine K_end (.inr rfl) (.tmp rfl .nil) (fun w hw => ?_)
   refine ⟨_, rfl, (hw.c), ?_⟩
   clear hw
   refine congrArg Value.bool ?_
   (have hk9 : k = l_l.length := (by omega); subst hk9; rw [List.take_length] at hI; exact (decide_eq_false hI).symm)

theorem Nearest_ok (M : Mem) (t : TableV) (id : Plc) (avoid : (Sl Int)) (ht0 : TableV.ok M t) (havoid1 : SlK M (oneI .i64) 1 avoid) (hbig : t.succ.l.length ≤ 40 ∧ t.fingers.l.length ≤ 200) : Esp.Fn Try.prog 27 [t.enc, aggV [idSeg id], Sl.val avoid] M (fun M' v => v = ofPB (nearestT t.tb id avoid.l)) := by
  obtain ⟨⟨t_self_addr, t_self_id⟩, ⟨t_pred_addr, t_pred_id⟩, ⟨t_succ_a, t_succ_c, t_succ_l⟩, ⟨t_fingers_a, t_fingers_c, t_fingers_l⟩⟩ := t
  obtain ⟨avoid_a, avoid_c, avoid_l⟩ := avoid
  have k_t_succ : SlK M PeerV.segs 21 ⟨t_succ_a, t_succ_c, t_succ_l⟩ := ht0.h0
  have s_t_succ : SlM M t_succ_a (t_succ_l.map PeerV.segs) 21 := k_t_succ.h1
  have n_t_succ : (t_succ_l.map PeerV.segs).length = t_succ_l.length := List.length_map ..
  have m_t_succ : t_succ_l.length ≤ 9223372036854775807 := k_t_succ.h2
  have c_t_succ : t_succ_l.length ≤ t_succ_c := k_t_succ.h3
  have k_t_fingers : SlK M PeerV.segs 21 ⟨t_fingers_a, t_fingers_c, t_fingers_l⟩ := ht0.h1
  have s_t_fingers : SlM M t_fingers_a (t_fingers_l.map PeerV.segs) 21 := k_t_fingers.h1
  have n_t_fingers : (t_fingers_l.map PeerV.segs).length = t_fingers_l.length := List.length_map ..
  have m_t_fingers : t_fingers_l.length ≤ 9223372036854775807 := k_t_fingers.h2
  have c_t_fingers : t_fingers_l.length ≤ t_fingers_c := k_t_fingers.h3
  have k_avoid : SlK M (oneI .i64) 1 ⟨avoid_a, avoid_c, avoid_l⟩ := havoid1
  have s_avoid : SlM M avoid_a (avoid_l.map (oneI .i64)) 1 := k_avoid.h1
  have n_avoid : (avoid_l.map (oneI .i64)).length = avoid_l.length := List.length_map ..
  have m_avoid : avoid_l.length ≤ 9223372036854775807 := k_avoid.h2
  have c_avoid : avoid_l.length ≤ avoid_c := k_avoid.h3
  simp only at hbig
  refine fn_enter Try.func27 rfl Try.ntmps27 rfl ?_; intro H
  refine C_seq ?_
  refine C_region (l := [0, 1, 2, 3]) rfl ?_
  refine Y_box ?_; intro b1
  refine Y_box ?_; intro b2
  refine Y_alloc F.zero25 ?_; intro b3
  refine Y_assign ?_
  refine XD_end ?_
  refine K_then ?_
  refine Y_pk [7, 6, 4, 3, 2] ?_
  refine C_seq ?_
  refine C_region (l := [0, 1, 2, 3]) rfl ?_
  refine X_fs rfl rfl F.ok61 rfl (None_ok _) rfl ?_
  rintro _ rfl
  refine XD_is 12 rfl (show _ = aggV [.one (.int .i64 (-1)), idSeg 0] from rfl) ?_
  refine Y_alloc F.zero25 ?_; intro b4
  refine Y_store F.lay25 ?_
  refine Y_assign ?_
  refine XD_end ?_
  refine K_then ?_
  refine Y_pk [9, 8, 7, 6, 4, 3, 2] ?_
  iterate 2 refine C_seq ?_
  refine C_region (l := [0, 1, 2, 3]) rfl ?_
  refine Y_load F.lay28 ?_
  refine X_fn rfl rfl F.ok38 rfl (Known_ok M ⟨⟨t_self_addr, t_self_id⟩, ⟨t_pred_addr, t_pred_id⟩, ⟨t_succ_a, t_succ_c, t_succ_l⟩, ⟨t_fingers_a, t_fingers_c, t_fingers_l⟩⟩ ht0 hbig) rfl ?_
  rintro _ M1 hm1 ⟨⟨ps_a, ps_c, ps_l⟩, rfl, hps, k_ps⟩
  have s_ps := k_ps.h1
  have n_ps : (ps_l.map PeerV.segs).length = ps_l.length := List.length_map ..
  have m_ps : ps_l.length ≤ 9223372036854775807 := k_ps.h2
  simp only at hps s_ps
  refine Y_len_sl F.elem26 ?_
  refine Y_move ?_
  refine XD_end ?_
  refine K_then ?_
  refine Y_pk [16, 15, 14, 9, 8, 7, 6, 4, 3, 2] ?_
  refine C_block ?_
  refine Y_pk [16, 9, 15, 14, 8, 7, 6, 4, 3, 2] ?_
  refine C_loopO (Hin := [(b4, rowO [.one (.int .i64 (-1)), idSeg 0] 25)]) (.succ (.succ .zero)) (by repeat first | exact Rem.here _ | exact Rem.two | apply Rem.skip | apply Rem.over) (fun (k : Nat) M9 h1 z => ∃ r : PeerV × Bool, M9 = M1 ∧ z = [(16, .int .i64 (k : Int)), (9, .bool r.2)] ∧ k ≤ ps_l.length ∧ h1 = [(b4, rowO [.one (.int .i64 r.1.addr), idSeg r.1.id] 25)] ∧ (ps_l.take (k)).foldl (nearStep ⟨t_self_addr, t_self_id⟩ id avoid_l) (noneP, false) = r) (fun k => ps_l.length - k) (0) (⟨(noneP, false), rfl, rfl, by omega, rfl, rfl⟩) ?_
  rintro k M2 h1 z hm2 ⟨⟨⟨ra, ri⟩, rb⟩, hM2, rfl, hk, rfl, hI⟩
  subst hM2
  rcases rb with _ | _
  ·skip
   refine C_seq ?_
   refine C_region (l := [0]) rfl ?_
   refine Y_cmp ?_
   refine XD_end ?_
   refine K_then ?_
   refine C_seq ?_
   refine C_cond rfl (fun hc5 => ?_) (fun hc5 => ?_)
   ·replace hc5 := dT hc5
    refine C_skip ?_
    refine K_then ?_
    refine C_seq ?_
    refine C_block ?_
    refine C_seq ?_
    obtain ⟨⟨x_addr, x_id⟩, hx⟩ : ∃ x, ps_l[k] = x := ⟨_, rfl⟩
    refine C_region (l := [0, 1, 2, 3]) rfl ?_
    refine X_indexAddr rfl rfl rfl rfl F.elem26 (by rfl) (by omega) (by exact SlM.plain (by assumption) (by (simp; omega))) rfl ?_
    refine X_load_el rfl rfl rfl s_ps (show (ps_l.map PeerV.segs)[k]? = some (PeerV.segs ⟨x_addr, x_id⟩) by rw [List.getElem?_map, List.getElem?_eq_getElem (by omega), hx]; rfl) F.lay25 rfl rfl rfl ?_
    refine Y_alloc F.zero25 ?_; intro b6
    refine Y_store F.lay25 ?_
    refine XD_end ?_
    refine K_then ?_
    iterate 2 refine C_seq ?_
    refine C_region (l := [0, 1, 2, 3, 4, 5, 6, 7, 8, 9, 10, 11, 12, 13]) rfl ?_
    refine Y_move ?_
    refine Y_fieldAddr F.foff25_0 ?_
    refine Y_load F.lay3 ?_
    refine X_fs rfl rfl F.ok75 rfl (ContainsI_ok _ ⟨_, _, _⟩ _ (by exact SlM.mono (by assumption) (by repeat first | assumption | refine Mem.le.trans (by assumption) ?_)) (by assumption)) rfl ?_
    rintro _ rfl
    refine Y_move ?_
    refine XD_part 24 rfl (fun hc7 => ?_) (fun hc7 => ?_)
    ·replace hc7 := dT hc7
     simp only [PeerV.eta, TableV.eta, RouteV.eta] at hc7
     iterate 8 refine Y_skip ?_
     refine Y_pick ?_
     refine XD_end ?_
     refine K_then ?_
     refine C_true rfl ?_
     refine C_exit ?_
     refine K_exit ?_
     refine K_hit ?_
     refine K_then ?_
     refine C_region (l := [0, 1]) rfl ?_
     refine X_ari rfl rfl rfl rfl rfl (by exact wrap_in (by decide) (by omega)) rfl ?_
     refine Y_move ?_
     refine XD_end ?_
     refine K_roundO (a' := [(16, _), (9, _)]) (k + 1) ([(b4, rowO [.one (.int .i64 ra), idSeg ri] 25)]) (.cons (k := 16) rfl (.cons (k := 9) rfl (.cons (k := 15) rfl (.cons (k := 14) rfl (.cons (k := 8) rfl (.cons (k := 7) rfl (.cons (k := 6) rfl (.cons (k := 4) rfl (.cons (k := 3) rfl (.cons (k := 2) rfl (.nil))))))))))) (by exact Mem.le.refl _) (fun w hw => by first | exact hw | exact hw.c) ?_ ?_
     ·exact ⟨(⟨ra, ri⟩, false), rfl, rfl, by omega, rfl, by rw [foldl_take (by omega : k < ps_l.length), hI, hx]; unfold nearStep; rw [if_pos (by exact .inl (by assumption))]⟩
     ·omega
    ·replace hc7 := dF hc7
     simp only [PeerV.eta, TableV.eta, RouteV.eta] at hc7
     refine Y_fieldAddr F.foff28_0 ?_
     refine Y_fieldAddr F.foff25_1 ?_
     refine Y_load F.lay23 ?_
     refine Y_fieldAddr F.foff25_1 ?_
     iterate 2 refine Y_load F.lay23 ?_
     refine X_fs rfl rfl F.ok42 rfl (Open_ok _ _ _ _) rfl ?_
     rintro _ rfl
     refine Y_not ?_
     refine Y_pick ?_
     refine XD_end ?_
     refine K_then ?_
     refine C_cond rfl (fun hc8 => ?_) (fun hc8 => ?_)
     ·replace hc8 := nT hc8
      refine C_exit ?_
      refine K_exit ?_
      refine K_hit ?_
      refine K_then ?_
      refine C_region (l := [0, 1]) rfl ?_
      refine X_ari rfl rfl rfl rfl rfl (by exact wrap_in (by decide) (by omega)) rfl ?_
      refine Y_move ?_
      refine XD_end ?_
      refine K_roundO (a' := [(16, _), (9, _)]) (k + 1) ([(b4, rowO [.one (.int .i64 ra), idSeg ri] 25)]) (.cons (k := 16) rfl (.cons (k := 9) rfl (.cons (k := 15) rfl (.cons (k := 14) rfl (.cons (k := 8) rfl (.cons (k := 7) rfl (.cons (k := 6) rfl (.cons (k := 4) rfl (.cons (k := 3) rfl (.cons (k := 2) rfl (.nil))))))))))) (by exact Mem.le.refl _) (fun w hw => by first | exact hw | exact hw.c) ?_ ?_
      ·exact ⟨(⟨ra, ri⟩, false), rfl, rfl, by omega, rfl, by rw [foldl_take (by omega : k < ps_l.length), hI, hx]; unfold nearStep; rw [if_pos (by exact .inr (by assumption))]⟩
      ·omega
     ·replace hc8 := nF hc8
      refine C_skip ?_
      refine K_then ?_
      refine C_seq ?_
      refine C_region (l := [0, 1, 2, 3, 4, 5, 6, 7, 8, 9]) rfl ?_
      refine Y_move ?_
      refine Y_not ?_
      refine Y_move ?_
      iterate 6 refine Y_skip ?_
      refine Y_pick ?_
      refine XD_end ?_
      refine K_then ?_
      refine C_true rfl ?_
      refine C_region (l := [0, 1, 2]) rfl ?_
      refine Y_load F.lay25 ?_
      refine Y_store F.lay25 ?_
      refine Y_assign ?_
      refine XD_end ?_
      refine K_out ?_
      refine K_then ?_
      refine C_region (l := [0, 1]) rfl ?_
      refine X_ari rfl rfl rfl rfl rfl (by exact wrap_in (by decide) (by omega)) rfl ?_
      refine Y_move ?_
      refine XD_end ?_
      refine K_roundO (a' := [(16, _), (9, _)]) (k + 1) ([(b4, rowO [.one (.int .i64 x_addr), idSeg x_id] 25)]) (.cons (k := 16) rfl (.cons (k := 9) rfl (.cons (k := 15) rfl (.cons (k := 14) rfl (.cons (k := 8) rfl (.cons (k := 7) rfl (.cons (k := 6) rfl (.cons (k := 4) rfl (.cons (k := 3) rfl (.cons (k := 2) rfl (.nil))))))))))) (by exact Mem.le.refl _) (fun w hw => by first | exact hw | exact hw.c) ?_ ?_
      ·exact ⟨(⟨x_addr, x_id⟩, true), rfl, rfl, by omega, rfl, by rw [foldl_take (by omega : k < ps_l.length), hI, hx]; unfold nearStep; rw [if_neg (by rintro (g1 | g1); exact absurd g1 (by assumption); exact g1 (by assumption)), if_pos (.inl rfl)]⟩
      ·omega
   ·replace hc5 := dF hc5
    refine C_exit ?_
    iterate 2 refine K_exit ?_
    refine K_hit ?_
    refine K_then ?_
    refine Y_pk [9, 8, 7, 6] ?_
    refine C_seq ?_
    refine C_region (l := [0, 1, 2, 3]) rfl ?_
    refine Y_load F.lay25 ?_
    refine Y_move ?_
    refine Y_store F.lay25 ?_
    refine Y_assign ?_
    refine XD_end ?_
    refine K_then ?_
    refine Y_pk [7, 6] ?_
    refine C_ret ?_
    refine K_end (.inr rfl) (.cell rfl (by repeat first | exact List.Mem.head _ | refine List.Mem.tail _ ?_ | refine List.mem_append_right _ ?_) F.lay25 rfl rfl (.tmp rfl .nil)) (fun w hw => ?_)
    obtain rfl : k = ps_l.length := by omega
    rw [List.take_length, hps] at hI
    refine ⟨_, M2, rfl, hm1, hw.c, ?_⟩
    unfold nearestT
    rw [show (TableV.tb ⟨⟨t_self_addr, t_self_id⟩, ⟨t_pred_addr, t_pred_id⟩, ⟨t_succ_a, t_succ_c, t_succ_l⟩, ⟨t_fingers_a, t_fingers_c, t_fingers_l⟩⟩).self = ⟨t_self_addr, t_self_id⟩ from rfl, hI]; rfl
  ·skip
   refine C_seq ?_
   refine C_region (l := [0]) rfl ?_
   refine Y_cmp ?_
   refine XD_end ?_
   refine K_then ?_
   refine C_seq ?_
   refine C_cond rfl (fun hc9 => ?_) (fun hc9 => ?_)
   ·replace hc9 := dT hc9
    refine C_skip ?_
    refine K_then ?_
    refine C_seq ?_
    refine C_block ?_
    refine C_seq ?_
    obtain ⟨⟨x_addr, x_id⟩, hx⟩ : ∃ x, ps_l[k] = x := ⟨_, rfl⟩
    refine C_region (l := [0, 1, 2, 3]) rfl ?_
    refine X_indexAddr rfl rfl rfl rfl F.elem26 (by rfl) (by omega) (by exact SlM.plain (by assumption) (by (simp; omega))) rfl ?_
    refine X_load_el rfl rfl rfl s_ps (show (ps_l.map PeerV.segs)[k]? = some (PeerV.segs ⟨x_addr, x_id⟩) by rw [List.getElem?_map, List.getElem?_eq_getElem (by omega), hx]; rfl) F.lay25 rfl rfl rfl ?_
    refine Y_alloc F.zero25 ?_; intro b10
    refine Y_store F.lay25 ?_
    refine XD_end ?_
    refine K_then ?_
    iterate 2 refine C_seq ?_
    refine C_region (l := [0, 1, 2, 3, 4, 5, 6, 7, 8, 9, 10, 11, 12, 13]) rfl ?_
    refine Y_move ?_
    refine Y_fieldAddr F.foff25_0 ?_
    refine Y_load F.lay3 ?_
    refine X_fs rfl rfl F.ok75 rfl (ContainsI_ok _ ⟨_, _, _⟩ _ (by exact SlM.mono (by assumption) (by repeat first | assumption | refine Mem.le.trans (by assumption) ?_)) (by assumption)) rfl ?_
    rintro _ rfl
    refine Y_move ?_
    refine XD_part 24 rfl (fun hc11 => ?_) (fun hc11 => ?_)
    ·replace hc11 := dT hc11
     simp only [PeerV.eta, TableV.eta, RouteV.eta] at hc11
     iterate 8 refine Y_skip ?_
     refine Y_pick ?_
     refine XD_end ?_
     refine K_then ?_
     refine C_true rfl ?_
     refine C_exit ?_
     refine K_exit ?_
     refine K_hit ?_
     refine K_then ?_
     refine C_region (l := [0, 1]) rfl ?_
     refine X_ari rfl rfl rfl rfl rfl (by exact wrap_in (by decide) (by omega)) rfl ?_
     refine Y_move ?_
     refine XD_end ?_
     refine K_roundO (a' := [(16, _), (9, _)]) (k + 1) ([(b4, rowO [.one (.int .i64 ra), idSeg ri] 25)]) (.cons (k := 16) rfl (.cons (k := 9) rfl (.cons (k := 15) rfl (.cons (k := 14) rfl (.cons (k := 8) rfl (.cons (k := 7) rfl (.cons (k := 6) rfl (.cons (k := 4) rfl (.cons (k := 3) rfl (.cons (k := 2) rfl (.nil))))))))))) (by exact Mem.le.refl _) (fun w hw => by first | exact hw | exact hw.c) ?_ ?_
     ·exact ⟨(⟨ra, ri⟩, true), rfl, rfl, by omega, rfl, by rw [foldl_take (by omega : k < ps_l.length), hI, hx]; unfold nearStep; rw [if_pos (by exact .inl (by assumption))]⟩
     ·omega
    ·replace hc11 := dF hc11
     simp only [PeerV.eta, TableV.eta, RouteV.eta] at hc11
     refine Y_fieldAddr F.foff28_0 ?_
     refine Y_fieldAddr F.foff25_1 ?_
     refine Y_load F.lay23 ?_
     refine Y_fieldAddr F.foff25_1 ?_
     iterate 2 refine Y_load F.lay23 ?_
     refine X_fs rfl rfl F.ok42 rfl (Open_ok _ _ _ _) rfl ?_
     rintro _ rfl
     refine Y_not ?_
     refine Y_pick ?_
     refine XD_end ?_
     refine K_then ?_
     refine C_cond rfl (fun hc12 => ?_) (fun hc12 => ?_)
     ·replace hc12 := nT hc12
      refine C_exit ?_
      refine K_exit ?_
      refine K_hit ?_
      refine K_then ?_
      refine C_region (l := [0, 1]) rfl ?_
      refine X_ari rfl rfl rfl rfl rfl (by exact wrap_in (by decide) (by omega)) rfl ?_
      refine Y_move ?_
      refine XD_end ?_
      refine K_roundO (a' := [(16, _), (9, _)]) (k + 1) ([(b4, rowO [.one (.int .i64 ra), idSeg ri] 25)]) (.cons (k := 16) rfl (.cons (k := 9) rfl (.cons (k := 15) rfl (.cons (k := 14) rfl (.cons (k := 8) rfl (.cons (k := 7) rfl (.cons (k := 6) rfl (.cons (k := 4) rfl (.cons (k := 3) rfl (.cons (k := 2) rfl (.nil))))))))))) (by exact Mem.le.refl _) (fun w hw => by first | exact hw | exact hw.c) ?_ ?_
      ·exact ⟨(⟨ra, ri⟩, true), rfl, rfl, by omega, rfl, by rw [foldl_take (by omega : k < ps_l.length), hI, hx]; unfold nearStep; rw [if_pos (by exact .inr (by assumption))]⟩
      ·omega
     ·replace hc12 := nF hc12
      refine C_skip ?_
      refine K_then ?_
      refine C_seq ?_
      refine C_region (l := [0, 1, 2, 3, 4, 5, 6, 7, 8, 9]) rfl ?_
      refine Y_move ?_
      refine Y_not ?_
      refine Y_move ?_
      refine Y_fieldAddr F.foff25_1 ?_
      refine Y_load F.lay23 ?_
      refine Y_fieldAddr F.foff25_1 ?_
      iterate 2 refine Y_load F.lay23 ?_
      refine X_fs rfl rfl F.ok42 rfl (Open_ok _ _ _ _) rfl ?_
      rintro _ rfl
      refine Y_pick ?_
      refine XD_end ?_
      refine K_then ?_
      refine C_cond rfl (fun hc13 => ?_) (fun hc13 => ?_)
      ·replace hc13 := dT hc13
       simp only [PeerV.eta, TableV.eta, RouteV.eta] at hc13
       refine C_region (l := [0, 1, 2]) rfl ?_
       refine Y_load F.lay25 ?_
       refine Y_store F.lay25 ?_
       refine Y_assign ?_
       refine XD_end ?_
       refine K_out ?_
       refine K_then ?_
       refine C_region (l := [0, 1]) rfl ?_
       refine X_ari rfl rfl rfl rfl rfl (by exact wrap_in (by decide) (by omega)) rfl ?_
       refine Y_move ?_
       refine XD_end ?_
       refine K_roundO (a' := [(16, _), (9, _)]) (k + 1) ([(b4, rowO [.one (.int .i64 x_addr), idSeg x_id] 25)]) (.cons (k := 16) rfl (.cons (k := 9) rfl (.cons (k := 15) rfl (.cons (k := 14) rfl (.cons (k := 8) rfl (.cons (k := 7) rfl (.cons (k := 6) rfl (.cons (k := 4) rfl (.cons (k := 3) rfl (.cons (k := 2) rfl (.nil))))))))))) (by exact Mem.le.refl _) (fun w hw => by first | exact hw | exact hw.c) ?_ ?_
       ·exact ⟨(⟨x_addr, x_id⟩, true), rfl, rfl, by omega, rfl, by rw [foldl_take (by omega : k < ps_l.length), hI, hx]; unfold nearStep; rw [if_neg (by rintro (g1 | g1); exact absurd g1 (by assumption); exact g1 (by assumption)), if_pos (.inr (by assumption))]⟩
       ·omega
      ·replace hc13 := dF hc13
       simp only [PeerV.eta, TableV.eta, RouteV.eta] at hc13
       refine C_skip ?_
       refine K_out ?_
       refine K_then ?_
       refine C_region (l := [0, 1]) rfl ?_
       refine X_ari rfl rfl rfl rfl rfl (by exact wrap_in (by decide) (by omega)) rfl ?_
       refine Y_move ?_
       refine XD_end ?_
       refine K_roundO (a' := [(16, _), (9, _)]) (k + 1) ([(b4, rowO [.one (.int .i64 ra), idSeg ri] 25)]) (.cons (k := 16) rfl (.cons (k := 9) rfl (.cons (k := 15) rfl (.cons (k := 14) rfl (.cons (k := 8) rfl (.cons (k := 7) rfl (.cons (k := 6) rfl (.cons (k := 4) rfl (.cons (k := 3) rfl (.cons (k := 2) rfl (.nil))))))))))) (by exact Mem.le.refl _) (fun w hw => by first | exact hw | exact hw.c) ?_ ?_
       ·exact ⟨(⟨ra, ri⟩, true), rfl, rfl, by omega, rfl, by rw [foldl_take (by omega : k < ps_l.length), hI, hx]; unfold nearStep; rw [if_neg (by rintro (g1 | g1); exact absurd g1 (by assumption); exact g1 (by assumption)), if_neg (by rintro (g1 | g1); cases g1; exact absurd g1 (by assumption))]⟩
       ·omega
   ·replace hc9 := dF hc9
    refine C_exit ?_
    iterate 2 refine K_exit ?_
    refine K_hit ?_
    refine K_then ?_
    refine Y_pk [9, 8, 7, 6] ?_
    refine C_seq ?_
    refine C_region (l := [0, 1, 2, 3]) rfl ?_
    refine Y_load F.lay25 ?_
    refine Y_move ?_
    refine Y_store F.lay25 ?_
    refine Y_assign ?_
    refine XD_end ?_
    refine K_then ?_
    refine Y_pk [7, 6] ?_
    refine C_ret ?_
    refine K_end (.inr rfl) (.cell rfl (by repeat first | exact List.Mem.head _ | refine List.Mem.tail _ ?_ | refine List.mem_append_right _ ?_) F.lay25 rfl rfl (.tmp rfl .nil)) (fun w hw => ?_)
    obtain rfl : k = ps_l.length := by omega
    rw [List.take_length, hps] at hI
    refine ⟨_, M2, rfl, hm1, hw.c, ?_⟩
    unfold nearestT
    rw [show (TableV.tb ⟨⟨t_self_addr, t_self_id⟩, ⟨t_pred_addr, t_pred_id⟩, ⟨t_succ_a, t_succ_c, t_succ_l⟩, ⟨t_fingers_a, t_fingers_c, t_fingers_l⟩⟩).self = ⟨t_self_addr, t_self_id⟩ from rfl, hI]; rfl

theorem rNearest_ok (M : Mem) (t : TableV) (id : Plc) (avoid : (Sl Int)) (ht0 : TableV.ok M t) (havoid1 : SlK M (oneI .i64) 1 avoid) (hbig : t.succ.l.length ≤ 40 ∧ t.fingers.l.length ≤ 200) : Esp.Fn Try.prog 28 [t.enc, aggV [idSeg id], Sl.val avoid] M (fun M' v => v = ofPB (nearestT t.tb id avoid.l)) := by
  obtain ⟨⟨t_self_addr, t_self_id⟩, ⟨t_pred_addr, t_pred_id⟩, ⟨t_succ_a, t_succ_c, t_succ_l⟩, ⟨t_fingers_a, t_fingers_c, t_fingers_l⟩⟩ := t
  obtain ⟨avoid_a, avoid_c, avoid_l⟩ := avoid
  have k_t_succ : SlK M PeerV.segs 21 ⟨t_succ_a, t_succ_c, t_succ_l⟩ := ht0.h0
  have s_t_succ : SlM M t_succ_a (t_succ_l.map PeerV.segs) 21 := k_t_succ.h1
  have n_t_succ : (t_succ_l.map PeerV.segs).length = t_succ_l.length := List.length_map ..
  have m_t_succ : t_succ_l.length ≤ 9223372036854775807 := k_t_succ.h2
  have c_t_succ : t_succ_l.length ≤ t_succ_c := k_t_succ.h3
  have k_t_fingers : SlK M PeerV.segs 21 ⟨t_fingers_a, t_fingers_c, t_fingers_l⟩ := ht0.h1
  have s_t_fingers : SlM M t_fingers_a (t_fingers_l.map PeerV.segs) 21 := k_t_fingers.h1
  have n_t_fingers : (t_fingers_l.map PeerV.segs).length = t_fingers_l.length := List.length_map ..
  have m_t_fingers : t_fingers_l.length ≤ 9223372036854775807 := k_t_fingers.h2
  have c_t_fingers : t_fingers_l.length ≤ t_fingers_c := k_t_fingers.h3
  have k_avoid : SlK M (oneI .i64) 1 ⟨avoid_a, avoid_c, avoid_l⟩ := havoid1
  have s_avoid : SlM M avoid_a (avoid_l.map (oneI .i64)) 1 := k_avoid.h1
  have n_avoid : (avoid_l.map (oneI .i64)).length = avoid_l.length := List.length_map ..
  have m_avoid : avoid_l.length ≤ 9223372036854775807 := k_avoid.h2
  have c_avoid : avoid_l.length ≤ avoid_c := k_avoid.h3
  simp only at hbig
  refine fn_enter Try.func28 rfl Try.ntmps28 rfl ?_; intro H
  refine C_seq ?_
  refine C_region (l := [0, 1, 2, 3]) rfl ?_
  refine Y_box ?_; intro b1
  refine Y_box ?_; intro b2
  refine Y_alloc F.zero25 ?_; intro b3
  refine Y_assign ?_
  refine XD_end ?_
  refine K_then ?_
  refine Y_pk [7, 6, 4, 3, 2] ?_
  refine C_seq ?_
  refine C_region (l := [0, 1, 2]) rfl ?_
  refine X_fs rfl rfl F.ok43 rfl (rNone_ok _) rfl ?_
  rintro _ rfl
  refine XD_is 13 rfl (show _ = aggV [.one (.int .i64 (-1)), idSeg 0] from rfl) ?_
  refine Y_alloc F.zero25 ?_; intro b4
  refine Y_store F.lay25 ?_
  refine XD_end ?_
  refine K_then ?_
  refine Y_pk [8, 7, 6, 4, 3, 2] ?_
  refine C_seq ?_
  refine C_region (l := [0]) rfl ?_
  refine Y_assign ?_
  refine XD_end ?_
  refine K_then ?_
  refine C_seq ?_
  refine C_region (l := [0, 1, 2]) rfl ?_
  refine Y_load F.lay28 ?_
  refine X_fn rfl rfl F.ok39 rfl (rKnown_ok M ⟨⟨t_self_addr, t_self_id⟩, ⟨t_pred_addr, t_pred_id⟩, ⟨t_succ_a, t_succ_c, t_succ_l⟩, ⟨t_fingers_a, t_fingers_c, t_fingers_l⟩⟩ ht0 hbig) rfl ?_
  rintro _ M1 hm1 ⟨⟨ps_a, ps_c, ps_l⟩, rfl, hps, k_ps⟩
  have s_ps := k_ps.h1
  have n_ps : (ps_l.map PeerV.segs).length = ps_l.length := List.length_map ..
  have m_ps : ps_l.length ≤ 9223372036854775807 := k_ps.h2
  simp only at hps s_ps
  refine Y_assign ?_
  refine XD_end ?_
  refine K_then ?_
  refine Y_pk [10, 9, 8, 7, 6, 4, 3, 2] ?_
  iterate 2 refine C_seq ?_
  refine C_region (l := [0]) rfl ?_
  refine Y_assign ?_
  refine XD_end ?_
  refine K_then ?_
  refine C_block ?_
  refine Y_pk [11, 9, 10, 8, 7, 6, 4, 3, 2] ?_
  refine C_loopO (Hin := [(b4, rowO [.one (.int .i64 (-1)), idSeg 0] 25)]) (.succ (.succ .zero)) (by repeat first | exact Rem.here _ | exact Rem.two | apply Rem.skip | apply Rem.over) (fun (k : Nat) M9 h1 z => ∃ r : PeerV × Bool, M9 = M1 ∧ z = [(11, .int .i64 (k : Int)), (9, .bool r.2)] ∧ k ≤ ps_l.length ∧ h1 = [(b4, rowO [.one (.int .i64 r.1.addr), idSeg r.1.id] 25)] ∧ (ps_l.take (k)).foldl (nearStep ⟨t_self_addr, t_self_id⟩ id avoid_l) (noneP, false) = r ∧ (r.2 = true → OpenP t_self_id r.1.id id)) (fun k => ps_l.length - k) (0) (⟨(noneP, false), rfl, rfl, by omega, rfl, rfl, by simp⟩) ?_
  rintro k M2 h1 z hm2 ⟨⟨⟨ra, ri⟩, rb⟩, hM2, rfl, hk, rfl, hI, hO⟩
  subst hM2
  rcases rb with _ | _
  ·skip
   iterate 2 refine C_seq ?_
   refine C_region (l := [0, 1, 2, 3]) rfl ?_
   iterate 2 refine Y_move ?_
   refine Y_len_sl F.elem26 ?_
   refine Y_cmp ?_
   refine XD_end ?_
   refine K_then ?_
   refine C_cond rfl (fun hc5 => ?_) (fun hc5 => ?_)
   ·replace hc5 := dT hc5
    refine C_skip ?_
    refine K_then ?_
    refine C_seq ?_
    refine C_block ?_
    refine C_seq ?_
    obtain ⟨⟨x_addr, x_id⟩, hx⟩ : ∃ x, ps_l[k] = x := ⟨_, rfl⟩
    refine C_region (l := [0, 1, 2, 3, 4, 5]) rfl ?_
    iterate 2 refine Y_move ?_
    refine X_indexAddr rfl rfl rfl rfl F.elem26 (by rfl) (by omega) (by exact SlM.plain (by assumption) (by (simp; omega))) rfl ?_
    refine X_load_el rfl rfl rfl s_ps (show (ps_l.map PeerV.segs)[k]? = some (PeerV.segs ⟨x_addr, x_id⟩) by rw [List.getElem?_map, List.getElem?_eq_getElem (by omega), hx]; rfl) F.lay25 rfl rfl rfl ?_
    refine Y_alloc F.zero25 ?_; intro b6
    refine Y_store F.lay25 ?_
    refine XD_end ?_
    refine K_then ?_
    iterate 2 refine C_seq ?_
    refine C_region (l := [0, 1, 2, 3, 4, 5, 6, 7, 8, 9, 10, 11, 12, 13]) rfl ?_
    refine Y_move ?_
    refine Y_fieldAddr F.foff25_0 ?_
    refine Y_load F.lay3 ?_
    refine X_fs rfl rfl F.ok76 rfl (in_ok _ ⟨_, _, _⟩ _ (by exact SlK.mono (by assumption) (by assumption))) rfl ?_
    rintro _ rfl
    refine Y_move ?_
    refine XD_part 30 rfl (fun hc7 => ?_) (fun hc7 => ?_)
    ·replace hc7 := dT hc7
     simp only [PeerV.eta, TableV.eta, RouteV.eta] at hc7
     iterate 8 refine Y_skip ?_
     refine Y_pick ?_
     refine XD_end ?_
     refine K_then ?_
     refine C_true rfl ?_
     refine C_exit ?_
     refine K_exit ?_
     refine K_hit ?_
     refine K_then ?_
     refine C_region (l := [0, 1, 2]) rfl ?_
     refine Y_move ?_
     refine X_ari rfl rfl rfl rfl rfl (by exact wrap_in (by decide) (by omega)) rfl ?_
     refine Y_assign ?_
     refine XD_end ?_
     refine K_roundO (a' := [(11, _), (9, _)]) (k + 1) ([(b4, rowO [.one (.int .i64 ra), idSeg ri] 25)]) (.cons (k := 11) rfl (.cons (k := 9) rfl (.cons (k := 10) rfl (.cons (k := 8) rfl (.cons (k := 7) rfl (.cons (k := 6) rfl (.cons (k := 4) rfl (.cons (k := 3) rfl (.cons (k := 2) rfl (.nil)))))))))) (by exact Mem.le.refl _) (fun w hw => by first | exact hw | exact hw.c) ?_ ?_
     ·exact ⟨(⟨ra, ri⟩, false), rfl, rfl, by omega, rfl, by rw [foldl_take (by omega : k < ps_l.length), hI, hx]; unfold nearStep; rw [if_pos (by exact .inl (by assumption))], hO⟩
     ·omega
    ·replace hc7 := dF hc7
     simp only [PeerV.eta, TableV.eta, RouteV.eta] at hc7
     refine Y_fieldAddr F.foff28_0 ?_
     refine Y_fieldAddr F.foff25_1 ?_
     refine Y_load F.lay23 ?_
     refine Y_fieldAddr F.foff25_1 ?_
     iterate 2 refine Y_load F.lay23 ?_
     refine X_fs rfl rfl F.ok74 rfl (rOpen_ok _ _ _ _) rfl ?_
     rintro _ rfl
     refine Y_not ?_
     refine Y_pick ?_
     refine XD_end ?_
     refine K_then ?_
     refine C_cond rfl (fun hc8 => ?_) (fun hc8 => ?_)
     ·replace hc8 := nT hc8
      refine C_exit ?_
      refine K_exit ?_
      refine K_hit ?_
      refine K_then ?_
      refine C_region (l := [0, 1, 2]) rfl ?_
      refine Y_move ?_
      refine X_ari rfl rfl rfl rfl rfl (by exact wrap_in (by decide) (by omega)) rfl ?_
      refine Y_assign ?_
      refine XD_end ?_
      refine K_roundO (a' := [(11, _), (9, _)]) (k + 1) ([(b4, rowO [.one (.int .i64 ra), idSeg ri] 25)]) (.cons (k := 11) rfl (.cons (k := 9) rfl (.cons (k := 10) rfl (.cons (k := 8) rfl (.cons (k := 7) rfl (.cons (k := 6) rfl (.cons (k := 4) rfl (.cons (k := 3) rfl (.cons (k := 2) rfl (.nil)))))))))) (by exact Mem.le.refl _) (fun w hw => by first | exact hw | exact hw.c) ?_ ?_
      ·exact ⟨(⟨ra, ri⟩, false), rfl, rfl, by omega, rfl, by rw [foldl_take (by omega : k < ps_l.length), hI, hx]; unfold nearStep; rw [if_pos (by exact .inr (by assumption))], hO⟩
      ·omega
     ·replace hc8 := nF hc8
      refine C_skip ?_
      refine K_then ?_
      refine C_seq ?_
      refine C_region_any (l := [0, 1, 2, 3, 4, 5, 6, 7, 8, 9, 10, 11, 12, 13, 14, 15, 16]) #[0, 1, 3, 7, 15, 7, 39, 103, 255, 7, 519, 7, 2055, 6151, 16383, 32767, 65535] _ rfl (by kernel_rfl) (by kernel_rfl) St.drawn (fun _ h => h) ?_
      refine Y_move ?_
      refine Y_not ?_
      refine Y_move ?_
      iterate 13 refine Y_skip ?_
      refine Y_pick ?_
      refine XD_end ?_
      refine K_then ?_
      refine C_true rfl ?_
      refine C_seq ?_
      refine C_region (l := [0, 1]) rfl ?_
      refine Y_load F.lay25 ?_
      refine Y_store F.lay25 ?_
      refine XD_end ?_
      refine K_then ?_
      refine C_region (l := [0]) rfl ?_
      refine Y_assign ?_
      refine XD_end ?_
      refine K_out ?_
      refine K_then ?_
      refine C_region (l := [0, 1, 2]) rfl ?_
      refine Y_move ?_
      refine X_ari rfl rfl rfl rfl rfl (by exact wrap_in (by decide) (by omega)) rfl ?_
      refine Y_assign ?_
      refine XD_end ?_
      refine K_roundO (a' := [(11, _), (9, _)]) (k + 1) ([(b4, rowO [.one (.int .i64 x_addr), idSeg x_id] 25)]) (.cons (k := 11) rfl (.cons (k := 9) rfl (.cons (k := 10) rfl (.cons (k := 8) rfl (.cons (k := 7) rfl (.cons (k := 6) rfl (.cons (k := 4) rfl (.cons (k := 3) rfl (.cons (k := 2) rfl (.nil)))))))))) (by exact Mem.le.refl _) (fun w hw => by first | exact hw | exact hw.c) ?_ ?_
      ·exact ⟨(⟨x_addr, x_id⟩, true), rfl, rfl, by omega, rfl, by rw [foldl_take (by omega : k < ps_l.length), hI, hx]; unfold nearStep; rw [if_neg (by rintro (g1 | g1); exact absurd g1 (by assumption); exact g1 (by assumption)), if_pos (.inl rfl)], fun _ => by assumption⟩
      ·omega
   ·replace hc5 := dF hc5
    refine C_exit ?_
    iterate 2 refine K_exit ?_
    refine K_hit ?_
    refine K_then ?_
    refine Y_pk [9, 8, 7, 6] ?_
    refine C_seq ?_
    refine C_region (l := [0, 1, 2, 3]) rfl ?_
    refine Y_load F.lay25 ?_
    refine Y_move ?_
    refine Y_store F.lay25 ?_
    refine Y_assign ?_
    refine XD_end ?_
    refine K_then ?_
    refine Y_pk [7, 6] ?_
    refine C_ret ?_
    refine K_end (.inr rfl) (.cell rfl (by repeat first | exact List.Mem.head _ | refine List.Mem.tail _ ?_ | refine List.mem_append_right _ ?_) F.lay25 rfl rfl (.tmp rfl .nil)) (fun w hw => ?_)
    obtain rfl : k = ps_l.length := by omega
    rw [List.take_length, hps] at hI
    refine ⟨_, M2, rfl, hm1, hw.c, ?_⟩
    unfold nearestT
    rw [show (TableV.tb ⟨⟨t_self_addr, t_self_id⟩, ⟨t_pred_addr, t_pred_id⟩, ⟨t_succ_a, t_succ_c, t_succ_l⟩, ⟨t_fingers_a, t_fingers_c, t_fingers_l⟩⟩).self = ⟨t_self_addr, t_self_id⟩ from rfl, hI]; rfl
  ·skip
   iterate 2 refine C_seq ?_
   refine C_region (l := [0, 1, 2, 3]) rfl ?_
   iterate 2 refine Y_move ?_
   refine Y_len_sl F.elem26 ?_
   refine Y_cmp ?_
   refine XD_end ?_
   refine K_then ?_
   refine C_cond rfl (fun hc9 => ?_) (fun hc9 => ?_)
   ·replace hc9 := dT hc9
    refine C_skip ?_
    refine K_then ?_
    refine C_seq ?_
    refine C_block ?_
    refine C_seq ?_
    obtain ⟨⟨x_addr, x_id⟩, hx⟩ : ∃ x, ps_l[k] = x := ⟨_, rfl⟩
    refine C_region (l := [0, 1, 2, 3, 4, 5]) rfl ?_
    iterate 2 refine Y_move ?_
    refine X_indexAddr rfl rfl rfl rfl F.elem26 (by rfl) (by omega) (by exact SlM.plain (by assumption) (by (simp; omega))) rfl ?_
    refine X_load_el rfl rfl rfl s_ps (show (ps_l.map PeerV.segs)[k]? = some (PeerV.segs ⟨x_addr, x_id⟩) by rw [List.getElem?_map, List.getElem?_eq_getElem (by omega), hx]; rfl) F.lay25 rfl rfl rfl ?_
    refine Y_alloc F.zero25 ?_; intro b10
    refine Y_store F.lay25 ?_
    refine XD_end ?_
    refine K_then ?_
    iterate 2 refine C_seq ?_
    refine C_region (l := [0, 1, 2, 3, 4, 5, 6, 7, 8, 9, 10, 11, 12, 13]) rfl ?_
    refine Y_move ?_
    refine Y_fieldAddr F.foff25_0 ?_
    refine Y_load F.lay3 ?_
    refine X_fs rfl rfl F.ok76 rfl (in_ok _ ⟨_, _, _⟩ _ (by exact SlK.mono (by assumption) (by assumption))) rfl ?_
    rintro _ rfl
    refine Y_move ?_
    refine XD_part 30 rfl (fun hc11 => ?_) (fun hc11 => ?_)
    ·replace hc11 := dT hc11
     simp only [PeerV.eta, TableV.eta, RouteV.eta] at hc11
     iterate 8 refine Y_skip ?_
     refine Y_pick ?_
     refine XD_end ?_
     refine K_then ?_
     refine C_true rfl ?_
     refine C_exit ?_
     refine K_exit ?_
     refine K_hit ?_
     refine K_then ?_
     refine C_region (l := [0, 1, 2]) rfl ?_
     refine Y_move ?_
     refine X_ari rfl rfl rfl rfl rfl (by exact wrap_in (by decide) (by omega)) rfl ?_
     refine Y_assign ?_
     refine XD_end ?_
     refine K_roundO (a' := [(11, _), (9, _)]) (k + 1) ([(b4, rowO [.one (.int .i64 ra), idSeg ri] 25)]) (.cons (k := 11) rfl (.cons (k := 9) rfl (.cons (k := 10) rfl (.cons (k := 8) rfl (.cons (k := 7) rfl (.cons (k := 6) rfl (.cons (k := 4) rfl (.cons (k := 3) rfl (.cons (k := 2) rfl (.nil)))))))))) (by exact Mem.le.refl _) (fun w hw => by first | exact hw | exact hw.c) ?_ ?_
     ·exact ⟨(⟨ra, ri⟩, true), rfl, rfl, by omega, rfl, by rw [foldl_take (by omega : k < ps_l.length), hI, hx]; unfold nearStep; rw [if_pos (by exact .inl (by assumption))], hO⟩
     ·omega
    ·replace hc11 := dF hc11
     simp only [PeerV.eta, TableV.eta, RouteV.eta] at hc11
     refine Y_fieldAddr F.foff28_0 ?_
     refine Y_fieldAddr F.foff25_1 ?_
     refine Y_load F.lay23 ?_
     refine Y_fieldAddr F.foff25_1 ?_
     iterate 2 refine Y_load F.lay23 ?_
     refine X_fs rfl rfl F.ok74 rfl (rOpen_ok _ _ _ _) rfl ?_
     rintro _ rfl
     refine Y_not ?_
     refine Y_pick ?_
     refine XD_end ?_
     refine K_then ?_
     refine C_cond rfl (fun hc12 => ?_) (fun hc12 => ?_)
     ·replace hc12 := nT hc12
      refine C_exit ?_
      refine K_exit ?_
      refine K_hit ?_
      refine K_then ?_
      refine C_region (l := [0, 1, 2]) rfl ?_
      refine Y_move ?_
      refine X_ari rfl rfl rfl rfl rfl (by exact wrap_in (by decide) (by omega)) rfl ?_
      refine Y_assign ?_
      refine XD_end ?_
      refine K_roundO (a' := [(11, _), (9, _)]) (k + 1) ([(b4, rowO [.one (.int .i64 ra), idSeg ri] 25)]) (.cons (k := 11) rfl (.cons (k := 9) rfl (.cons (k := 10) rfl (.cons (k := 8) rfl (.cons (k := 7) rfl (.cons (k := 6) rfl (.cons (k := 4) rfl (.cons (k := 3) rfl (.cons (k := 2) rfl (.nil)))))))))) (by exact Mem.le.refl _) (fun w hw => by first | exact hw | exact hw.c) ?_ ?_
      ·exact ⟨(⟨ra, ri⟩, true), rfl, rfl, by omega, rfl, by rw [foldl_take (by omega : k < ps_l.length), hI, hx]; unfold nearStep; rw [if_pos (by exact .inr (by assumption))], hO⟩
      ·omega
     ·replace hc12 := nF hc12
      refine C_skip ?_
      refine K_then ?_
      refine C_seq ?_
      refine C_region_any (l := [0, 1, 2, 3, 4, 5, 6, 7, 8, 9, 10, 11, 12, 13, 14, 15, 16]) #[0, 1, 3, 7, 15, 7, 39, 103, 255, 7, 519, 7, 2055, 6151, 16383, 32767, 65535] _ rfl (by kernel_rfl) (by kernel_rfl) St.drawn (fun _ h => h) ?_
      refine Y_move ?_
      refine Y_not ?_
      refine Y_move ?_
      refine Y_fieldAddr F.foff25_1 ?_
      refine Y_load F.lay23 ?_
      refine Y_fieldAddr F.foff28_0 ?_
      refine Y_fieldAddr F.foff25_1 ?_
      refine Y_load F.lay23 ?_
      refine X_fs rfl rfl F.ok78 rfl (rMinus_ok _ _ _) rfl ?_
      rintro _ rfl
      refine Y_fieldAddr F.foff25_1 ?_
      refine Y_load F.lay23 ?_
      refine Y_fieldAddr F.foff28_0 ?_
      refine Y_fieldAddr F.foff25_1 ?_
      refine Y_load F.lay23 ?_
      refine X_fs rfl rfl F.ok78 rfl (rMinus_ok _ _ _) rfl ?_
      rintro _ rfl
      refine X_fs rfl rfl F.ok77 rfl (rLess_ok _ _ _) rfl ?_
      rintro _ rfl
      refine Y_pick ?_
      refine XD_end ?_
      refine K_then ?_
      refine C_cond rfl (fun hc13 => ?_) (fun hc13 => ?_)
      ·replace hc13 := dT hc13
       simp only [PeerV.eta, TableV.eta, RouteV.eta] at hc13
       refine C_seq ?_
       refine C_region (l := [0, 1]) rfl ?_
       refine Y_load F.lay25 ?_
       refine Y_store F.lay25 ?_
       refine XD_end ?_
       refine K_then ?_
       refine C_region (l := [0]) rfl ?_
       refine Y_assign ?_
       refine XD_end ?_
       refine K_out ?_
       refine K_then ?_
       refine C_region (l := [0, 1, 2]) rfl ?_
       refine Y_move ?_
       refine X_ari rfl rfl rfl rfl rfl (by exact wrap_in (by decide) (by omega)) rfl ?_
       refine Y_assign ?_
       refine XD_end ?_
       refine K_roundO (a' := [(11, _), (9, _)]) (k + 1) ([(b4, rowO [.one (.int .i64 x_addr), idSeg x_id] 25)]) (.cons (k := 11) rfl (.cons (k := 9) rfl (.cons (k := 10) rfl (.cons (k := 8) rfl (.cons (k := 7) rfl (.cons (k := 6) rfl (.cons (k := 4) rfl (.cons (k := 3) rfl (.cons (k := 2) rfl (.nil)))))))))) (by exact Mem.le.refl _) (fun w hw => by first | exact hw | exact hw.c) ?_ ?_
       ·exact ⟨(⟨x_addr, x_id⟩, true), rfl, rfl, by omega, rfl, by rw [foldl_take (by omega : k < ps_l.length), hI, hx]; unfold nearStep; rw [if_neg (by rintro (g1 | g1); exact absurd g1 (by assumption); exact g1 (by assumption)), if_pos (.inr ((open_less (hO rfl) (by assumption)).2 (by assumption)))], fun _ => by assumption⟩
       ·omega
      ·replace hc13 := dF hc13
       simp only [PeerV.eta, TableV.eta, RouteV.eta] at hc13
       refine C_skip ?_
       refine K_out ?_
       refine K_then ?_
       refine C_region (l := [0, 1, 2]) rfl ?_
       refine Y_move ?_
       refine X_ari rfl rfl rfl rfl rfl (by exact wrap_in (by decide) (by omega)) rfl ?_
       refine Y_assign ?_
       refine XD_end ?_
       refine K_roundO (a' := [(11, _), (9, _)]) (k + 1) ([(b4, rowO [.one (.int .i64 ra), idSeg ri] 25)]) (.cons (k := 11) rfl (.cons (k := 9) rfl (.cons (k := 10) rfl (.cons (k := 8) rfl (.cons (k := 7) rfl (.cons (k := 6) rfl (.cons (k := 4) rfl (.cons (k := 3) rfl (.cons (k := 2) rfl (.nil)))))))))) (by exact Mem.le.refl _) (fun w hw => by first | exact hw | exact hw.c) ?_ ?_
       ·exact ⟨(⟨ra, ri⟩, true), rfl, rfl, by omega, rfl, by rw [foldl_take (by omega : k < ps_l.length), hI, hx]; unfold nearStep; rw [if_neg (by rintro (g1 | g1); exact absurd g1 (by assumption); exact g1 (by assumption)), if_neg (by rintro (g1 | g1); cases g1; exact absurd ((open_less (hO rfl) (by assumption)).1 g1) (by assumption))], hO⟩
       ·omega
   ·replace hc9 := dF hc9
    refine C_exit ?_
    iterate 2 refine K_exit ?_
    refine K_hit ?_
    refine K_then ?_
    refine Y_pk [9, 8, 7, 6] ?_
    refine C_seq ?_
    refine C_region (l := [0, 1, 2, 3]) rfl ?_
    refine Y_load F.lay25 ?_
    refine Y_move ?_
    refine Y_store F.lay25 ?_
    refine Y_assign ?_
    refine XD_end ?_
    refine K_then ?_
    refine Y_pk [7, 6] ?_
    refine C_ret ?_
    refine K_end (.inr rfl) (.cell rfl (by repeat first | exact List.Mem.head _ | refine List.Mem.tail _ ?_ | refine List.mem_append_right _ ?_) F.lay25 rfl rfl (.tmp rfl .nil)) (fun w hw => ?_)
    obtain rfl : k = ps_l.length := by omega
    rw [List.take_length, hps] at hI
    refine ⟨_, M2, rfl, hm1, hw.c, ?_⟩
    unfold nearestT
    rw [show (TableV.tb ⟨⟨t_self_addr, t_self_id⟩, ⟨t_pred_addr, t_pred_id⟩, ⟨t_succ_a, t_succ_c, t_succ_l⟩, ⟨t_fingers_a, t_fingers_c, t_fingers_l⟩⟩).self = ⟨t_self_addr, t_self_id⟩ from rfl, hI]; rfl

end Go.Proofs.Ytbjklbmmchiahaa
/-
  Small places.
-/
set_option linter.unusedSimpArgs false
set_option linter.unusedVariables false
set_option linter.unnecessarySimpa false
namespace Go.Esp
/-- A small number's place. -/
def smallP (n : Int) : Plc := ofBytes fun i => if i = 19 then (n % 256).toNat else if i = 18 then (n / 256 % 256).toNat else 0
theorem smallP_lt (n : Int) : ∀ i, (if i = 19 then (n % 256).toNat else if i = 18 then (n / 256 % 256).toNat else 0) < 256 := fun i => by
  split
  · omega
  · split
    · omega
    · decide
theorem idV0 {i : Nat} (h : i < 20) : (idV 0)[i] = .int .u8 0 := by rw [idV_get _ h]; simp [idB]
theorem small_seg (n : Int) : idV (smallP n) = ((idV 0).set 19 (.int .u8 (n % 256))).set 18 (.int .u8 (n / 256 % 256)) := by
  apply Vector.ext
  intro i hi
  rw [idV_get _ hi]
  unfold smallP
  rw [idB_ofBytes (smallP_lt n) hi]
  by_cases e8 : i = 18
  · subst e8
    rw [Vector.getElem_set_self]
    simp
    omega
  · rw [Vector.getElem_set_ne _ _ (Ne.symm e8)]
    by_cases e9 : i = 19
    · subst e9
      rw [Vector.getElem_set_self]
      simp
      omega
    · rw [Vector.getElem_set_ne _ _ (Ne.symm e9), idV0 hi]
      simp [e8, e9]

/-! The document's example. -/
end Go.Esp
/-
  The same tables; small places.
-/
set_option linter.unusedSimpArgs false
set_option linter.unusedVariables false
set_option linter.unnecessarySimpa false
set_option maxRecDepth 8000
set_option maxHeartbeats 1000000
namespace Go.Proofs.Ytbjklbmmchiahaa
open Go.Esp
theorem F.ok37 : okFn Try.prog 37 = true := by kernel_rfl
theorem F.ok73 : okFn Try.prog 73 = true := by kernel_rfl

theorem SameP_ok (M : Mem) (a : (Sl PeerV)) (b : (Sl PeerV)) (ha0 : SlK M PeerV.segs 21 a) (hb1 : SlK M PeerV.segs 21 b) : Fs Try.prog 37 [Sl.val a, Sl.val b] M (fun v => v = Value.bool (decide (a.l = b.l))) := by
  obtain ⟨a_a, a_c, a_l⟩ := a
  obtain ⟨b_a, b_c, b_l⟩ := b
  have k_a : SlK M PeerV.segs 21 ⟨a_a, a_c, a_l⟩ := ha0
  have s_a : SlM M a_a (a_l.map PeerV.segs) 21 := k_a.h1
  have n_a : (a_l.map PeerV.segs).length = a_l.length := List.length_map ..
  have m_a : a_l.length ≤ 9223372036854775807 := k_a.h2
  have c_a : a_l.length ≤ a_c := k_a.h3
  have k_b : SlK M PeerV.segs 21 ⟨b_a, b_c, b_l⟩ := hb1
  have s_b : SlM M b_a (b_l.map PeerV.segs) 21 := k_b.h1
  have n_b : (b_l.map PeerV.segs).length = b_l.length := List.length_map ..
  have m_b : b_l.length ≤ 9223372036854775807 := k_b.h2
  have c_b : b_l.length ≤ b_c := k_b.h3
  refine fs_enter Try.func37 rfl Try.ntmps37 rfl ?_; intro H
  refine C_seq ?_
  refine C_region (l := [0]) rfl ?_
  refine Y_assign ?_
  refine XD_end ?_
  refine K_then ?_
  iterate 2 refine C_seq ?_
  refine C_region (l := [0, 1, 2, 3, 4]) rfl ?_
  refine Y_move ?_
  refine Y_len_sl F.elem26 ?_
  refine Y_move ?_
  refine Y_len_sl F.elem26 ?_
  refine Y_cmp ?_
  refine XD_end ?_
  refine K_then ?_
  refine Y_pk [10, 4, 0, 1] ?_
  refine C_cond rfl (fun hc1 => ?_) (fun hc1 => ?_)
  ·replace hc1 := nT hc1
   refine C_seq ?_
   refine C_region (l := [0]) rfl ?_
   refine Y_assign ?_
   refine XD_end ?_
   refine K_then ?_
   refine Y_pk [4, 0, 1] ?_
   refine C_ret ?_
   refine K_ret ?_
   refine K_end (.inr rfl) (.tmp rfl .nil) (fun w hw => ?_)
   refine ⟨_, rfl, (hw.c), ?_⟩
   clear hw
   refine congrArg Value.bool ?_
   exact (decide_eq_false (fun h9 => by subst h9; simp_all)).symm
  ·replace hc1 := nF hc1
   refine C_skip ?_
   refine K_then ?_
   refine Y_pk [4, 0, 1] ?_
   iterate 2 refine C_seq ?_
   refine C_region (l := [0]) rfl ?_
   refine Y_assign ?_
   refine XD_end ?_
   refine K_then ?_
   refine C_block ?_
   refine Y_pk [5, 4, 0, 1] ?_
   refine C_loopS (.succ .zero) (fun (k : Nat) z => z = [(5, .int .i64 (k : Int))] ∧ k ≤ a_l.length ∧ (∀ j (h2 : j < a_l.length) (h3 : j < b_l.length), j < k → a_l[j] = b_l[j])) (fun k => a_l.length - k) (0) (⟨rfl, by omega, by (intro j h2 h3 hj; omega)⟩) ?_
   rintro k _ ⟨rfl, hk, hI⟩
   iterate 2 refine C_seq ?_
   refine C_region (l := [0, 1, 2, 3]) rfl ?_
   iterate 2 refine Y_move ?_
   refine Y_len_sl F.elem26 ?_
   refine Y_cmp ?_
   refine XD_end ?_
   refine K_then ?_
   refine C_cond rfl (fun hc2 => ?_) (fun hc2 => ?_)
   ·replace hc2 := dT hc2
    refine C_skip ?_
    refine K_then ?_
    refine C_seq ?_
    refine C_block ?_
    refine C_seq ?_
    refine C_region_any (l := [0, 1, 2, 3, 4, 5, 6, 7, 8]) #[0, 0, 3, 7, 0, 0, 48, 112, 255] _ rfl (by kernel_rfl) (by kernel_rfl) St.drawn (fun _ h => h) ?_
    iterate 2 refine Y_move ?_
    refine X_indexAddr rfl rfl rfl rfl F.elem26 (by rfl) (by omega) (by exact SlM.plain (by assumption) (by (simp; omega))) rfl ?_
    refine X_load_el rfl rfl rfl (by assumption) (by exact row_map (by omega)) F.lay25 rfl rfl rfl ?_
    iterate 2 refine Y_move ?_
    refine X_indexAddr rfl rfl rfl rfl F.elem26 (by rfl) (by omega) (by exact SlM.plain (by assumption) (by (simp; omega))) rfl ?_
    refine X_load_el rfl rfl rfl (by assumption) (by exact row_map (by omega)) F.lay25 rfl rfl rfl ?_
    refine X_same (m := 20) rfl rfl rfl rfl rfl (by constructor) (by constructor) F.lay25 F.kinds25 rfl F.guard25 (by exact FitPeerV _) (by exact FitPeerV _) rfl rfl rfl ?_; intro c3 he4
    replace he4 : c3 = true ↔ ¬ (Segs.cells _ = Segs.cells _) := he4
    obtain rfl := neD he4 (PeerV.inj (x := ⟨_, _⟩) (y := ⟨_, _⟩)); clear he4
    refine XD_end ?_
    refine K_then ?_
    refine C_cond rfl (fun hc5 => ?_) (fun hc5 => ?_)
    ·replace hc5 := nT hc5
     simp only [PeerV.eta, TableV.eta, RouteV.eta] at hc5
     refine C_seq ?_
     refine C_region (l := [0]) rfl ?_
     refine Y_assign ?_
     refine XD_end ?_
     refine K_then ?_
     refine C_ret ?_
     refine K_retB ?_
     iterate 2 refine K_ret ?_
     refine K_retB ?_
     refine K_ret ?_
     refine K_end (.inr rfl) (.tmp rfl .nil) (fun w hw => ?_)
     refine ⟨_, rfl, (hw.c), ?_⟩
     clear hw
     refine congrArg Value.bool ?_
     exact (decide_eq_false (fun h9 => by subst h9; simp_all)).symm
    ·replace hc5 := nF hc5
     simp only [PeerV.eta, TableV.eta, RouteV.eta] at hc5
     refine C_skip ?_
     refine K_out ?_
     refine K_then ?_
     refine C_region (l := [0, 1, 2]) rfl ?_
     refine Y_move ?_
     refine X_ari rfl rfl rfl rfl rfl (by exact wrap_in (by decide) (by omega)) rfl ?_
     refine Y_assign ?_
     refine XD_end ?_
     refine K_roundS (a' := [(5, _)]) (k + 1) (.cons (k := 5) rfl (.cons (k := 4) rfl (.cons (k := 0) rfl (.cons (k := 1) rfl (.nil))))) (fun w hw => by first | exact hw | exact hw.c) ?_ ?_
     ·refine ⟨rfl, by omega, ?_⟩
      (intro j h2 h3 hj; rcases Nat.lt_or_ge j k with h9 | h9; exact hI j h2 h3 h9; obtain rfl : j = k := (by omega); simp_all)
     ·omega
   ·replace hc2 := dF hc2
    refine C_exit ?_
    iterate 2 refine K_exit ?_
    refine K_hit ?_
    refine K_then ?_
    refine Y_pk [4] ?_
    refine C_seq ?_
    refine C_region (l := [0]) rfl ?_
    refine Y_assign ?_
    refine XD_end ?_
    refine K_then ?_
    refine C_ret ?_
    refine K_end (.inr rfl) (.tmp rfl .nil) (fun w hw => ?_)
    refine ⟨_, rfl, (hw.c), ?_⟩
    clear hw
    refine congrArg Value.bool ?_
    exact (decide_eq_true (List.ext_getElem (by omega) (fun j h2 h3 => hI j h2 h3 (by omega)))).symm

theorem SameT_ok (M : Mem) (a : TableV) (b : TableV) (ha0 : TableV.ok M a) (hb1 : TableV.ok M b) : Fs Try.prog 24 [a.enc, b.enc] M (fun v => v = Value.bool (decide (a.tb = b.tb))) := by
  obtain ⟨⟨a_self_addr, a_self_id⟩, ⟨a_pred_addr, a_pred_id⟩, ⟨a_succ_a, a_succ_c, a_succ_l⟩, ⟨a_fingers_a, a_fingers_c, a_fingers_l⟩⟩ := a
  obtain ⟨⟨b_self_addr, b_self_id⟩, ⟨b_pred_addr, b_pred_id⟩, ⟨b_succ_a, b_succ_c, b_succ_l⟩, ⟨b_fingers_a, b_fingers_c, b_fingers_l⟩⟩ := b
  have k_a_succ : SlK M PeerV.segs 21 ⟨a_succ_a, a_succ_c, a_succ_l⟩ := ha0.h0
  have s_a_succ : SlM M a_succ_a (a_succ_l.map PeerV.segs) 21 := k_a_succ.h1
  have n_a_succ : (a_succ_l.map PeerV.segs).length = a_succ_l.length := List.length_map ..
  have m_a_succ : a_succ_l.length ≤ 9223372036854775807 := k_a_succ.h2
  have c_a_succ : a_succ_l.length ≤ a_succ_c := k_a_succ.h3
  have k_a_fingers : SlK M PeerV.segs 21 ⟨a_fingers_a, a_fingers_c, a_fingers_l⟩ := ha0.h1
  have s_a_fingers : SlM M a_fingers_a (a_fingers_l.map PeerV.segs) 21 := k_a_fingers.h1
  have n_a_fingers : (a_fingers_l.map PeerV.segs).length = a_fingers_l.length := List.length_map ..
  have m_a_fingers : a_fingers_l.length ≤ 9223372036854775807 := k_a_fingers.h2
  have c_a_fingers : a_fingers_l.length ≤ a_fingers_c := k_a_fingers.h3
  have k_b_succ : SlK M PeerV.segs 21 ⟨b_succ_a, b_succ_c, b_succ_l⟩ := hb1.h0
  have s_b_succ : SlM M b_succ_a (b_succ_l.map PeerV.segs) 21 := k_b_succ.h1
  have n_b_succ : (b_succ_l.map PeerV.segs).length = b_succ_l.length := List.length_map ..
  have m_b_succ : b_succ_l.length ≤ 9223372036854775807 := k_b_succ.h2
  have c_b_succ : b_succ_l.length ≤ b_succ_c := k_b_succ.h3
  have k_b_fingers : SlK M PeerV.segs 21 ⟨b_fingers_a, b_fingers_c, b_fingers_l⟩ := hb1.h1
  have s_b_fingers : SlM M b_fingers_a (b_fingers_l.map PeerV.segs) 21 := k_b_fingers.h1
  have n_b_fingers : (b_fingers_l.map PeerV.segs).length = b_fingers_l.length := List.length_map ..
  have m_b_fingers : b_fingers_l.length ≤ 9223372036854775807 := k_b_fingers.h2
  have c_b_fingers : b_fingers_l.length ≤ b_fingers_c := k_b_fingers.h3
  refine fs_enter Try.func24 rfl Try.ntmps24 rfl ?_; intro H
  refine C_seq ?_
  refine C_region (l := [0, 1, 2]) rfl ?_
  refine Y_box ?_; intro b1
  refine Y_box ?_; intro b2
  refine Y_assign ?_
  refine XD_end ?_
  refine K_then ?_
  refine Y_pk [4, 3, 2] ?_
  refine C_seq ?_
  refine C_region (l := [0, 1, 2, 3, 4, 5, 6, 7, 8, 9, 10, 11, 12, 13, 14, 15, 16, 17, 18, 19, 20, 21, 22, 23, 24, 25, 26]) rfl ?_
  refine Y_fieldAddr F.foff28_0 ?_
  refine Y_load F.lay25 ?_
  refine Y_fieldAddr F.foff28_0 ?_
  refine Y_load F.lay25 ?_
  refine X_same (m := 20) rfl rfl rfl rfl rfl (by constructor) (by constructor) F.lay25 F.kinds25 rfl F.guard25 (by exact FitPeerV (⟨_, _⟩)) (by exact FitPeerV (⟨_, _⟩)) rfl rfl rfl ?_; intro c3 he4
  replace he4 : c3 = true ↔ Segs.cells _ = Segs.cells _ := he4
  obtain rfl := eqD he4 (PeerV.inj (x := ⟨_, _⟩) (y := ⟨_, _⟩)); clear he4
  refine Y_move ?_
  refine XD_part 10 rfl (fun hc5 => ?_) (fun hc5 => ?_)
  ·replace hc5 := dT hc5
   refine Y_fieldAddr F.foff28_1 ?_
   refine Y_load F.lay25 ?_
   refine Y_fieldAddr F.foff28_1 ?_
   refine Y_load F.lay25 ?_
   refine X_same (m := 20) rfl rfl rfl rfl rfl (by constructor) (by constructor) F.lay25 F.kinds25 rfl F.guard25 (by exact FitPeerV (⟨_, _⟩)) (by exact FitPeerV (⟨_, _⟩)) rfl rfl rfl ?_; intro c6 he7
   replace he7 : c6 = true ↔ Segs.cells _ = Segs.cells _ := he7
   obtain rfl := eqD he7 (PeerV.inj (x := ⟨_, _⟩) (y := ⟨_, _⟩)); clear he7
   refine Y_pick ?_
   refine Y_move ?_
   refine XD_part 17 rfl (fun hc8 => ?_) (fun hc8 => ?_)
   ·replace hc8 := dT hc8
    refine Y_fieldAddr F.foff28_2 ?_
    refine Y_load F.lay26 ?_
    refine Y_fieldAddr F.foff28_2 ?_
    refine Y_load F.lay26 ?_
    refine X_fs rfl rfl F.ok37 rfl (SameP_ok _ ⟨_, _, _⟩ ⟨_, _, _⟩ (by assumption) (by assumption)) rfl ?_
    rintro _ rfl
    refine Y_pick ?_
    refine Y_move ?_
    refine XD_part 24 rfl (fun hc9 => ?_) (fun hc9 => ?_)
    ·replace hc9 := dT hc9
     simp only [PeerV.eta, TableV.eta, RouteV.eta] at hc9
     refine Y_fieldAddr F.foff28_3 ?_
     refine Y_load F.lay26 ?_
     refine Y_fieldAddr F.foff28_3 ?_
     refine Y_load F.lay26 ?_
     refine X_fs rfl rfl F.ok37 rfl (SameP_ok _ ⟨_, _, _⟩ ⟨_, _, _⟩ (by assumption) (by assumption)) rfl ?_
     rintro _ rfl
     refine Y_pick ?_
     refine Y_assign ?_
     refine XD_end ?_
     refine K_then ?_
     refine Y_pk [4] ?_
     refine C_ret ?_
     refine K_end (.inr rfl) (.tmp rfl .nil) (fun w hw => ?_)
     refine ⟨_, rfl, (hw.c), ?_⟩
     clear hw
     refine congrArg Value.bool ?_
     simp_all [TableV.tb]
    ·replace hc9 := dF hc9
     simp only [PeerV.eta, TableV.eta, RouteV.eta] at hc9
     iterate 5 refine Y_skip ?_
     refine Y_pick ?_
     refine Y_assign ?_
     refine XD_end ?_
     refine K_then ?_
     refine Y_pk [4] ?_
     refine C_ret ?_
     refine K_end (.inr rfl) (.tmp rfl .nil) (fun w hw => ?_)
     refine ⟨_, rfl, (hw.c), ?_⟩
     clear hw
     refine congrArg Value.bool ?_
     simp_all [TableV.tb]
   ·replace hc8 := dF hc8
    iterate 5 refine Y_skip ?_
    refine Y_pick ?_
    refine Y_move ?_
    iterate 5 refine Y_skip ?_
    refine Y_pick ?_
    refine Y_assign ?_
    refine XD_end ?_
    refine K_then ?_
    refine Y_pk [4] ?_
    refine C_ret ?_
    refine K_end (.inr rfl) (.tmp rfl .nil) (fun w hw => ?_)
    refine ⟨_, rfl, (hw.c), ?_⟩
    clear hw
    refine congrArg Value.bool ?_
    simp_all [TableV.tb]
  ·replace hc5 := dF hc5
   iterate 5 refine Y_skip ?_
   refine Y_pick ?_
   refine Y_move ?_
   iterate 5 refine Y_skip ?_
   refine Y_pick ?_
   refine Y_move ?_
   iterate 5 refine Y_skip ?_
   refine Y_pick ?_
   refine Y_assign ?_
   refine XD_end ?_
   refine K_then ?_
   refine Y_pk [4] ?_
   refine C_ret ?_
   refine K_end (.inr rfl) (.tmp rfl .nil) (fun w hw => ?_)
   refine ⟨_, rfl, (hw.c), ?_⟩
   clear hw
   refine congrArg Value.bool ?_
   simp_all [TableV.tb]

theorem BigT_ok (M : Mem) (t : TableV) (ht0 : TableV.ok M t) : Fs Try.prog 15 [t.enc] M (fun v => v = Value.bool (decide (40 < t.succ.l.length ∨ 200 < t.fingers.l.length))) := by
  obtain ⟨⟨t_self_addr, t_self_id⟩, ⟨t_pred_addr, t_pred_id⟩, ⟨t_succ_a, t_succ_c, t_succ_l⟩, ⟨t_fingers_a, t_fingers_c, t_fingers_l⟩⟩ := t
  have k_t_succ : SlK M PeerV.segs 21 ⟨t_succ_a, t_succ_c, t_succ_l⟩ := ht0.h0
  have s_t_succ : SlM M t_succ_a (t_succ_l.map PeerV.segs) 21 := k_t_succ.h1
  have n_t_succ : (t_succ_l.map PeerV.segs).length = t_succ_l.length := List.length_map ..
  have m_t_succ : t_succ_l.length ≤ 9223372036854775807 := k_t_succ.h2
  have c_t_succ : t_succ_l.length ≤ t_succ_c := k_t_succ.h3
  have k_t_fingers : SlK M PeerV.segs 21 ⟨t_fingers_a, t_fingers_c, t_fingers_l⟩ := ht0.h1
  have s_t_fingers : SlM M t_fingers_a (t_fingers_l.map PeerV.segs) 21 := k_t_fingers.h1
  have n_t_fingers : (t_fingers_l.map PeerV.segs).length = t_fingers_l.length := List.length_map ..
  have m_t_fingers : t_fingers_l.length ≤ 9223372036854775807 := k_t_fingers.h2
  have c_t_fingers : t_fingers_l.length ≤ t_fingers_c := k_t_fingers.h3
  refine fs_enter Try.func15 rfl Try.ntmps15 rfl ?_; intro H
  refine C_seq ?_
  refine C_region (l := [0, 1]) rfl ?_
  refine Y_box ?_; intro b1
  refine Y_assign ?_
  refine XD_end ?_
  refine K_then ?_
  refine Y_pk [2, 1] ?_
  refine C_seq ?_
  refine C_region (l := [0, 1, 2, 3, 4, 5, 6, 7, 8, 9, 10]) rfl ?_
  refine Y_fieldAddr F.foff28_2 ?_
  refine Y_load F.lay26 ?_
  refine Y_len_sl F.elem26 ?_
  refine Y_cmp ?_
  refine Y_move ?_
  refine XD_part 7 rfl (fun hc2 => ?_) (fun hc2 => ?_)
  ·replace hc2 := dT hc2
   iterate 4 refine Y_skip ?_
   refine Y_pick ?_
   refine Y_assign ?_
   refine XD_end ?_
   refine K_then ?_
   refine Y_pk [2] ?_
   refine C_ret ?_
   refine K_end (.inr rfl) (.tmp rfl .nil) (fun w hw => ?_)
   refine ⟨_, rfl, (hw.c), ?_⟩
   clear hw
   refine congrArg Value.bool ?_
   rw [Bool.eq_iff_iff]
   simp only [decide_eq_true_eq, true_iff, iff_true]
   omega
  ·replace hc2 := dF hc2
   refine Y_fieldAddr F.foff28_3 ?_
   refine Y_load F.lay26 ?_
   refine Y_len_sl F.elem26 ?_
   refine Y_cmp ?_
   refine Y_pick ?_
   refine Y_assign ?_
   refine XD_end ?_
   refine K_then ?_
   refine Y_pk [2] ?_
   refine C_ret ?_
   refine K_end (.inr rfl) (.tmp rfl .nil) (fun w hw => ?_)
   refine ⟨_, rfl, (hw.c), ?_⟩
   clear hw
   refine congrArg Value.bool ?_
   rw [Bool.eq_iff_iff]
   simp only [decide_eq_true_eq, true_iff, iff_true]
   omega

theorem Small_ok (M : Mem) (n : Int) (hn : 0 ≤ n ∧ n ≤ 1000000) : Fs Try.prog 73 [.int .i64 n] M (fun v => v = (fun x => aggV [idSeg x]) (smallP n)) := by
  refine fs_enter Try.func73 rfl Try.ntmps73 rfl ?_; intro H
  refine C_seq ?_
  refine C_region (l := [0]) rfl ?_
  refine Y_alloc F.zero23 ?_; intro b1
  refine XD_end ?_
  refine K_then ?_
  refine C_seq ?_
  refine C_region (l := [0]) rfl ?_
  refine Y_alloc F.zero23 ?_; intro b2
  refine XD_end ?_
  refine K_then ?_
  refine C_seq ?_
  refine C_region (l := [0, 1, 2, 3, 4]) rfl ?_
  refine Y_move ?_
  refine X_rem rfl rfl rfl rfl (by decide) (by exact rem_nn (by omega)) rfl ?_
  refine X_conv rfl rfl rfl Try.underlying3 Try.underlying5 (by exact wrap_u8_in (by decide) (by omega)) rfl ?_
  refine X_indexAddr_arr rfl rfl rfl rfl F.arr23 (by rfl) (by decide) rfl ?_
  refine X_store_cell rfl rfl rfl rfl rfl rfl (by repeat first | exact Upd.head | apply Upd.tail | apply Upd.over) F.lay5 (arr_len (by decide)) (arr_set (by decide)) ?_
  refine XD_end ?_
  refine K_then ?_
  refine Y_pk [3, 2, 0] ?_
  refine C_seq ?_
  refine C_region (l := [0, 1, 2, 3, 4, 5]) rfl ?_
  refine Y_move ?_
  refine X_quo rfl rfl rfl rfl (by decide) (by exact quo_in rfl (by omega) (by omega) (by omega)) rfl ?_
  refine X_rem rfl rfl rfl rfl (by decide) (by exact rem_nn (by omega)) rfl ?_
  refine X_conv rfl rfl rfl Try.underlying3 Try.underlying5 (by exact wrap_u8_in (by decide) (by omega)) rfl ?_
  refine X_indexAddr_arr rfl rfl rfl rfl F.arr23 (by rfl) (by decide) rfl ?_
  refine X_store_cell rfl rfl rfl rfl rfl rfl (by repeat first | exact Upd.head | apply Upd.tail | apply Upd.over) F.lay5 (arr_len (by decide)) (arr_set (by decide)) ?_
  refine XD_end ?_
  refine K_then ?_
  refine Y_pk [3, 2] ?_
  refine C_seq ?_
  refine C_region (l := [0, 1]) rfl ?_
  refine Y_load F.lay23 ?_
  refine XD_is 13 rfl (show aggV [.arr 20 _] = aggV [idSeg (smallP n)] from by unfold idSeg; rw [small_seg]) ?_
  refine Y_store F.lay23 ?_
  refine XD_end ?_
  refine K_then ?_
  refine Y_pk [2] ?_
  refine C_ret ?_
  refine K_end (.inr rfl) (.cell rfl (by repeat first | exact List.Mem.head _ | refine List.Mem.tail _ ?_ | refine List.mem_append_right _ ?_) F.lay23 rfl rfl .nil) (fun w hw => ?_)
  refine ⟨_, rfl, (hw.c), ?_⟩
  clear hw
  rfl

theorem peer_ok (M : Mem) (n : Int) (hn : 0 ≤ n ∧ n ≤ 1000) : Fs Try.prog 72 [.int .i64 n] M (fun v => v =  ((PeerV.mk n (smallP (10 * n))).enc)) := by
  refine fs_enter Try.func72 rfl Try.ntmps72 rfl ?_; intro H
  refine C_seq ?_
  refine C_region (l := [0]) rfl ?_
  refine Y_alloc F.zero25 ?_; intro b1
  refine XD_end ?_
  refine K_then ?_
  refine C_seq ?_
  refine C_region (l := [0, 1, 2, 3, 4, 5]) rfl ?_
  iterate 2 refine Y_move ?_
  refine X_ari rfl rfl rfl rfl rfl (by exact wrap_in (by decide) (by omega)) rfl ?_
  refine X_fs rfl rfl F.ok73 rfl (Small_ok _ _ (by omega)) rfl ?_
  rintro _ rfl
  refine X_build rfl rfl F.bld25 (.cons rfl (by constructor) (.cons rfl (by constructor) .nil)) rfl rfl ?_
  refine Y_store F.lay25 ?_
  refine XD_end ?_
  refine K_then ?_
  refine Y_pk [2] ?_
  refine C_ret ?_
  refine K_end (.inr rfl) (.cell rfl (by repeat first | exact List.Mem.head _ | refine List.Mem.tail _ ?_ | refine List.mem_append_right _ ?_) F.lay25 rfl rfl .nil) (fun w hw => ?_)
  refine ⟨_, rfl, (hw.c), ?_⟩
  clear hw
  rfl

end Go.Proofs.Ytbjklbmmchiahaa
/-
  A ring of three, by the models: what each step gives.
-/
set_option linter.unusedSimpArgs false
set_option linter.unusedVariables false
set_option linter.unnecessarySimpa false
namespace Go.Esp
def xp (n : Int) : PeerV := ⟨n, smallP (10 * n)⟩
theorem xs10 : smallP 10 = 10#160 := by kernel_rfl
theorem xs20 : smallP 20 = 20#160 := by kernel_rfl
theorem xs30 : smallP 30 = 30#160 := by kernel_rfl
theorem xs40 : smallP 40 = 40#160 := by kernel_rfl
theorem xs15 : smallP 15 = 15#160 := by kernel_rfl
def xt : Tb := ⟨⟨1, 10#160⟩, noneP, [], List.replicate 160 noneP⟩
def xu : Tb := { xt with succ := [⟨2, 20#160⟩, ⟨3, 30#160⟩] }
def xv : Tb := { xu with pred := ⟨3, 30#160⟩ }
def xw : Tb := { xv with fingers := List.replicate 4 ⟨2, 20#160⟩ ++ List.replicate 156 noneP }
def xx : Tb := { xv with succ := [⟨3, 30#160⟩], fingers := List.replicate 160 noneP }
theorem xe1 : newT ⟨1, 10#160⟩ = (xt, 0) := by kernel_rfl
theorem xe2 : adoptT xt ⟨2, 20#160⟩ [⟨3, 30#160⟩, ⟨1, 10#160⟩, ⟨4, 40#160⟩] 4 = (xu, 0) := by kernel_rfl
theorem xe3 : learnT xu ⟨3, 30#160⟩ = xv := by kernel_rfl
theorem xe4 : pointT xv 0 ⟨2, 20#160⟩ = (xw, 4, 0) := by kernel_rfl
theorem xe5 : doneT xw 15#160 = (⟨2, 20#160⟩, true) := by kernel_rfl
theorem xe6 : nearestT xw 40#160 [] = (⟨3, 30#160⟩, true) := by kernel_rfl
theorem xe7 : forgetT xw 2 = xx := by kernel_rfl
theorem xe8 : knownT xx = [⟨3, 30#160⟩] := by kernel_rfl
theorem xe9 : firstT xx = ⟨3, 30#160⟩ := rfl
theorem xe10 : IsTb xw := of_decide_eq_true (by kernel_rfl)
theorem xe11 : CloserT xw ⟨9, 15#160⟩ := of_decide_eq_true (by kernel_rfl)
end Go.Esp
/-
  The example, its parts.
-/
set_option linter.unusedSimpArgs false
set_option linter.unusedVariables false
set_option linter.unnecessarySimpa false
set_option maxRecDepth 8000
set_option maxHeartbeats 1000000
namespace Go.Proofs.Ytbjklbmmchiahaa
open Go.Esp


theorem peer1_ok (M : Mem) : Fs Try.prog 72 [.int .i64 1] M (fun v => v = (PeerV.mk 1 10#160).enc) := by
  have h := peer_ok M 1 (by decide)
  rw [show smallP (10 * 1) = 10#160 from xs10] at h
  exact h

theorem peer2_ok (M : Mem) : Fs Try.prog 72 [.int .i64 2] M (fun v => v = (PeerV.mk 2 20#160).enc) := by
  have h := peer_ok M 2 (by decide)
  rw [show smallP (10 * 2) = 20#160 from xs20] at h
  exact h

theorem peer3_ok (M : Mem) : Fs Try.prog 72 [.int .i64 3] M (fun v => v = (PeerV.mk 3 30#160).enc) := by
  have h := peer_ok M 3 (by decide)
  rw [show smallP (10 * 3) = 30#160 from xs30] at h
  exact h

theorem peer4_ok (M : Mem) : Fs Try.prog 72 [.int .i64 4] M (fun v => v = (PeerV.mk 4 40#160).enc) := by
  have h := peer_ok M 4 (by decide)
  rw [show smallP (10 * 4) = 40#160 from xs40] at h
  exact h

theorem small15_ok (M : Mem) : Fs Try.prog 73 [.int .i64 15] M (fun v => v = aggV [idSeg 15#160]) := by
  have h := Small_ok M 15 (by decide)
  rw [xs15] at h
  exact h

theorem small40_ok (M : Mem) : Fs Try.prog 73 [.int .i64 40] M (fun v => v = aggV [idSeg 40#160]) := by
  have h := Small_ok M 40 (by decide)
  rw [xs40] at h
  exact h

theorem AdoptF_ok (M : Mem) (t : TableV) (first : PeerV) (a : Option Addr) (c : Nat) (l : List PeerV) (r : Int) (hs : Hp) (ht : TableV.ok M t) (ho : OSl 25 21 (.slice a l.length c) hs (l.map PeerV.segs)) : Fh Try.prog 19 [t.enc, first.enc, .slice a l.length c, .int .i64 r] M hs (fun M' v Hout => Hout = [] ∧ TabE M' v (adoptT t.tb first l r)) := fun H w hw => by
  obtain ⟨M1, h1, h2, h3⟩ := ho.frz hw
  exact (Adopt_ok M1 t first ⟨a, c, l⟩ r (ht.mono h1) h3 H w h2).mono fun e w2 ⟨v, M2, g1, g2, g3, g4⟩ => ⟨v, M2, [], g1, h1.trans g2, g3, rfl, g4⟩

end Go.Proofs.Ytbjklbmmchiahaa
/-
  The example.
-/
set_option linter.unusedSimpArgs false
set_option linter.unusedVariables false
set_option linter.unnecessarySimpa false
set_option maxRecDepth 8000
set_option maxHeartbeats 1000000
namespace Go.Proofs.Ytbjklbmmchiahaa
open Go.Esp
theorem F.ok17 : okFn Try.prog 17 = true := by kernel_rfl
theorem F.ok19 : okFn Try.prog 19 = true := by kernel_rfl
theorem F.ok21 : okFn Try.prog 21 = true := by kernel_rfl
theorem F.ok25 : okFn Try.prog 25 = true := by kernel_rfl
theorem F.ok27 : okFn Try.prog 27 = true := by kernel_rfl
theorem F.ok29 : okFn Try.prog 29 = true := by kernel_rfl
theorem F.ok35 : okFn Try.prog 35 = true := by kernel_rfl
theorem F.ok40 : okFn Try.prog 40 = true := by kernel_rfl
theorem F.ok72 : okFn Try.prog 72 = true := by kernel_rfl

theorem tabled_ok (M : Mem) : Esp.Fn Try.prog 23 [] M (fun _ v => v = .bool true) := by
  refine fn_enter Try.func23 rfl Try.ntmps23 rfl ?_; intro H
  refine C_seq ?_
  refine C_region (l := [0]) rfl ?_
  refine Y_assign ?_
  refine XD_end ?_
  refine K_then ?_
  refine C_seq ?_
  refine C_region (l := [0, 1, 2, 3, 4, 5, 6, 7]) rfl ?_
  refine X_fs rfl rfl F.ok72 rfl (peer1_ok _) rfl ?_
  rintro _ rfl
  refine X_fn rfl rfl F.ok17 rfl (New_ok M ⟨1, 10#160⟩) rfl ?_
  rintro _ M1 hm1 h1
  rw [xe1] at h1
  simp only [TabE, TabPE] at h1
  obtain ⟨_, rfl, ⟨⟨a1, i1⟩, ⟨q1, j1⟩, ⟨s1a, s1c, s1l⟩, ⟨f1a, f1c, f1l⟩⟩, rfl, e1, ok1⟩ := h1
  have ns1 : s1l.length = 0 := congrArg (fun t : Tb => t.succ.length) e1
  have nf1 : f1l.length = 160 := congrArg (fun t : Tb => t.fingers.length) e1
  refine Y_move ?_
  iterate 2 refine Y_extract ?_
  refine Y_alloc F.zero28 ?_; intro b1
  refine Y_store F.lay28 ?_
  refine Y_assign ?_
  refine XD_end ?_
  refine K_then ?_
  refine Y_pk [2, 1, 0] ?_
  refine C_seq ?_
  refine C_region_any (l := [0, 1, 2, 3, 4, 5, 6, 7, 8, 9, 10, 11, 12]) #[0, 0, 2, 6, 14, 30, 63, 127, 255, 255, 0, 1535, 4095] _ rfl (by kernel_rfl) (by kernel_rfl) St.drawn (fun _ h => h) ?_
  refine Y_load F.lay28 ?_
  refine X_fs rfl rfl F.ok72 rfl (peer2_ok _) rfl ?_
  rintro _ rfl
  refine X_fs rfl rfl F.ok72 rfl (peer3_ok _) rfl ?_
  rintro _ rfl
  refine X_fs rfl rfl F.ok72 rfl (peer1_ok _) rfl ?_
  rintro _ rfl
  refine X_fs rfl rfl F.ok72 rfl (peer4_ok _) rfl ?_
  rintro _ rfl
  refine X_buildSliceF rfl rfl F.elem26 F.zero25 rfl rfl (.cons rfl (by constructor) (.cons rfl (by constructor) (.cons rfl (by constructor) .nil))) rfl rfl (by simp only [List.map_cons, List.map_nil] <;> rfl) rfl ?_; intro b2 hob3
  refine X_fhR rfl rfl F.ok19 rfl (AdoptF_ok M1 (TableV.mk ⟨a1, i1⟩ ⟨q1, j1⟩ ⟨s1a, s1c, s1l⟩ ⟨f1a, f1c, f1l⟩) ⟨2, 20#160⟩ _ _ [⟨3, 30#160⟩, ⟨1, 10#160⟩, ⟨4, 40#160⟩] 4 _ ok1 hob3) (by repeat first | exact Rem.here _ | exact Rem.two | apply Rem.skip | apply Rem.over) (fun _ _ _ hm hw => (hw.lower (by exact hm)).c) (putE_some rfl) ?_
  rintro _ M2 _ hm2 ⟨rfl, h2⟩
  rw [e1, xe2] at h2
  simp only [TabE] at h2
  obtain ⟨_, rfl, ⟨⟨a2, i2⟩, ⟨q2, j2⟩, ⟨s2a, s2c, s2l⟩, ⟨f2a, f2c, f2l⟩⟩, rfl, e2, ok2⟩ := h2
  have ns2 : s2l.length = 2 := congrArg (fun t : Tb => t.succ.length) e2
  have nf2 : f2l.length = 160 := congrArg (fun t : Tb => t.fingers.length) e2
  refine Y_move ?_
  iterate 2 refine Y_extract ?_
  refine Y_alloc F.zero28 ?_; intro b4
  refine Y_store F.lay28 ?_
  refine Y_assign ?_
  refine XD_end ?_
  refine K_then ?_
  refine Y_pk [4, 3, 2, 0] ?_
  refine C_seq ?_
  refine C_region_any (l := [0, 1, 2, 3, 4]) #[0, 0, 3, 0, 15] _ rfl (by kernel_rfl) (by kernel_rfl) St.drawn (fun _ h => h) ?_
  refine Y_load F.lay28 ?_
  refine X_fs rfl rfl F.ok72 rfl (peer3_ok _) rfl ?_
  rintro _ rfl
  refine X_fn rfl rfl F.ok25 rfl (Learn_ok M2 (TableV.mk ⟨a2, i2⟩ ⟨q2, j2⟩ ⟨s2a, s2c, s2l⟩ ⟨f2a, f2c, f2l⟩) ⟨3, 30#160⟩ ok2) rfl ?_
  rintro _ M3 hm3 h3
  rw [e2, xe3] at h3
  obtain ⟨⟨⟨a3, i3⟩, ⟨q3, j3⟩, ⟨s3a, s3c, s3l⟩, ⟨f3a, f3c, f3l⟩⟩, rfl, e3, ok3⟩ := h3
  have ns3 : s3l.length = 2 := congrArg (fun t : Tb => t.succ.length) e3
  have nf3 : f3l.length = 160 := congrArg (fun t : Tb => t.fingers.length) e3
  have pp3 : PeerV.mk q3 j3 = ⟨3, 30#160⟩ := congrArg Tb.pred e3
  refine Y_alloc F.zero28 ?_; intro b5
  refine Y_store F.lay28 ?_
  refine XD_end ?_
  refine K_then ?_
  refine Y_pk [5, 4, 3, 2, 0] ?_
  refine C_seq ?_
  refine C_region_any (l := [0, 1, 2, 3, 4, 5, 6, 7, 8, 9, 10]) #[0, 0, 3, 7, 15, 15, 15, 0, 159, 447, 1023] _ rfl (by kernel_rfl) (by kernel_rfl) St.drawn (fun _ h => h) ?_
  refine Y_load F.lay28 ?_
  refine X_fs rfl rfl F.ok72 rfl (peer2_ok _) rfl ?_
  rintro _ rfl
  refine X_fn rfl rfl F.ok21 rfl (Point_ok M3 (TableV.mk ⟨a3, i3⟩ ⟨q3, j3⟩ ⟨s3a, s3c, s3l⟩ ⟨f3a, f3c, f3l⟩) 0 ⟨2, 20#160⟩ ok3) rfl ?_
  rintro _ M4 hm4 h4
  rw [e3, xe4] at h4
  simp only [TabE, TabPE] at h4
  obtain ⟨_, rfl, ⟨⟨a4, i4⟩, ⟨q4, j4⟩, ⟨s4a, s4c, s4l⟩, ⟨f4a, f4c, f4l⟩⟩, rfl, e4, ok4⟩ := h4
  have ns4 : s4l.length = 2 := congrArg (fun t : Tb => t.succ.length) e4
  have nf4 : f4l.length = 160 := congrArg (fun t : Tb => t.fingers.length) e4
  have g3 : f4l[3]? = some ⟨2, 20#160⟩ := congrArg (fun t : Tb => t.fingers[3]?) e4
  have g4 : f4l[4]? = some noneP := congrArg (fun t : Tb => t.fingers[4]?) e4
  have b4 : TableV.ok M4 (TableV.mk ⟨a4, i4⟩ ⟨q4, j4⟩ ⟨s4a, s4c, s4l⟩ ⟨f4a, f4c, f4l⟩) := ok4
  have big4 : s4l.length ≤ 40 ∧ f4l.length ≤ 200 := ⟨by rw [ns4]; decide, by rw [nf4]; decide⟩
  refine Y_move ?_
  iterate 3 refine Y_extract ?_
  refine Y_alloc F.zero28 ?_; intro b6
  refine Y_store F.lay28 ?_
  iterate 2 refine Y_assign ?_
  refine XD_end ?_
  refine K_then ?_
  refine Y_pk [8, 7, 6, 5, 4, 3, 2, 0] ?_
  iterate 2 refine C_seq ?_
  refine C_region (l := [0, 1, 2, 3, 4, 5, 6, 7, 8, 9, 10, 11, 12, 13, 14, 15, 16, 17, 18, 19, 20, 21, 22, 23]) rfl ?_
  refine Y_move ?_
  refine Y_cmp ?_
  refine Y_move ?_
  refine XD_part 41 rfl (fun hc7 => ?_) (fun hc7 => ?_)
  ·replace hc7 := nT hc7
   simp only [PeerV.eta, TableV.eta, RouteV.eta] at hc7
   (exfalso; simp [eqX] at hc7; done)
  ·replace hc7 := nF hc7
   simp only [PeerV.eta, TableV.eta, RouteV.eta] at hc7
   iterate 2 refine Y_move ?_
   refine Y_cmp ?_
   refine Y_pick ?_
   refine Y_move ?_
   refine XD_part 46 rfl (fun hc8 => ?_) (fun hc8 => ?_)
   ·replace hc8 := nT hc8
    simp only [PeerV.eta, TableV.eta, RouteV.eta] at hc8
    (exfalso; simp [eqX] at hc8; done)
   ·replace hc8 := nF hc8
    simp only [PeerV.eta, TableV.eta, RouteV.eta] at hc8
    iterate 2 refine Y_move ?_
    refine Y_cmp ?_
    refine Y_pick ?_
    refine Y_move ?_
    refine XD_part 51 rfl (fun hc9 => ?_) (fun hc9 => ?_)
    ·replace hc9 := nT hc9
     simp only [PeerV.eta, TableV.eta, RouteV.eta] at hc9
     (exfalso; simp [eqX] at hc9; done)
    ·replace hc9 := nF hc9
     simp only [PeerV.eta, TableV.eta, RouteV.eta] at hc9
     refine Y_fieldAddr F.foff28_2 ?_
     refine Y_load F.lay26 ?_
     refine Y_len_sl F.elem26 ?_
     refine Y_cmp ?_
     refine Y_pick ?_
     refine Y_move ?_
     refine XD_part 57 rfl (fun hc10 => ?_) (fun hc10 => ?_)
     ·replace hc10 := nT hc10
      (exfalso; omega)
     ·replace hc10 := nF hc10
      refine Y_fieldAddr F.foff28_3 ?_
      refine Y_load F.lay26 ?_
      refine Y_len_sl F.elem26 ?_
      refine Y_cmp ?_
      refine Y_pick ?_
      refine XD_end ?_
      refine K_then ?_
      refine Y_pk [62, 7, 6, 5, 0] ?_
      refine C_cond rfl (fun hc11 => ?_) (fun hc11 => ?_)
      ·replace hc11 := nT hc11
       (exfalso; omega)
      ·replace hc11 := nF hc11
       refine C_skip ?_
       refine K_then ?_
       refine Y_pk [7, 6, 5, 0] ?_
       refine C_seq ?_
       refine C_region_any (l := [0, 1, 2, 3, 4, 5, 6, 7, 8]) #[0, 0, 3, 7, 15, 15, 0, 95, 255] _ rfl (by kernel_rfl) (by kernel_rfl) St.drawn (fun _ h => h) ?_
       refine Y_load F.lay28 ?_
       refine X_fs rfl rfl F.ok73 rfl (small15_ok _) rfl ?_
       rintro _ rfl
       refine X_fs rfl rfl F.ok29 rfl (Done_ok _ (TableV.mk ⟨a4, i4⟩ ⟨q4, j4⟩ ⟨s4a, s4c, s4l⟩ ⟨f4a, f4c, f4l⟩) _ (ok4.mono (by exact Mem.le.refl _))) rfl ?_
       rintro _ hv
       rw [e4, xe5] at hv
       subst hv
       refine Y_move ?_
       iterate 2 refine Y_extract ?_
       refine Y_alloc F.zero25 ?_; intro b12
       refine Y_store F.lay25 ?_
       refine Y_assign ?_
       refine XD_end ?_
       refine K_then ?_
       refine Y_pk [10, 9, 7, 6, 5, 0] ?_
       refine C_seq ?_
       refine C_region_any (l := [0, 1, 2, 3, 4, 5, 6, 7, 8]) #[0, 0, 3, 7, 15, 15, 0, 95, 255] _ rfl (by kernel_rfl) (by kernel_rfl) St.drawn (fun _ h => h) ?_
       refine Y_load F.lay28 ?_
       refine X_fs rfl rfl F.ok73 rfl (small40_ok _) rfl ?_
       rintro _ rfl
       refine X_fn rfl rfl F.ok27 rfl (Nearest_ok M4 (TableV.mk ⟨a4, i4⟩ ⟨q4, j4⟩ ⟨s4a, s4c, s4l⟩ ⟨f4a, f4c, f4l⟩) 40#160 ⟨none, 0, []⟩ ok4 SlK.nil big4) rfl ?_
       rintro _ M5 hm5 hv
       rw [e4, xe6] at hv
       subst hv
       refine Y_move ?_
       iterate 2 refine Y_extract ?_
       refine Y_alloc F.zero25 ?_; intro b13
       refine Y_store F.lay25 ?_
       refine Y_assign ?_
       refine XD_end ?_
       refine K_then ?_
       refine Y_pk [12, 11, 10, 9, 7, 6, 5, 0] ?_
       refine C_seq ?_
       refine C_region (l := [0, 1, 2, 3]) rfl ?_
       refine Y_load F.lay28 ?_
       refine X_fn rfl rfl F.ok40 rfl (Forget_ok M5 (TableV.mk ⟨a4, i4⟩ ⟨q4, j4⟩ ⟨s4a, s4c, s4l⟩ ⟨f4a, f4c, f4l⟩) 2 (ok4.mono hm5) big4) rfl ?_
       rintro _ M6 hm6 h6
       rw [e4, xe7] at h6
       obtain ⟨⟨⟨a6, i6⟩, ⟨q6, j6⟩, ⟨s6a, s6c, s6l⟩, ⟨f6a, f6c, f6l⟩⟩, rfl, e6, ok6⟩ := h6
       have ns6 : s6l.length = 1 := congrArg (fun t : Tb => t.succ.length) e6
       have nf6 : f6l.length = 160 := congrArg (fun t : Tb => t.fingers.length) e6
       have big6 : s6l.length ≤ 40 ∧ f6l.length ≤ 200 := ⟨by rw [ns6]; decide, by rw [nf6]; decide⟩
       refine Y_alloc F.zero28 ?_; intro b14
       refine Y_store F.lay28 ?_
       refine XD_end ?_
       refine K_then ?_
       refine Y_pk [13, 12, 11, 10, 9, 7, 6, 5, 0] ?_
       refine C_seq ?_
       refine C_region_any (l := [0, 1, 2, 3, 4, 5, 6, 7, 8, 9, 10, 11, 12, 13, 14, 15, 16, 17, 18, 19, 20, 21, 22, 23, 24, 25, 26, 27, 28, 29, 30, 31, 32, 33, 34, 35, 36, 37, 38, 39, 40, 41, 42, 43, 44, 45, 46, 47, 48, 49, 50, 51, 52, 53, 54, 55, 56, 57, 58, 59, 60, 61, 62]) #[0, 1, 3, 7, 15, 7, 63, 127, 255, 511, 1023, 2047, 4095, 8191, 16383, 32767, 65535, 8191, 262143, 524287, 1048575, 2097151, 4194303, 8388607, 16777215, 2097151, 67108863, 134217727, 268435455, 536870911, 536870911, 2147483647, 4294967295, 8589934591, 17179869183, 34359738367, 68719476735, 137438953471, 137438953471, 549755813887, 1099511627775, 2199023255551, 4398046511103, 8796093022207, 17592186044415, 35184372088831, 70368744177663, 140737488355327, 281474976710655, 562949953421311, 1125899906842623, 2251799813685247, 4503599627370495, 9007199254740991, 18014398509481983, 36028797018963967, 72057594037927935, 144115188075855871, 144115188075855871, 432345564227567615, 1152921504606846975, 2305843009213693951, 4611686018427387903] _ rfl (by kernel_rfl) (by kernel_rfl) St.drawn (fun _ h => h) ?_
       refine Y_load F.lay28 ?_
       refine X_fs rfl rfl F.ok31 rfl (IsT_ok _ (TableV.mk ⟨a4, i4⟩ ⟨q4, j4⟩ ⟨s4a, s4c, s4l⟩ ⟨f4a, f4c, f4l⟩) (ok4.mono (hm5.trans hm6))) rfl ?_
       rintro _ hv
       rw [e4, decide_eq_true xe10] at hv
       subst hv
       have sf4 := (ok4.mono (hm5.trans hm6)).h1.h1
       simp only at sf4
       refine Y_move ?_
       refine XD_part 79 rfl (fun hc15 => ?_) (fun hc15 => ?_)
       ·skip
        simp only [PeerV.eta, TableV.eta, RouteV.eta] at hc15
        refine Y_fieldAddr F.foff28_1 ?_
        refine Y_load F.lay25 ?_
        refine X_fs rfl rfl F.ok72 rfl (peer3_ok _) rfl ?_
        rintro _ rfl
        refine X_same (m := 20) rfl rfl rfl rfl rfl (by constructor) (by constructor) F.lay25 F.kinds25 rfl F.guard25 (by exact FitPeerV (⟨_, _⟩)) (by exact FitPeerV _) rfl rfl rfl ?_; intro c16 he17
        replace he17 : c16 = true ↔ Segs.cells _ = Segs.cells _ := he17
        obtain rfl := eqD he17 (PeerV.inj (x := ⟨_, _⟩) (y := ⟨_, _⟩)); clear he17
        refine Y_pick ?_
        refine Y_move ?_
        refine XD_part 85 rfl (fun hc18 => ?_) (fun hc18 => ?_)
        ·replace hc18 := dT hc18
         refine Y_move ?_
         refine Y_cmp ?_
         refine Y_pick ?_
         refine Y_move ?_
         refine XD_part 89 rfl (fun hc19 => ?_) (fun hc19 => ?_)
         ·replace hc19 := dT hc19
          simp only [PeerV.eta, TableV.eta, RouteV.eta] at hc19
          refine Y_fieldAddr F.foff28_3 ?_
          refine Y_load F.lay26 ?_
          refine X_indexAddr rfl rfl rfl rfl F.elem26 (by rfl) (by (simp; omega)) (by exact SlM.plain (by assumption) (by (simp; omega))) rfl ?_
          refine X_load_el rfl rfl rfl sf4 (show (f4l.map PeerV.segs)[3]? = some (PeerV.segs ⟨2, 20#160⟩) by rw [List.getElem?_map, g3]; rfl) F.lay25 rfl rfl rfl ?_
          refine X_fs rfl rfl F.ok72 rfl (peer2_ok _) rfl ?_
          rintro _ rfl
          refine X_same (m := 20) rfl rfl rfl rfl rfl (by constructor) (by constructor) F.lay25 F.kinds25 rfl F.guard25 (by exact FitPeerV (⟨_, _⟩)) (by exact FitPeerV _) rfl rfl rfl ?_; intro c20 he21
          replace he21 : c20 = true ↔ Segs.cells _ = Segs.cells _ := he21
          obtain rfl := eqD he21 (PeerV.inj (x := ⟨_, _⟩) (y := ⟨_, _⟩)); clear he21
          refine Y_pick ?_
          refine Y_move ?_
          refine XD_part 97 rfl (fun hc22 => ?_) (fun hc22 => ?_)
          ·replace hc22 := dT hc22
           simp only [PeerV.eta, TableV.eta, RouteV.eta] at hc22
           refine Y_fieldAddr F.foff28_3 ?_
           refine Y_load F.lay26 ?_
           refine X_indexAddr rfl rfl rfl rfl F.elem26 (by rfl) (by (simp; omega)) (by exact SlM.plain (by assumption) (by (simp; omega))) rfl ?_
           refine X_load_el rfl rfl rfl sf4 (show (f4l.map PeerV.segs)[4]? = some (PeerV.segs noneP) by rw [List.getElem?_map, g4]; rfl) F.lay25 rfl rfl rfl ?_
           refine X_fs rfl rfl F.ok43 rfl (rNone_ok _) rfl ?_
           rintro _ rfl
           refine XD_is 102 rfl (show _ = aggV [.one (.int .i64 (-1)), idSeg 0] from rfl) ?_
           refine X_same (m := 20) rfl rfl rfl rfl rfl (by constructor) (by constructor) F.lay25 F.kinds25 rfl F.guard25 (by exact FitPeerV (⟨_, _⟩)) (by exact FitPeerV (⟨_, _⟩)) rfl rfl rfl ?_; intro c23 he24
           replace he24 : c23 = true ↔ Segs.cells _ = Segs.cells _ := he24
           obtain rfl := eqD he24 (PeerV.inj (x := ⟨_, _⟩) (y := ⟨_, _⟩)); clear he24
           refine Y_pick ?_
           refine Y_move ?_
           refine XD_part 105 rfl (fun hc25 => ?_) (fun hc25 => ?_)
           ·replace hc25 := dT hc25
            simp only [PeerV.eta, TableV.eta, RouteV.eta] at hc25
            refine Y_load F.lay25 ?_
            refine X_fs rfl rfl F.ok72 rfl (peer2_ok _) rfl ?_
            rintro _ rfl
            refine X_same (m := 20) rfl rfl rfl rfl rfl (by constructor) (by constructor) F.lay25 F.kinds25 rfl F.guard25 (by exact FitPeerV (⟨_, _⟩)) (by exact FitPeerV _) rfl rfl rfl ?_; intro c26 he27
            replace he27 : c26 = true ↔ Segs.cells _ = Segs.cells _ := he27
            obtain rfl := eqD he27 (PeerV.inj (x := ⟨_, _⟩) (y := ⟨_, _⟩)); clear he27
            refine Y_pick ?_
            refine Y_move ?_
            refine XD_part 110 rfl (fun hc28 => ?_) (fun hc28 => ?_)
            ·replace hc28 := dT hc28
             simp only [PeerV.eta, TableV.eta, RouteV.eta] at hc28
             refine Y_move ?_
             refine Y_pick ?_
             refine Y_move ?_
             refine XD_part 113 rfl (fun hc29 => ?_) (fun hc29 => ?_)
             ·skip
              simp only [PeerV.eta, TableV.eta, RouteV.eta] at hc29
              refine Y_load F.lay25 ?_
              refine X_fs rfl rfl F.ok72 rfl (peer3_ok _) rfl ?_
              rintro _ rfl
              refine X_same (m := 20) rfl rfl rfl rfl rfl (by constructor) (by constructor) F.lay25 F.kinds25 rfl F.guard25 (by exact FitPeerV (⟨_, _⟩)) (by exact FitPeerV _) rfl rfl rfl ?_; intro c30 he31
              replace he31 : c30 = true ↔ Segs.cells _ = Segs.cells _ := he31
              obtain rfl := eqD he31 (PeerV.inj (x := ⟨_, _⟩) (y := ⟨_, _⟩)); clear he31
              refine Y_pick ?_
              refine Y_move ?_
              refine XD_part 118 rfl (fun hc32 => ?_) (fun hc32 => ?_)
              ·replace hc32 := dT hc32
               simp only [PeerV.eta, TableV.eta, RouteV.eta] at hc32
               refine Y_move ?_
               refine Y_pick ?_
               refine Y_move ?_
               refine XD_part 121 rfl (fun hc33 => ?_) (fun hc33 => ?_)
               ·skip
                simp only [PeerV.eta, TableV.eta, RouteV.eta] at hc33
                refine Y_load F.lay28 ?_
                refine X_fs rfl rfl F.ok33 rfl (First_ok _ (TableV.mk ⟨a6, i6⟩ ⟨q6, j6⟩ ⟨s6a, s6c, s6l⟩ ⟨f6a, f6c, f6l⟩) ok6) rfl ?_
                rintro _ hv
                rw [e6, xe9] at hv
                subst hv
                refine X_fs rfl rfl F.ok72 rfl (peer3_ok _) rfl ?_
                rintro _ rfl
                refine X_same (m := 20) rfl rfl rfl rfl rfl (by constructor) (by constructor) F.lay25 F.kinds25 rfl F.guard25 (by exact FitPeerV _) (by exact FitPeerV _) rfl rfl rfl ?_; intro c34 he35
                replace he35 : c34 = true ↔ Segs.cells _ = Segs.cells _ := he35
                obtain rfl := eqD he35 (PeerV.inj (x := ⟨_, _⟩) (y := ⟨_, _⟩)); clear he35
                refine Y_pick ?_
                refine Y_move ?_
                refine XD_part 127 rfl (fun hc36 => ?_) (fun hc36 => ?_)
                ·replace hc36 := dT hc36
                 simp only [PeerV.eta, TableV.eta, RouteV.eta] at hc36
                 refine Y_load F.lay28 ?_
                 refine X_fn rfl rfl F.ok38 rfl (Known_ok M6 (TableV.mk ⟨a6, i6⟩ ⟨q6, j6⟩ ⟨s6a, s6c, s6l⟩ ⟨f6a, f6c, f6l⟩) ok6 big6) rfl ?_
                 rintro _ M7 hm7 ⟨⟨k7a, k7c, k7l⟩, rfl, h7, k7⟩
                 rw [e6, xe8] at h7
                 simp only at h7
                 subst h7
                 refine Y_len_sl F.elem26 ?_
                 refine Y_cmp ?_
                 refine Y_pick ?_
                 refine Y_move ?_
                 refine XD_part 133 rfl (fun hc37 => ?_) (fun hc37 => ?_)
                 ·replace hc37 := dT hc37
                  refine Y_load F.lay28 ?_
                  refine X_fs rfl rfl F.ok73 rfl (small15_ok _) rfl ?_
                  rintro _ rfl
                  refine X_build rfl rfl F.bld25 (.cons rfl (by constructor) (.cons rfl (by constructor) .nil)) rfl rfl ?_
                  refine X_fs rfl rfl F.ok35 rfl (Closer_ok _ (TableV.mk ⟨a4, i4⟩ ⟨q4, j4⟩ ⟨s4a, s4c, s4l⟩ ⟨f4a, f4c, f4l⟩) ⟨9, 15#160⟩ (ok4.mono (hm5.trans (hm6.trans hm7)))) rfl ?_
                  rintro _ hv
                  rw [e4, decide_eq_true xe11] at hv
                  subst hv
                  refine Y_pick ?_
                  refine Y_assign ?_
                  refine XD_end ?_
                  refine K_then ?_
                  refine Y_pk [0] ?_
                  refine C_ret ?_
                  refine K_end (.inr rfl) (.tmp rfl .nil) (fun w hw => ?_)
                  exact ⟨_, _, rfl, hm1.trans (hm2.trans (hm3.trans (hm4.trans (hm5.trans (hm6.trans hm7))))), hw.c, rfl⟩
                 ·replace hc37 := dF hc37
                  (exfalso; simp [eqX] at hc37; done)
                ·replace hc36 := dF hc36
                 simp only [PeerV.eta, TableV.eta, RouteV.eta] at hc36
                 (exfalso; simp [eqX] at hc36; done)
               ·skip
                simp only [PeerV.eta, TableV.eta, RouteV.eta] at hc33
                (exfalso; simp [eqX] at hc33; done)
              ·replace hc32 := dF hc32
               simp only [PeerV.eta, TableV.eta, RouteV.eta] at hc32
               (exfalso; simp [eqX] at hc32; done)
             ·skip
              simp only [PeerV.eta, TableV.eta, RouteV.eta] at hc29
              (exfalso; simp [eqX] at hc29; done)
            ·replace hc28 := dF hc28
             simp only [PeerV.eta, TableV.eta, RouteV.eta] at hc28
             (exfalso; simp [eqX] at hc28; done)
           ·replace hc25 := dF hc25
            simp only [PeerV.eta, TableV.eta, RouteV.eta] at hc25
            (exfalso; simp [eqX] at hc25; done)
          ·replace hc22 := dF hc22
           simp only [PeerV.eta, TableV.eta, RouteV.eta] at hc22
           (exfalso; simp [eqX] at hc22; done)
         ·replace hc19 := dF hc19
          simp only [PeerV.eta, TableV.eta, RouteV.eta] at hc19
          (exfalso; simp [eqX] at hc19; done)
        ·replace hc18 := dF hc18
         contradiction
       ·skip
        (exfalso; simp [eqX] at hc15; done)

end Go.Proofs.Ytbjklbmmchiahaa
/-
  The first law.
-/
set_option linter.unusedSimpArgs false
set_option linter.unusedVariables false
set_option linter.unnecessarySimpa false
set_option maxRecDepth 8000
set_option maxHeartbeats 1000000
namespace Go.Proofs.Ytbjklbmmchiahaa
open Go.Esp
theorem F.ok15 : okFn Try.prog 15 = true := by kernel_rfl
theorem F.ok18 : okFn Try.prog 18 = true := by kernel_rfl
theorem F.ok20 : okFn Try.prog 20 = true := by kernel_rfl
theorem F.ok22 : okFn Try.prog 22 = true := by kernel_rfl
theorem F.ok23 : okFn Try.prog 23 = true := by kernel_rfl
theorem F.ok24 : okFn Try.prog 24 = true := by kernel_rfl
theorem F.ok26 : okFn Try.prog 26 = true := by kernel_rfl

theorem lawMakes_ok (M : Mem) (t : TableV) (p : PeerV) (rest : (Sl PeerV)) (r : Int) (k : Int) (ht0 : TableV.ok M t) (hrest1 : SlK M PeerV.segs 21 rest) : Esp.Fn Try.prog 3 [t.enc, p.enc, Sl.val rest, .int .i64 r, .int .i64 k] M (fun _ v => v = .bool true) := by
  obtain ⟨⟨t_self_addr, t_self_id⟩, ⟨t_pred_addr, t_pred_id⟩, ⟨t_succ_a, t_succ_c, t_succ_l⟩, ⟨t_fingers_a, t_fingers_c, t_fingers_l⟩⟩ := t
  obtain ⟨p_addr, p_id⟩ := p
  obtain ⟨rest_a, rest_c, rest_l⟩ := rest
  have k_t_succ : SlK M PeerV.segs 21 ⟨t_succ_a, t_succ_c, t_succ_l⟩ := ht0.h0
  have s_t_succ : SlM M t_succ_a (t_succ_l.map PeerV.segs) 21 := k_t_succ.h1
  have n_t_succ : (t_succ_l.map PeerV.segs).length = t_succ_l.length := List.length_map ..
  have m_t_succ : t_succ_l.length ≤ 9223372036854775807 := k_t_succ.h2
  have c_t_succ : t_succ_l.length ≤ t_succ_c := k_t_succ.h3
  have k_t_fingers : SlK M PeerV.segs 21 ⟨t_fingers_a, t_fingers_c, t_fingers_l⟩ := ht0.h1
  have s_t_fingers : SlM M t_fingers_a (t_fingers_l.map PeerV.segs) 21 := k_t_fingers.h1
  have n_t_fingers : (t_fingers_l.map PeerV.segs).length = t_fingers_l.length := List.length_map ..
  have m_t_fingers : t_fingers_l.length ≤ 9223372036854775807 := k_t_fingers.h2
  have c_t_fingers : t_fingers_l.length ≤ t_fingers_c := k_t_fingers.h3
  have k_rest : SlK M PeerV.segs 21 ⟨rest_a, rest_c, rest_l⟩ := hrest1
  have s_rest : SlM M rest_a (rest_l.map PeerV.segs) 21 := k_rest.h1
  have n_rest : (rest_l.map PeerV.segs).length = rest_l.length := List.length_map ..
  have m_rest : rest_l.length ≤ 9223372036854775807 := k_rest.h2
  have c_rest : rest_l.length ≤ rest_c := k_rest.h3
  refine fn_enter Try.func3 rfl Try.ntmps3 rfl ?_; intro H
  refine C_seq ?_
  refine C_region (l := [0, 1, 2]) rfl ?_
  refine Y_box ?_; intro b1
  refine Y_box ?_; intro b2
  refine Y_assign ?_
  refine XD_end ?_
  refine K_then ?_
  refine Y_pk [10, 6, 5, 2, 3, 4] ?_
  iterate 2 refine C_seq ?_
  refine C_region (l := [0, 1, 2, 3, 4, 5, 6]) rfl ?_
  refine Y_load F.lay28 ?_
  refine X_fs rfl rfl F.ok15 rfl (BigT_ok _ ⟨⟨_, _⟩, ⟨_, _⟩, ⟨_, _, _⟩, ⟨_, _, _⟩⟩ (by assumption)) rfl ?_
  rintro _ rfl
  refine Y_move ?_
  refine XD_part 28 rfl (fun hc3 => ?_) (fun hc3 => ?_)
  ·replace hc3 := dT hc3
   simp only [PeerV.eta, TableV.eta, RouteV.eta] at hc3
   iterate 3 refine Y_skip ?_
   refine Y_pick ?_
   refine XD_end ?_
   refine K_then ?_
   refine Y_pk [32, 10, 6, 5, 2, 3, 4] ?_
   refine C_true rfl ?_
   refine C_seq ?_
   refine C_region (l := [0]) rfl ?_
   refine Y_assign ?_
   refine XD_end ?_
   refine K_then ?_
   refine Y_pk [10, 6, 5, 2, 3, 4] ?_
   refine C_ret ?_
   refine K_ret ?_
   refine K_end (.inr rfl) (.tmp rfl .nil) (fun w hw => ?_)
   refine ⟨_, _, rfl, (by exact Mem.le.refl _), hw.c, ?_⟩
   clear hw
   rfl
  ·replace hc3 := dF hc3
   simp only [PeerV.eta, TableV.eta, RouteV.eta] at hc3
   refine Y_move ?_
   refine Y_len_sl F.elem26 ?_
   refine Y_cmp ?_
   refine Y_pick ?_
   refine XD_end ?_
   refine K_then ?_
   refine Y_pk [32, 10, 6, 5, 2, 3, 4] ?_
   refine C_cond rfl (fun hc4 => ?_) (fun hc4 => ?_)
   ·replace hc4 := dT hc4
    refine C_seq ?_
    refine C_region (l := [0]) rfl ?_
    refine Y_assign ?_
    refine XD_end ?_
    refine K_then ?_
    refine Y_pk [10, 6, 5, 2, 3, 4] ?_
    refine C_ret ?_
    refine K_ret ?_
    refine K_end (.inr rfl) (.tmp rfl .nil) (fun w hw => ?_)
    refine ⟨_, _, rfl, (by exact Mem.le.refl _), hw.c, ?_⟩
    clear hw
    rfl
   ·replace hc4 := dF hc4
    refine C_skip ?_
    refine K_then ?_
    refine Y_pk [10, 6, 5, 2, 3, 4] ?_
    refine C_seq ?_
    refine C_region (l := [0, 1, 2, 3]) rfl ?_
    have hbig : t_succ_l.length ≤ 40 ∧ t_fingers_l.length ≤ 200 := by omega
    have okT : TableV.ok M ⟨⟨t_self_addr, t_self_id⟩, ⟨t_pred_addr, t_pred_id⟩, ⟨t_succ_a, t_succ_c, t_succ_l⟩, ⟨t_fingers_a, t_fingers_c, t_fingers_l⟩⟩ := ht0
    refine Y_load F.lay28 ?_
    refine X_fn rfl rfl F.ok16 rfl (Own_ok M ⟨⟨t_self_addr, t_self_id⟩, ⟨t_pred_addr, t_pred_id⟩, ⟨t_succ_a, t_succ_c, t_succ_l⟩, ⟨t_fingers_a, t_fingers_c, t_fingers_l⟩⟩ okT hbig) rfl ?_
    rintro _ M1 hm1 h1
    obtain ⟨⟨⟨a1, i1⟩, ⟨q1, j1⟩, ⟨s1a, s1c, s1l⟩, ⟨f1a, f1c, f1l⟩⟩, rfl, e1, ok1⟩ := h1
    have big1 : s1l.length ≤ 40 ∧ f1l.length ≤ 200 := by rw [show s1l = t_succ_l from congrArg Tb.succ e1, show f1l = t_fingers_l from congrArg Tb.fingers e1]; exact hbig
    refine Y_alloc F.zero28 ?_; intro b5
    refine Y_store F.lay28 ?_
    refine XD_end ?_
    refine K_then ?_
    refine Y_pk [11, 10, 6, 5, 2, 3, 4] ?_
    refine C_seq ?_
    refine C_region (l := [0, 1, 2, 3, 4, 5, 6, 7]) rfl ?_
    refine Y_load F.lay25 ?_
    refine X_fn rfl rfl F.ok17 rfl (New_ok _ ⟨p_addr, p_id⟩) rfl ?_
    rintro _ M2 hm2 h2
    obtain ⟨_, rfl, ⟨⟨a2, i2⟩, ⟨q2, j2⟩, ⟨s2a, s2c, s2l⟩, ⟨f2a, f2c, f2l⟩⟩, rfl, e2, ok2⟩ := h2
    refine Y_move ?_
    iterate 2 refine Y_extract ?_
    refine Y_alloc F.zero28 ?_; intro b6
    refine Y_store F.lay28 ?_
    refine Y_assign ?_
    refine XD_end ?_
    refine K_then ?_
    refine Y_pk [13, 12, 11, 10, 6, 5, 2, 3, 4] ?_
    refine C_seq ?_
    refine C_region (l := [0, 1, 2, 3, 4, 5, 6, 7]) rfl ?_
    refine Y_load F.lay25 ?_
    refine X_fn rfl rfl F.ok18 rfl (rNew_ok _ ⟨p_addr, p_id⟩) rfl ?_
    rintro _ M3 hm3 h3
    obtain ⟨_, rfl, ⟨⟨a3, i3⟩, ⟨q3, j3⟩, ⟨s3a, s3c, s3l⟩, ⟨f3a, f3c, f3l⟩⟩, rfl, e3, ok3⟩ := h3
    refine Y_move ?_
    iterate 2 refine Y_extract ?_
    refine Y_alloc F.zero28 ?_; intro b7
    refine Y_store F.lay28 ?_
    refine Y_assign ?_
    refine XD_end ?_
    refine K_then ?_
    refine Y_pk [15, 14, 13, 12, 11, 10, 6, 5, 2, 3, 4] ?_
    refine C_seq ?_
    refine C_region (l := [0, 1, 2, 3, 4, 5, 6, 7, 8, 9, 10]) rfl ?_
    refine Y_load F.lay28 ?_
    refine Y_load F.lay25 ?_
    iterate 2 refine Y_move ?_
    refine X_fn rfl rfl F.ok19 rfl (Adopt_ok _ ⟨⟨t_self_addr, t_self_id⟩, ⟨t_pred_addr, t_pred_id⟩, ⟨t_succ_a, t_succ_c, t_succ_l⟩, ⟨t_fingers_a, t_fingers_c, t_fingers_l⟩⟩ ⟨p_addr, p_id⟩ ⟨rest_a, rest_c, rest_l⟩ r (okT.mono (by (repeat first | assumption | refine Mem.le.trans (by assumption) ?_))) (k_rest.mono (by (repeat first | assumption | refine Mem.le.trans (by assumption) ?_)))) rfl ?_
    rintro _ M4 hm4 h4
    obtain ⟨_, rfl, ⟨⟨a4, i4⟩, ⟨q4, j4⟩, ⟨s4a, s4c, s4l⟩, ⟨f4a, f4c, f4l⟩⟩, rfl, e4, ok4⟩ := h4
    refine Y_move ?_
    iterate 2 refine Y_extract ?_
    refine Y_alloc F.zero28 ?_; intro b8
    refine Y_store F.lay28 ?_
    refine Y_assign ?_
    refine XD_end ?_
    refine K_then ?_
    refine Y_pk [17, 16, 15, 14, 13, 12, 11, 10, 6, 5, 2, 3, 4] ?_
    refine C_seq ?_
    refine C_region (l := [0, 1, 2, 3, 4, 5, 6, 7, 8, 9, 10]) rfl ?_
    refine Y_load F.lay28 ?_
    refine Y_load F.lay25 ?_
    iterate 2 refine Y_move ?_
    refine X_fn rfl rfl F.ok20 rfl (rAdopt_ok _ (TableV.mk ⟨a1, i1⟩ ⟨q1, j1⟩ ⟨s1a, s1c, s1l⟩ ⟨f1a, f1c, f1l⟩) ⟨p_addr, p_id⟩ ⟨rest_a, rest_c, rest_l⟩ r (ok1.mono (by (repeat first | assumption | refine Mem.le.trans (by assumption) ?_))) (k_rest.mono (by (repeat first | assumption | refine Mem.le.trans (by assumption) ?_)))) rfl ?_
    rintro _ M5 hm5 h5
    rw [e1] at h5
    obtain ⟨_, rfl, ⟨⟨a5, i5⟩, ⟨q5, j5⟩, ⟨s5a, s5c, s5l⟩, ⟨f5a, f5c, f5l⟩⟩, rfl, e5, ok5⟩ := h5
    refine Y_move ?_
    iterate 2 refine Y_extract ?_
    refine Y_alloc F.zero28 ?_; intro b9
    refine Y_store F.lay28 ?_
    refine Y_assign ?_
    refine XD_end ?_
    refine K_then ?_
    refine Y_pk [19, 18, 17, 16, 15, 14, 13, 12, 11, 10, 6, 5, 4] ?_
    refine C_seq ?_
    refine C_region (l := [0, 1, 2, 3, 4, 5, 6, 7, 8, 9, 10, 11]) rfl ?_
    refine Y_load F.lay28 ?_
    refine Y_move ?_
    refine Y_load F.lay25 ?_
    refine X_fn rfl rfl F.ok21 rfl (Point_ok _ ⟨⟨t_self_addr, t_self_id⟩, ⟨t_pred_addr, t_pred_id⟩, ⟨t_succ_a, t_succ_c, t_succ_l⟩, ⟨t_fingers_a, t_fingers_c, t_fingers_l⟩⟩ k ⟨p_addr, p_id⟩ (okT.mono (by (repeat first | assumption | refine Mem.le.trans (by assumption) ?_)))) rfl ?_
    rintro _ M6 hm6 h6
    obtain ⟨_, rfl, ⟨⟨a6, i6⟩, ⟨q6, j6⟩, ⟨s6a, s6c, s6l⟩, ⟨f6a, f6c, f6l⟩⟩, rfl, e6, ok6⟩ := h6
    refine Y_move ?_
    iterate 3 refine Y_extract ?_
    refine Y_alloc F.zero28 ?_; intro b10
    refine Y_store F.lay28 ?_
    iterate 2 refine Y_assign ?_
    refine XD_end ?_
    refine K_then ?_
    refine Y_pk [22, 21, 20, 19, 18, 17, 16, 15, 14, 13, 12, 11, 10, 6, 5, 4] ?_
    refine C_seq ?_
    refine C_region (l := [0, 1, 2, 3, 4, 5, 6, 7, 8, 9, 10, 11]) rfl ?_
    refine Y_load F.lay28 ?_
    refine Y_move ?_
    refine Y_load F.lay25 ?_
    refine X_fn rfl rfl F.ok22 rfl (rPoint_ok _ (TableV.mk ⟨a1, i1⟩ ⟨q1, j1⟩ ⟨s1a, s1c, s1l⟩ ⟨f1a, f1c, f1l⟩) k ⟨p_addr, p_id⟩ (ok1.mono (by (repeat first | assumption | refine Mem.le.trans (by assumption) ?_)))) rfl ?_
    rintro _ M7 hm7 h7
    rw [e1] at h7
    obtain ⟨_, rfl, ⟨⟨a7, i7⟩, ⟨q7, j7⟩, ⟨s7a, s7c, s7l⟩, ⟨f7a, f7c, f7l⟩⟩, rfl, e7, ok7⟩ := h7
    refine Y_move ?_
    iterate 3 refine Y_extract ?_
    refine Y_alloc F.zero28 ?_; intro b11
    refine Y_store F.lay28 ?_
    iterate 2 refine Y_assign ?_
    refine XD_end ?_
    refine K_then ?_
    refine Y_pk [25, 24, 23, 22, 21, 20, 19, 18, 17, 16, 15, 14, 13, 12, 11, 10, 6, 5] ?_
    refine C_seq ?_
    refine C_region_any (l := [0, 1, 2, 3, 4, 5, 6, 7, 8, 9, 10, 11, 12, 13, 14, 15, 16, 17, 18, 19, 20, 21, 22, 23, 24, 25, 26, 27, 28, 29, 30, 31, 32, 33, 34, 35, 36, 37, 38, 39, 40, 41, 42, 43, 44, 45, 46, 47, 48, 49, 50]) #[0, 1, 3, 3, 15, 31, 63, 127, 127, 511, 1023, 2047, 4095, 4095, 16383, 32767, 65535, 131071, 131071, 524287, 1048575, 2097151, 4194303, 4194303, 16777215, 33554431, 67108863, 134217727, 134217727, 536870911, 1073741823, 2147483647, 4294967295, 4294967295, 17179869183, 34359738367, 68719476735, 137438953471, 137438953471, 549755813887, 137438953471, 137438953471, 4398046511103, 8796093022207, 17592186044415, 35184372088831, 70368744177663, 70368744177663, 281474976710655, 562949953421311, 1125899906842623] _ rfl (by kernel_rfl) (by kernel_rfl) St.drawn (fun _ h => h) ?_
    refine X_fn rfl rfl F.ok23 rfl (tabled_ok _) rfl ?_
    rintro _ M10 hm10 rfl
    refine Y_move ?_
    refine XD_part 78 rfl (fun hc12 => ?_) (fun hc12 => ?_)
    ·skip
     simp only [PeerV.eta, TableV.eta, RouteV.eta] at hc12
     iterate 2 refine Y_load F.lay28 ?_
     refine X_fs rfl rfl F.ok24 rfl (SameT_ok _ (TableV.mk ⟨a2, i2⟩ ⟨q2, j2⟩ ⟨s2a, s2c, s2l⟩ ⟨f2a, f2c, f2l⟩) (TableV.mk ⟨a3, i3⟩ ⟨q3, j3⟩ ⟨s3a, s3c, s3l⟩ ⟨f3a, f3c, f3l⟩) (ok2.mono (by (repeat first | assumption | refine Mem.le.trans (by assumption) ?_))) (ok3.mono (by (repeat first | assumption | refine Mem.le.trans (by assumption) ?_)))) rfl ?_
     rintro _ hv
     simp only [e2, e3, decide_true] at hv
     subst hv
     refine Y_pick ?_
     refine Y_move ?_
     refine XD_part 83 rfl (fun hc13 => ?_) (fun hc13 => ?_)
     ·skip
      simp only [PeerV.eta, TableV.eta, RouteV.eta] at hc13
      iterate 2 refine Y_move ?_
      refine Y_cmp ?_
      refine Y_pick ?_
      refine Y_move ?_
      refine XD_part 88 rfl (fun hc14 => ?_) (fun hc14 => ?_)
      ·replace hc14 := dT hc14
       simp only [PeerV.eta, TableV.eta, RouteV.eta] at hc14
       iterate 2 refine Y_load F.lay28 ?_
       refine X_fs rfl rfl F.ok24 rfl (SameT_ok _ (TableV.mk ⟨a4, i4⟩ ⟨q4, j4⟩ ⟨s4a, s4c, s4l⟩ ⟨f4a, f4c, f4l⟩) (TableV.mk ⟨a5, i5⟩ ⟨q5, j5⟩ ⟨s5a, s5c, s5l⟩ ⟨f5a, f5c, f5l⟩) (ok4.mono (by (repeat first | assumption | refine Mem.le.trans (by assumption) ?_))) (ok5.mono (by (repeat first | assumption | refine Mem.le.trans (by assumption) ?_)))) rfl ?_
       rintro _ hv
       simp only [e4, e5, decide_true] at hv
       subst hv
       refine Y_pick ?_
       refine Y_move ?_
       refine XD_part 93 rfl (fun hc15 => ?_) (fun hc15 => ?_)
       ·skip
        simp only [PeerV.eta, TableV.eta, RouteV.eta] at hc15
        iterate 2 refine Y_move ?_
        refine Y_cmp ?_
        refine Y_pick ?_
        refine Y_move ?_
        refine XD_part 98 rfl (fun hc16 => ?_) (fun hc16 => ?_)
        ·replace hc16 := dT hc16
         simp only [PeerV.eta, TableV.eta, RouteV.eta] at hc16
         iterate 2 refine Y_load F.lay28 ?_
         refine X_fs rfl rfl F.ok24 rfl (SameT_ok _ (TableV.mk ⟨a6, i6⟩ ⟨q6, j6⟩ ⟨s6a, s6c, s6l⟩ ⟨f6a, f6c, f6l⟩) (TableV.mk ⟨a7, i7⟩ ⟨q7, j7⟩ ⟨s7a, s7c, s7l⟩ ⟨f7a, f7c, f7l⟩) (ok6.mono (by (repeat first | assumption | refine Mem.le.trans (by assumption) ?_))) (ok7.mono (by assumption))) rfl ?_
         rintro _ hv
         simp only [e6, e7, decide_true] at hv
         subst hv
         refine Y_pick ?_
         refine Y_move ?_
         refine XD_part 103 rfl (fun hc17 => ?_) (fun hc17 => ?_)
         ·skip
          simp only [PeerV.eta, TableV.eta, RouteV.eta] at hc17
          iterate 2 refine Y_move ?_
          refine Y_cmp ?_
          refine Y_pick ?_
          refine Y_move ?_
          refine XD_part 108 rfl (fun hc18 => ?_) (fun hc18 => ?_)
          ·replace hc18 := dT hc18
           simp only [PeerV.eta, TableV.eta, RouteV.eta] at hc18
           iterate 2 refine Y_move ?_
           refine Y_cmp ?_
           refine Y_pick ?_
           refine Y_move ?_
           refine XD_part 113 rfl (fun hc19 => ?_) (fun hc19 => ?_)
           ·replace hc19 := dT hc19
            simp only [PeerV.eta, TableV.eta, RouteV.eta] at hc19
            refine Y_load F.lay28 ?_
            refine Y_load F.lay25 ?_
            refine X_fn rfl rfl F.ok25 rfl (Learn_ok _ ⟨⟨t_self_addr, t_self_id⟩, ⟨t_pred_addr, t_pred_id⟩, ⟨t_succ_a, t_succ_c, t_succ_l⟩, ⟨t_fingers_a, t_fingers_c, t_fingers_l⟩⟩ ⟨p_addr, p_id⟩ (okT.mono (by (repeat first | assumption | refine Mem.le.trans (by assumption) ?_)))) rfl ?_
            rintro _ M8 hm8 h8
            obtain ⟨⟨⟨a8, i8⟩, ⟨q8, j8⟩, ⟨s8a, s8c, s8l⟩, ⟨f8a, f8c, f8l⟩⟩, rfl, e8, ok8⟩ := h8
            refine Y_load F.lay28 ?_
            refine Y_load F.lay25 ?_
            refine X_fn rfl rfl F.ok26 rfl (rLearn_ok _ (TableV.mk ⟨a1, i1⟩ ⟨q1, j1⟩ ⟨s1a, s1c, s1l⟩ ⟨f1a, f1c, f1l⟩) ⟨p_addr, p_id⟩ (ok1.mono (by (repeat first | assumption | refine Mem.le.trans (by assumption) ?_))) big1) rfl ?_
            rintro _ M9 hm9 h9
            rw [e1] at h9
            obtain ⟨⟨⟨a9, i9⟩, ⟨q9, j9⟩, ⟨s9a, s9c, s9l⟩, ⟨f9a, f9c, f9l⟩⟩, rfl, e9, ok9⟩ := h9
            refine X_fs rfl rfl F.ok24 rfl (SameT_ok _ (TableV.mk ⟨a8, i8⟩ ⟨q8, j8⟩ ⟨s8a, s8c, s8l⟩ ⟨f8a, f8c, f8l⟩) (TableV.mk ⟨a9, i9⟩ ⟨q9, j9⟩ ⟨s9a, s9c, s9l⟩ ⟨f9a, f9c, f9l⟩) (ok8.mono (by assumption)) (ok9.mono (by exact Mem.le.refl _))) rfl ?_
            rintro _ hv
            simp only [e8, e9, decide_true] at hv
            subst hv
            refine Y_pick ?_
            refine Y_move ?_
            refine XD_part 122 rfl (fun hc20 => ?_) (fun hc20 => ?_)
            ·skip
             simp only [PeerV.eta, TableV.eta, RouteV.eta] at hc20
             iterate 2 refine Y_load F.lay28 ?_
             refine X_fs rfl rfl F.ok24 rfl (SameT_ok _ ⟨⟨t_self_addr, t_self_id⟩, ⟨t_pred_addr, t_pred_id⟩, ⟨t_succ_a, t_succ_c, t_succ_l⟩, ⟨t_fingers_a, t_fingers_c, t_fingers_l⟩⟩ (TableV.mk ⟨a1, i1⟩ ⟨q1, j1⟩ ⟨s1a, s1c, s1l⟩ ⟨f1a, f1c, f1l⟩) (okT.mono (by (repeat first | assumption | refine Mem.le.trans (by assumption) ?_))) (ok1.mono (by (repeat first | assumption | refine Mem.le.trans (by assumption) ?_)))) rfl ?_
             rintro _ hv
             simp only [e1, decide_true] at hv
             subst hv
             refine Y_pick ?_
             refine Y_assign ?_
             refine XD_end ?_
             refine K_then ?_
             refine Y_pk [10] ?_
             refine C_ret ?_
             refine K_end (.inr rfl) (.tmp rfl .nil) (fun w hw => ?_)
             refine ⟨_, _, rfl, (by (repeat first | assumption | refine Mem.le.trans (by assumption) ?_)), hw.c, ?_⟩
             clear hw
             rfl
            ·skip
             (exfalso; simp [eqX] at hc20; done)
           ·replace hc19 := dF hc19
            simp only [PeerV.eta, TableV.eta, RouteV.eta] at hc19
            (exfalso; simp [eqX] at hc19; done)
          ·replace hc18 := dF hc18
           simp only [PeerV.eta, TableV.eta, RouteV.eta] at hc18
           (exfalso; simp [eqX] at hc18; done)
         ·skip
          (exfalso; simp [eqX] at hc17; done)
        ·replace hc16 := dF hc16
         simp only [PeerV.eta, TableV.eta, RouteV.eta] at hc16
         (exfalso; simp [eqX] at hc16; done)
       ·skip
        (exfalso; simp [eqX] at hc15; done)
      ·replace hc14 := dF hc14
       simp only [PeerV.eta, TableV.eta, RouteV.eta] at hc14
       (exfalso; simp [eqX] at hc14; done)
     ·skip
      (exfalso; simp [eqX] at hc13; done)
    ·skip
     (exfalso; simp [eqX] at hc12; done)

end Go.Proofs.Ytbjklbmmchiahaa
/-
  The second law.
-/
set_option linter.unusedSimpArgs false
set_option linter.unusedVariables false
set_option linter.unnecessarySimpa false
set_option maxRecDepth 8000
set_option maxHeartbeats 1000000
namespace Go.Proofs.Ytbjklbmmchiahaa
open Go.Esp
theorem F.ok28 : okFn Try.prog 28 = true := by kernel_rfl
theorem F.ok30 : okFn Try.prog 30 = true := by kernel_rfl
theorem F.ok36 : okFn Try.prog 36 = true := by kernel_rfl
theorem F.ok41 : okFn Try.prog 41 = true := by kernel_rfl

theorem lawTells_ok (M : Mem) (t : TableV) (p : PeerV) (id : Plc) (avoid : (Sl Int)) (addr : Int) (ht0 : TableV.ok M t) (havoid1 : SlK M (oneI .i64) 1 avoid) : Esp.Fn Try.prog 4 [t.enc, p.enc, aggV [idSeg id], Sl.val avoid, .int .i64 addr] M (fun _ v => v = .bool true) := by
  obtain ⟨⟨t_self_addr, t_self_id⟩, ⟨t_pred_addr, t_pred_id⟩, ⟨t_succ_a, t_succ_c, t_succ_l⟩, ⟨t_fingers_a, t_fingers_c, t_fingers_l⟩⟩ := t
  obtain ⟨p_addr, p_id⟩ := p
  obtain ⟨avoid_a, avoid_c, avoid_l⟩ := avoid
  have k_t_succ : SlK M PeerV.segs 21 ⟨t_succ_a, t_succ_c, t_succ_l⟩ := ht0.h0
  have s_t_succ : SlM M t_succ_a (t_succ_l.map PeerV.segs) 21 := k_t_succ.h1
  have n_t_succ : (t_succ_l.map PeerV.segs).length = t_succ_l.length := List.length_map ..
  have m_t_succ : t_succ_l.length ≤ 9223372036854775807 := k_t_succ.h2
  have c_t_succ : t_succ_l.length ≤ t_succ_c := k_t_succ.h3
  have k_t_fingers : SlK M PeerV.segs 21 ⟨t_fingers_a, t_fingers_c, t_fingers_l⟩ := ht0.h1
  have s_t_fingers : SlM M t_fingers_a (t_fingers_l.map PeerV.segs) 21 := k_t_fingers.h1
  have n_t_fingers : (t_fingers_l.map PeerV.segs).length = t_fingers_l.length := List.length_map ..
  have m_t_fingers : t_fingers_l.length ≤ 9223372036854775807 := k_t_fingers.h2
  have c_t_fingers : t_fingers_l.length ≤ t_fingers_c := k_t_fingers.h3
  have k_avoid : SlK M (oneI .i64) 1 ⟨avoid_a, avoid_c, avoid_l⟩ := havoid1
  have s_avoid : SlM M avoid_a (avoid_l.map (oneI .i64)) 1 := k_avoid.h1
  have n_avoid : (avoid_l.map (oneI .i64)).length = avoid_l.length := List.length_map ..
  have m_avoid : avoid_l.length ≤ 9223372036854775807 := k_avoid.h2
  have c_avoid : avoid_l.length ≤ avoid_c := k_avoid.h3
  refine fn_enter Try.func4 rfl Try.ntmps4 rfl ?_; intro H
  refine C_seq ?_
  refine C_region (l := [0, 1, 2, 3]) rfl ?_
  refine Y_box ?_; intro b1
  refine Y_box ?_; intro b2
  refine Y_box ?_; intro b3
  refine Y_assign ?_
  refine XD_end ?_
  refine K_then ?_
  refine Y_pk [10, 7, 6, 5, 3, 4] ?_
  iterate 2 refine C_seq ?_
  refine C_region (l := [0, 1, 2, 3, 4, 5, 6]) rfl ?_
  refine Y_load F.lay28 ?_
  refine X_fs rfl rfl F.ok15 rfl (BigT_ok _ ⟨⟨_, _⟩, ⟨_, _⟩, ⟨_, _, _⟩, ⟨_, _, _⟩⟩ (by assumption)) rfl ?_
  rintro _ rfl
  refine Y_move ?_
  refine XD_part 21 rfl (fun hc4 => ?_) (fun hc4 => ?_)
  ·replace hc4 := dT hc4
   simp only [PeerV.eta, TableV.eta, RouteV.eta] at hc4
   iterate 3 refine Y_skip ?_
   refine Y_pick ?_
   refine XD_end ?_
   refine K_then ?_
   refine Y_pk [25, 10, 7, 6, 5, 3, 4] ?_
   refine C_true rfl ?_
   refine C_seq ?_
   refine C_region (l := [0]) rfl ?_
   refine Y_assign ?_
   refine XD_end ?_
   refine K_then ?_
   refine Y_pk [10, 7, 6, 5, 3, 4] ?_
   refine C_ret ?_
   refine K_ret ?_
   refine K_end (.inr rfl) (.tmp rfl .nil) (fun w hw => ?_)
   refine ⟨_, _, rfl, (by exact Mem.le.refl _), hw.c, ?_⟩
   clear hw
   rfl
  ·replace hc4 := dF hc4
   simp only [PeerV.eta, TableV.eta, RouteV.eta] at hc4
   refine Y_move ?_
   refine Y_len_sl F.elem41 ?_
   refine Y_cmp ?_
   refine Y_pick ?_
   refine XD_end ?_
   refine K_then ?_
   refine Y_pk [25, 10, 7, 6, 5, 3, 4] ?_
   refine C_cond rfl (fun hc5 => ?_) (fun hc5 => ?_)
   ·replace hc5 := dT hc5
    refine C_seq ?_
    refine C_region (l := [0]) rfl ?_
    refine Y_assign ?_
    refine XD_end ?_
    refine K_then ?_
    refine Y_pk [10, 7, 6, 5, 3, 4] ?_
    refine C_ret ?_
    refine K_ret ?_
    refine K_end (.inr rfl) (.tmp rfl .nil) (fun w hw => ?_)
    refine ⟨_, _, rfl, (by exact Mem.le.refl _), hw.c, ?_⟩
    clear hw
    rfl
   ·replace hc5 := dF hc5
    refine C_skip ?_
    refine K_then ?_
    refine Y_pk [10, 7, 6, 5, 3, 4] ?_
    refine C_seq ?_
    refine C_region (l := [0, 1, 2, 3, 4, 5, 6, 7, 8, 9]) rfl ?_
    have hbig : t_succ_l.length ≤ 40 ∧ t_fingers_l.length ≤ 200 := by omega
    have okT : TableV.ok M ⟨⟨t_self_addr, t_self_id⟩, ⟨t_pred_addr, t_pred_id⟩, ⟨t_succ_a, t_succ_c, t_succ_l⟩, ⟨t_fingers_a, t_fingers_c, t_fingers_l⟩⟩ := ht0
    refine Y_load F.lay28 ?_
    refine Y_load F.lay23 ?_
    refine Y_move ?_
    refine X_fn rfl rfl F.ok27 rfl (Nearest_ok _ ⟨⟨t_self_addr, t_self_id⟩, ⟨t_pred_addr, t_pred_id⟩, ⟨t_succ_a, t_succ_c, t_succ_l⟩, ⟨t_fingers_a, t_fingers_c, t_fingers_l⟩⟩ id ⟨avoid_a, avoid_c, avoid_l⟩ okT k_avoid hbig) rfl ?_
    rintro _ M1 hm1 hv
    obtain ⟨⟨⟨nna, nni⟩, nnb⟩, hnn⟩ : ∃ r, nearestT (TableV.tb ⟨⟨t_self_addr, t_self_id⟩, ⟨t_pred_addr, t_pred_id⟩, ⟨t_succ_a, t_succ_c, t_succ_l⟩, ⟨t_fingers_a, t_fingers_c, t_fingers_l⟩⟩) id avoid_l = r := ⟨_, rfl⟩
    rw [hnn] at hv
    subst hv
    refine Y_move ?_
    iterate 2 refine Y_extract ?_
    refine Y_alloc F.zero25 ?_; intro b6
    refine Y_store F.lay25 ?_
    refine Y_assign ?_
    refine XD_end ?_
    refine K_then ?_
    refine Y_pk [12, 11, 10, 7, 6, 5, 3, 4] ?_
    refine C_seq ?_
    refine C_region (l := [0, 1, 2, 3, 4, 5, 6, 7, 8, 9]) rfl ?_
    refine Y_load F.lay28 ?_
    refine Y_load F.lay23 ?_
    refine Y_move ?_
    refine X_fn rfl rfl F.ok28 rfl (rNearest_ok _ ⟨⟨t_self_addr, t_self_id⟩, ⟨t_pred_addr, t_pred_id⟩, ⟨t_succ_a, t_succ_c, t_succ_l⟩, ⟨t_fingers_a, t_fingers_c, t_fingers_l⟩⟩ id ⟨avoid_a, avoid_c, avoid_l⟩ (okT.mono (by assumption)) (k_avoid.mono (by assumption)) hbig) rfl ?_
    rintro _ M2 hm2 hv
    rw [hnn] at hv
    subst hv
    refine Y_move ?_
    iterate 2 refine Y_extract ?_
    refine Y_alloc F.zero25 ?_; intro b7
    refine Y_store F.lay25 ?_
    refine Y_assign ?_
    refine XD_end ?_
    refine K_then ?_
    refine Y_pk [14, 13, 12, 11, 10, 7, 6, 5, 4] ?_
    refine C_seq ?_
    refine C_region (l := [0, 1, 2, 3, 4, 5, 6, 7, 8]) rfl ?_
    refine Y_load F.lay28 ?_
    refine Y_load F.lay23 ?_
    refine X_fs rfl rfl F.ok29 rfl (Done_ok _ ⟨⟨t_self_addr, t_self_id⟩, ⟨t_pred_addr, t_pred_id⟩, ⟨t_succ_a, t_succ_c, t_succ_l⟩, ⟨t_fingers_a, t_fingers_c, t_fingers_l⟩⟩ id (okT.mono (by (repeat first | assumption | refine Mem.le.trans (by assumption) ?_)))) rfl ?_
    rintro _ hv
    obtain ⟨⟨⟨dda, ddi⟩, ddb⟩, hdd⟩ : ∃ r, doneT (TableV.tb ⟨⟨t_self_addr, t_self_id⟩, ⟨t_pred_addr, t_pred_id⟩, ⟨t_succ_a, t_succ_c, t_succ_l⟩, ⟨t_fingers_a, t_fingers_c, t_fingers_l⟩⟩) id = r := ⟨_, rfl⟩
    rw [hdd] at hv
    subst hv
    refine Y_move ?_
    iterate 2 refine Y_extract ?_
    refine Y_alloc F.zero25 ?_; intro b8
    refine Y_store F.lay25 ?_
    refine Y_assign ?_
    refine XD_end ?_
    refine K_then ?_
    refine Y_pk [16, 15, 14, 13, 12, 11, 10, 7, 6, 5, 4] ?_
    refine C_seq ?_
    refine C_region (l := [0, 1, 2, 3, 4, 5, 6, 7, 8]) rfl ?_
    refine Y_load F.lay28 ?_
    refine Y_load F.lay23 ?_
    refine X_fs rfl rfl F.ok30 rfl (rDone_ok _ ⟨⟨t_self_addr, t_self_id⟩, ⟨t_pred_addr, t_pred_id⟩, ⟨t_succ_a, t_succ_c, t_succ_l⟩, ⟨t_fingers_a, t_fingers_c, t_fingers_l⟩⟩ id (okT.mono (by (repeat first | assumption | refine Mem.le.trans (by assumption) ?_)))) rfl ?_
    rintro _ hv
    rw [hdd] at hv
    subst hv
    refine Y_move ?_
    iterate 2 refine Y_extract ?_
    refine Y_alloc F.zero25 ?_; intro b9
    refine Y_store F.lay25 ?_
    refine Y_assign ?_
    refine XD_end ?_
    refine K_then ?_
    refine Y_pk [18, 17, 16, 15, 14, 13, 12, 11, 10, 6, 5, 4] ?_
    refine C_seq ?_
    refine C_region_any (l := [0, 1, 2, 3, 4, 5, 6, 7, 8, 9, 10, 11, 12, 13, 14, 15, 16, 17, 18, 19, 20, 21, 22, 23, 24, 25, 26, 27, 28, 29, 30, 31, 32, 33, 34, 35, 36, 37, 38, 39, 40, 41, 42, 43, 44, 45, 46, 47, 48, 49, 50, 51, 52, 53, 54, 55, 56, 57, 58, 59, 60]) #[0, 1, 3, 7, 3, 31, 63, 127, 255, 511, 1023, 511, 4095, 8191, 16383, 32767, 65535, 65535, 262143, 65535, 65535, 2097151, 4194303, 8388607, 16777215, 33554431, 33554431, 134217727, 268435455, 536870911, 1073741823, 1073741823, 4294967295, 8589934591, 17179869183, 34359738367, 34359738367, 137438953471, 274877906943, 549755813887, 1099511627775, 1099511627775, 4398046511103, 8796093022207, 17592186044415, 35184372088831, 70368744177663, 35184372088831, 281474976710655, 562949953421311, 1125899906842623, 2251799813685247, 4503599627370495, 4503599627370495, 18014398509481983, 4503599627370495, 4503599627370495, 144115188075855871, 288230376151711743, 576460752303423487, 1152921504606846975] _ rfl (by kernel_rfl) (by kernel_rfl) St.drawn (fun _ h => h) ?_
    refine X_fn rfl rfl F.ok23 rfl (tabled_ok _) rfl ?_
    rintro _ M3 hm3 rfl
    refine Y_move ?_
    refine XD_part 53 rfl (fun hc10 => ?_) (fun hc10 => ?_)
    ·skip
     simp only [PeerV.eta, TableV.eta, RouteV.eta] at hc10
     refine Y_load F.lay28 ?_
     refine X_fs rfl rfl F.ok31 rfl (IsT_ok _ ⟨⟨t_self_addr, t_self_id⟩, ⟨t_pred_addr, t_pred_id⟩, ⟨t_succ_a, t_succ_c, t_succ_l⟩, ⟨t_fingers_a, t_fingers_c, t_fingers_l⟩⟩ (okT.mono (by (repeat first | assumption | refine Mem.le.trans (by assumption) ?_)))) rfl ?_
     rintro _ rfl
     refine Y_load F.lay28 ?_
     refine X_fs rfl rfl F.ok32 rfl (rIsT_ok _ ⟨⟨t_self_addr, t_self_id⟩, ⟨t_pred_addr, t_pred_id⟩, ⟨t_succ_a, t_succ_c, t_succ_l⟩, ⟨t_fingers_a, t_fingers_c, t_fingers_l⟩⟩ (okT.mono (by (repeat first | assumption | refine Mem.le.trans (by assumption) ?_)))) rfl ?_
     rintro _ rfl
     refine X_eqb rfl rfl rfl rfl rfl Try.underlying4 rfl ?_
     refine Y_pick ?_
     refine Y_move ?_
     refine XD_part 60 rfl (fun hc11 => ?_) (fun hc11 => ?_)
     ·replace hc11 := dT hc11
      simp only [PeerV.eta, TableV.eta, RouteV.eta] at hc11
      refine Y_load F.lay28 ?_
      refine X_fs rfl rfl F.ok33 rfl (First_ok _ ⟨⟨t_self_addr, t_self_id⟩, ⟨t_pred_addr, t_pred_id⟩, ⟨t_succ_a, t_succ_c, t_succ_l⟩, ⟨t_fingers_a, t_fingers_c, t_fingers_l⟩⟩ (okT.mono (by (repeat first | assumption | refine Mem.le.trans (by assumption) ?_)))) rfl ?_
      rintro _ hv
      obtain ⟨⟨fa, fi⟩, hff⟩ : ∃ r, firstT (TableV.tb ⟨⟨t_self_addr, t_self_id⟩, ⟨t_pred_addr, t_pred_id⟩, ⟨t_succ_a, t_succ_c, t_succ_l⟩, ⟨t_fingers_a, t_fingers_c, t_fingers_l⟩⟩) = r := ⟨_, rfl⟩
      rw [hff] at hv
      subst hv
      refine Y_load F.lay28 ?_
      refine X_fs rfl rfl F.ok34 rfl (rFirst_ok _ ⟨⟨t_self_addr, t_self_id⟩, ⟨t_pred_addr, t_pred_id⟩, ⟨t_succ_a, t_succ_c, t_succ_l⟩, ⟨t_fingers_a, t_fingers_c, t_fingers_l⟩⟩ (okT.mono (by (repeat first | assumption | refine Mem.le.trans (by assumption) ?_)))) rfl ?_
      rintro _ hv
      rw [hff] at hv
      subst hv
      refine X_same (m := 20) rfl rfl rfl rfl rfl (by constructor) (by constructor) F.lay25 F.kinds25 rfl F.guard25 (by exact FitPeerV _) (by exact FitPeerV _) rfl rfl rfl ?_; intro c12 he13
      replace he13 : c12 = true ↔ Segs.cells _ = Segs.cells _ := he13
      obtain rfl := eqD he13 (PeerV.inj (x := ⟨_, _⟩) (y := ⟨_, _⟩)); clear he13
      refine Y_pick ?_
      refine Y_move ?_
      refine XD_part 67 rfl (fun hc14 => ?_) (fun hc14 => ?_)
      ·replace hc14 := dT hc14
       simp only [PeerV.eta, TableV.eta, RouteV.eta] at hc14
       refine Y_load F.lay28 ?_
       refine Y_load F.lay25 ?_
       refine X_fs rfl rfl F.ok35 rfl (Closer_ok _ ⟨⟨t_self_addr, t_self_id⟩, ⟨t_pred_addr, t_pred_id⟩, ⟨t_succ_a, t_succ_c, t_succ_l⟩, ⟨t_fingers_a, t_fingers_c, t_fingers_l⟩⟩ ⟨p_addr, p_id⟩ (okT.mono (by (repeat first | assumption | refine Mem.le.trans (by assumption) ?_)))) rfl ?_
       rintro _ rfl
       refine Y_load F.lay28 ?_
       refine Y_load F.lay25 ?_
       refine X_fs rfl rfl F.ok36 rfl (rCloser_ok _ ⟨⟨t_self_addr, t_self_id⟩, ⟨t_pred_addr, t_pred_id⟩, ⟨t_succ_a, t_succ_c, t_succ_l⟩, ⟨t_fingers_a, t_fingers_c, t_fingers_l⟩⟩ ⟨p_addr, p_id⟩ (okT.mono (by (repeat first | assumption | refine Mem.le.trans (by assumption) ?_)))) rfl ?_
       rintro _ rfl
       refine X_eqb rfl rfl rfl rfl rfl Try.underlying4 rfl ?_
       refine Y_pick ?_
       refine Y_move ?_
       refine XD_part 76 rfl (fun hc15 => ?_) (fun hc15 => ?_)
       ·replace hc15 := dT hc15
        simp only [PeerV.eta, TableV.eta, RouteV.eta] at hc15
        iterate 2 refine Y_load F.lay25 ?_
        refine X_same (m := 20) rfl rfl rfl rfl rfl (by constructor) (by constructor) F.lay25 F.kinds25 rfl F.guard25 (by exact FitPeerV (⟨_, _⟩)) (by exact FitPeerV (⟨_, _⟩)) rfl rfl rfl ?_; intro c16 he17
        replace he17 : c16 = true ↔ Segs.cells _ = Segs.cells _ := he17
        obtain rfl := eqD he17 (PeerV.inj (x := ⟨_, _⟩) (y := ⟨_, _⟩)); clear he17
        refine Y_pick ?_
        refine Y_move ?_
        refine XD_part 81 rfl (fun hc18 => ?_) (fun hc18 => ?_)
        ·replace hc18 := dT hc18
         simp only [PeerV.eta, TableV.eta, RouteV.eta] at hc18
         iterate 2 refine Y_move ?_
         refine X_eqb rfl rfl rfl rfl rfl Try.underlying4 rfl ?_
         refine Y_pick ?_
         refine Y_move ?_
         refine XD_part 86 rfl (fun hc19 => ?_) (fun hc19 => ?_)
         ·replace hc19 := dT hc19
          simp only [PeerV.eta, TableV.eta, RouteV.eta] at hc19
          iterate 2 refine Y_load F.lay25 ?_
          refine X_same (m := 20) rfl rfl rfl rfl rfl (by constructor) (by constructor) F.lay25 F.kinds25 rfl F.guard25 (by exact FitPeerV (⟨_, _⟩)) (by exact FitPeerV (⟨_, _⟩)) rfl rfl rfl ?_; intro c20 he21
          replace he21 : c20 = true ↔ Segs.cells _ = Segs.cells _ := he21
          obtain rfl := eqD he21 (PeerV.inj (x := ⟨_, _⟩) (y := ⟨_, _⟩)); clear he21
          refine Y_pick ?_
          refine Y_move ?_
          refine XD_part 91 rfl (fun hc22 => ?_) (fun hc22 => ?_)
          ·replace hc22 := dT hc22
           simp only [PeerV.eta, TableV.eta, RouteV.eta] at hc22
           iterate 2 refine Y_move ?_
           refine X_eqb rfl rfl rfl rfl rfl Try.underlying4 rfl ?_
           refine Y_pick ?_
           refine Y_move ?_
           refine XD_part 96 rfl (fun hc23 => ?_) (fun hc23 => ?_)
           ·replace hc23 := dT hc23
            simp only [PeerV.eta, TableV.eta, RouteV.eta] at hc23
            refine Y_load F.lay28 ?_
            refine X_fn rfl rfl F.ok38 rfl (Known_ok _ ⟨⟨t_self_addr, t_self_id⟩, ⟨t_pred_addr, t_pred_id⟩, ⟨t_succ_a, t_succ_c, t_succ_l⟩, ⟨t_fingers_a, t_fingers_c, t_fingers_l⟩⟩ (okT.mono (by (repeat first | assumption | refine Mem.le.trans (by assumption) ?_))) hbig) rfl ?_
            rintro _ M7 hm7 ⟨⟨k7a, k7c, k7l⟩, rfl, h7, k7⟩
            simp only at h7
            refine Y_load F.lay28 ?_
            refine X_fn rfl rfl F.ok39 rfl (rKnown_ok _ ⟨⟨t_self_addr, t_self_id⟩, ⟨t_pred_addr, t_pred_id⟩, ⟨t_succ_a, t_succ_c, t_succ_l⟩, ⟨t_fingers_a, t_fingers_c, t_fingers_l⟩⟩ (okT.mono (by (repeat first | assumption | refine Mem.le.trans (by assumption) ?_))) hbig) rfl ?_
            rintro _ M8 hm8 ⟨⟨k8a, k8c, k8l⟩, rfl, h8, k8⟩
            simp only at h8
            refine X_fs rfl rfl F.ok37 rfl (SameP_ok _ ⟨k7a, k7c, k7l⟩ ⟨k8a, k8c, k8l⟩ (k7.mono (by assumption)) (k8.mono (by exact Mem.le.refl _))) rfl ?_
            rintro _ hv
            simp only [h7, h8, decide_true] at hv
            subst hv
            refine Y_pick ?_
            refine Y_move ?_
            refine XD_part 103 rfl (fun hc24 => ?_) (fun hc24 => ?_)
            ·skip
             simp only [PeerV.eta, TableV.eta, RouteV.eta] at hc24
             refine Y_load F.lay28 ?_
             refine Y_move ?_
             refine X_fn rfl rfl F.ok40 rfl (Forget_ok _ ⟨⟨t_self_addr, t_self_id⟩, ⟨t_pred_addr, t_pred_id⟩, ⟨t_succ_a, t_succ_c, t_succ_l⟩, ⟨t_fingers_a, t_fingers_c, t_fingers_l⟩⟩ addr (okT.mono (by (repeat first | assumption | refine Mem.le.trans (by assumption) ?_))) hbig) rfl ?_
             rintro _ M5 hm5 h5
             obtain ⟨⟨⟨a5, i5⟩, ⟨q5, j5⟩, ⟨s5a, s5c, s5l⟩, ⟨f5a, f5c, f5l⟩⟩, rfl, e5, ok5⟩ := h5
             refine Y_load F.lay28 ?_
             refine Y_move ?_
             refine X_fn rfl rfl F.ok41 rfl (rForget_ok _ ⟨⟨t_self_addr, t_self_id⟩, ⟨t_pred_addr, t_pred_id⟩, ⟨t_succ_a, t_succ_c, t_succ_l⟩, ⟨t_fingers_a, t_fingers_c, t_fingers_l⟩⟩ addr (okT.mono (by (repeat first | assumption | refine Mem.le.trans (by assumption) ?_))) hbig) rfl ?_
             rintro _ M6 hm6 h6
             obtain ⟨⟨⟨a6, i6⟩, ⟨q6, j6⟩, ⟨s6a, s6c, s6l⟩, ⟨f6a, f6c, f6l⟩⟩, rfl, e6, ok6⟩ := h6
             refine X_fs rfl rfl F.ok24 rfl (SameT_ok _ (TableV.mk ⟨a5, i5⟩ ⟨q5, j5⟩ ⟨s5a, s5c, s5l⟩ ⟨f5a, f5c, f5l⟩) (TableV.mk ⟨a6, i6⟩ ⟨q6, j6⟩ ⟨s6a, s6c, s6l⟩ ⟨f6a, f6c, f6l⟩) (ok5.mono (by assumption)) (ok6.mono (by exact Mem.le.refl _))) rfl ?_
             rintro _ hv
             simp only [e5, e6, decide_true] at hv
             subst hv
             refine Y_pick ?_
             refine Y_assign ?_
             refine XD_end ?_
             refine K_then ?_
             refine Y_pk [10] ?_
             refine C_ret ?_
             refine K_end (.inr rfl) (.tmp rfl .nil) (fun w hw => ?_)
             refine ⟨_, _, rfl, (by (repeat first | assumption | refine Mem.le.trans (by assumption) ?_)), hw.c, ?_⟩
             clear hw
             rfl
            ·skip
             (exfalso; simp [eqX] at hc24; done)
           ·replace hc23 := dF hc23
            simp only [PeerV.eta, TableV.eta, RouteV.eta] at hc23
            (exfalso; simp [eqX] at hc23; done)
          ·replace hc22 := dF hc22
           simp only [PeerV.eta, TableV.eta, RouteV.eta] at hc22
           (exfalso; simp [eqX] at hc22; done)
         ·replace hc19 := dF hc19
          simp only [PeerV.eta, TableV.eta, RouteV.eta] at hc19
          (exfalso; simp [eqX] at hc19; done)
        ·replace hc18 := dF hc18
         simp only [PeerV.eta, TableV.eta, RouteV.eta] at hc18
         (exfalso; simp [eqX] at hc18; done)
       ·replace hc15 := dF hc15
        simp only [PeerV.eta, TableV.eta, RouteV.eta] at hc15
        (exfalso; simp [eqX] at hc15; done)
      ·replace hc14 := dF hc14
       simp only [PeerV.eta, TableV.eta, RouteV.eta] at hc14
       (exfalso; simp [eqX] at hc14; done)
     ·replace hc11 := dF hc11
      simp only [PeerV.eta, TableV.eta, RouteV.eta] at hc11
      (exfalso; simp [eqX] at hc11; done)
    ·skip
     (exfalso; simp [eqX] at hc10; done)

end Go.Proofs.Ytbjklbmmchiahaa
/-
  What stays right, in plain Lean.
-/
set_option linter.unusedSimpArgs false
set_option linter.unusedVariables false
set_option linter.unnecessarySimpa false
namespace Go.Esp
theorem stay_learn {t : Tb} {p : PeerV} (h : IsTb t) : IsTb (learnT t p) := by
  unfold learnT
  split
  · rename_i hc
    obtain ⟨h1, h2, h3, h4, h5, h6⟩ := h
    exact ⟨h1, .inr hc.2.1, h3, h4, h5, h6⟩
  · exact h
theorem stay_forget {t : Tb} {a : Int} (h : IsTb t) : IsTb (forgetT t a) := by
  obtain ⟨h1, h2, h3, h4, h5, h6⟩ := h
  refine ⟨h1, ?_, ?_, ?_, ⟨?_, ?_⟩, ?_⟩
  · show MaybeP t.self (if t.pred.addr = a then noneP else t.pred)
    split
    · exact .inl rfl
    · exact h2
  · exact Nat.le_trans (List.length_filter_le _ _) h3
  · show (t.fingers.map _).length = 160
    rw [List.length_map]; exact h4
  · intro p hp
    exact h5.1 p (List.mem_filter.1 hp).1
  · exact h5.2.sublist (List.filter_sublist.map _)
  · intro p hp
    obtain ⟨q, hq, rfl⟩ := List.mem_map.1 hp
    split
    · exact .inl rfl
    · exact h6 q hq
theorem stay_adoptL {s : PeerV} {r : Int} : ∀ {rest acc : List PeerV}, SuccOk s acc → (acc.length : Int) ≤ r → SuccOk s (adoptL s r acc rest) ∧ ((adoptL s r acc rest).length : Int) ≤ r
  | [], acc, h1, h2 => ⟨h1, h2⟩
  | p :: rest, acc, h1, h2 => by
    unfold adoptL
    split
    · exact ⟨h1, h2⟩
    · rename_i hc
      split
      · exact stay_adoptL h1 h2
      · rename_i hn
        have ho : OtherP s p := Decidable.byContradiction fun h => hc (.inl h)
        have hl : ¬ (acc.length : Int) = r := fun h => hc (.inr h)
        refine stay_adoptL ⟨fun q hq => ?_, ?_⟩ (by rw [List.length_append, List.length_singleton]; omega)
        · rcases List.mem_append.1 hq with hq | hq
          · exact h1.1 q hq
          · rw [List.mem_singleton.1 hq]; exact ho
        · rw [List.map_append, List.nodup_append]
          refine ⟨h1.2, by simp, fun x hx y hy e => hn ?_⟩
          rw [List.map_singleton, List.mem_singleton] at hy
          unfold hasA
          rw [← hy, ← e]; exact hx
theorem adoptL_head {s : PeerV} {r : Int} {p : PeerV} : ∀ {rest acc : List PeerV}, acc.head? = some p → (adoptL s r acc rest).head? = some p
  | [], acc, h => h
  | q :: rest, acc, h => by
    unfold adoptL
    split
    · exact h
    · split
      · exact adoptL_head h
      · refine adoptL_head ?_
        cases acc with
        | nil => cases h
        | cons a l => exact h
theorem stay_adopt {t : Tb} {p : PeerV} {l : List PeerV} {r : Int} (h : IsTb t) (he : (adoptT t p l r).2 = 0) : IsTb (adoptT t p l r).1 ∧ firstT (adoptT t p l r).1 = p ∧ ((adoptT t p l r).1.succ.length : Int) ≤ r := by
  unfold adoptT at *
  split at he
  · rename_i hc
    rw [if_pos hc]
    obtain ⟨h1, h2, h3, h4, h5, h6⟩ := h
    obtain ⟨_, ho, hr1, hr2⟩ := hc
    have hk := stay_adoptL (rest := l) (s := t.self) (r := r) (acc := [p]) ⟨fun q hq => by rw [List.mem_singleton.1 hq]; exact ho, by simp⟩ (by simp; omega)
    refine ⟨⟨h1, h2, ?_, h4, hk.1, h6⟩, ?_, hk.2⟩
    · have := hk.2; show (adoptL t.self r [p] l).length ≤ 8; omega
    · have := adoptL_head (s := t.self) (r := r) (p := p) (rest := l) (acc := [p]) rfl
      show (adoptL t.self r [p] l).headD t.self = p
      cases hh : adoptL t.self r [p] l with
      | nil => rw [hh] at this; cases this
      | cons a b => rw [hh] at this; simpa using this
  · cases he
theorem pointEnd_gt {s p : PeerV} {k : Nat} (hk : k < 160) : k < pointEnd s p k k (160 - k) ∧ pointEnd s p k k (160 - k) ≤ 160 := by
  rw [pointEnd_go hk (by rintro ⟨h, _⟩; omega)]
  have := pointEnd_ge (s := s) (p := p) (k := k) (n := 160 - (k + 1)) (j := k + 1)
  omega
theorem stay_point {t : Tb} {p : PeerV} {k : Int} (h : IsTb t) (he : (pointT t k p).2.2 = 0) : IsTb (pointT t k p).1 ∧ 0 ≤ (pointT t k p).2.1 ∧ (pointT t k p).2.1 < 160 ∧ ((pointT t k p).2.1 = 0 ∨ k < (pointT t k p).2.1) := by
  by_cases hc : IsTb t ∧ (0 ≤ k ∧ k < 160) ∧ (p = t.self ∨ OtherP t.self p)
  · obtain ⟨_, ⟨hk1, hk2⟩, hp⟩ := hc
    obtain ⟨n, rfl⟩ := Int.eq_ofNat_of_zero_le hk1
    have hn : n < 160 := by omega
    obtain ⟨g1, g2⟩ := pointEnd_gt (s := t.self) (p := p) hn
    have e := pointT_at (t := t) (k := n) (p := p) h hn hp rfl
    rw [show pointT t (n : Nat) p = _ from e]
    generalize hj : pointEnd t.self p n n (160 - n) = j at *
    obtain ⟨h1, h2, h3, h4, h5, h6⟩ := h
    refine ⟨⟨h1, h2, h3, ?_, h5, ?_⟩, ?_, ?_, ?_⟩
    · show (ptW t.fingers n j _).length = 160
      rw [ptW_len (by omega) (by omega)]; exact h4
    · intro q hq
      have hq : q ∈ ptW t.fingers n j (fingerOf t p) := hq
      unfold ptW at hq
      rcases List.mem_append.1 hq with hq | hq
      · rcases List.mem_append.1 hq with hq | hq
        · exact h6 q (List.mem_of_mem_take hq)
        · obtain ⟨_, rfl⟩ := List.mem_replicate.1 hq
          unfold fingerOf
          show MaybeP t.self _
          split
          · exact .inl rfl
          · rename_i hns; exact .inr (hp.resolve_left hns)
      · exact h6 q (List.mem_of_mem_drop hq)
    all_goals (show _; dsimp only; split <;> omega)
  · rw [pointT_no hc] at he; cases he
/-! Who is forgotten is not known, and all others are. -/
def others (a : Int) (l : List PeerV) : List PeerV := l.filter (fun p => p.addr ≠ a)
theorem others_has {a b : Int} {l : List PeerV} (h : b ≠ a) : hasA (others a l) b ↔ hasA l b := by
  unfold hasA others
  simp only [List.mem_map, List.mem_filter, decide_eq_true_eq]
  exact ⟨fun ⟨p, ⟨h1, _⟩, h3⟩ => ⟨p, h1, h3⟩, fun ⟨p, h1, h3⟩ => ⟨p, ⟨h1, by rw [h3]; exact h⟩, h3⟩⟩
theorem others_ins_gone {a : Int} {p : PeerV} (hp : p.addr = a) : ∀ {l : List PeerV}, others a (insP p l) = others a l
  | [] => by unfold insP others; simp [hp]
  | q :: l => by
    unfold insP
    split
    · have := others_ins_gone hp (l := l)
      unfold others at *
      rw [List.filter_cons, List.filter_cons, this]
    · unfold others
      rw [List.filter_cons, if_neg (by simp [hp])]
theorem insP_first {p : PeerV} {l : List PeerV} (h : ∀ q ∈ l, ¬ q.addr < p.addr) : insP p l = p :: l := by
  cases l with
  | nil => rfl
  | cons q l => unfold insP; rw [if_neg (h q (.head _))]
theorem others_ins {a : Int} {p : PeerV} (hp : p.addr ≠ a) : ∀ {l : List PeerV}, l.Pairwise (fun a b => a.addr < b.addr) → others a (insP p l) = insP p (others a l)
  | [], _ => by unfold insP others; simp [hp]
  | q :: l, h => by
    obtain ⟨h1, h2⟩ := List.pairwise_cons.1 h
    by_cases hq : q.addr < p.addr
    · have ih := others_ins hp h2
      conv => lhs; unfold insP
      rw [if_pos hq]
      unfold others at *
      by_cases ha : q.addr = a
      · rw [List.filter_cons, if_neg (by simp [ha]), ih, List.filter_cons, if_neg (by simp [ha])]
      · rw [List.filter_cons, if_pos (by simp [ha]), ih, List.filter_cons, if_pos (by simp [ha])]
        conv => rhs; unfold insP
        rw [if_pos hq]
    · have hall : ∀ x ∈ others a (q :: l), ¬ x.addr < p.addr := fun x hx => by
        rcases List.mem_cons.1 (List.mem_filter.1 hx).1 with rfl | hx
        · exact hq
        · have := h1 x hx; omega
      rw [insP_first hall]
      conv => lhs; unfold insP
      rw [if_neg hq]
      unfold others
      rw [List.filter_cons, if_pos (by simp [hp])]
theorem known_none {s : PeerV} {o : List PeerV} : knownStep s o noneP = o := by
  unfold knownStep
  rw [if_pos (.inl (by decide))]
theorem known_sorted {s p : PeerV} {o : List PeerV} (h : o.Pairwise (fun a b => a.addr < b.addr)) : (knownStep s o p).Pairwise (fun a b => a.addr < b.addr) := by
  unfold knownStep
  split
  · exact h
  · rename_i hc; exact insP_sorted h fun h9 => hc (.inr (.inr h9))
theorem gone_step {s p : PeerV} {a : Int} {o : List PeerV} (h : o.Pairwise (fun a b => a.addr < b.addr)) : knownStep s (others a o) (gone1 a p) = others a (knownStep s o p) := by
  unfold gone1
  by_cases hp : p.addr = a
  · rw [if_pos hp, known_none]
    unfold knownStep
    split
    · rfl
    · exact (others_ins_gone hp).symm
  · rw [if_neg hp]
    unfold knownStep
    by_cases hc : p.addr < 0 ∨ p.addr = s.addr ∨ hasA o p.addr
    · rw [if_pos hc, if_pos (hc.imp id (Or.imp id (others_has hp).2))]
    · rw [if_neg hc, if_neg (fun h9 => hc (h9.imp id (Or.imp id (others_has hp).1)))]
      exact (others_ins hp h).symm
theorem gone_fold {s : PeerV} {a : Int} : ∀ {xs o : List PeerV}, o.Pairwise (fun a b => a.addr < b.addr) → (xs.map (gone1 a)).foldl (knownStep s) (others a o) = others a (xs.foldl (knownStep s) o)
  | [], _, _ => rfl
  | p :: xs, o, h => by
    rw [List.map_cons, List.foldl_cons, List.foldl_cons, gone_step h]
    exact gone_fold (known_sorted h)
theorem filter_gone {s : PeerV} {a : Int} : ∀ {xs o : List PeerV}, (xs.filter (fun p => p.addr ≠ a)).foldl (knownStep s) o = (xs.map (gone1 a)).foldl (knownStep s) o
  | [], _ => rfl
  | p :: xs, o => by
    by_cases hp : p.addr = a
    · rw [List.filter_cons, if_neg (by simp [hp]), List.map_cons, List.foldl_cons, show gone1 a p = noneP from if_pos hp, known_none]
      exact filter_gone
    · rw [List.filter_cons, if_pos (by simp [hp]), List.map_cons, List.foldl_cons, List.foldl_cons, show gone1 a p = p from if_neg hp]
      exact filter_gone
/-- Who is known of a table that forgot one. -/
theorem known_forget {t : Tb} {a : Int} : knownT (forgetT t a) = others a (knownT t) := by
  unfold knownT
  have e := gone_fold (s := t.self) (a := a) (xs := t.pred :: (t.succ ++ t.fingers)) (o := []) List.Pairwise.nil
  rw [← e]
  show ((if t.pred.addr = a then noneP else t.pred) :: (t.succ.filter _ ++ t.fingers.map _)).foldl (knownStep t.self) [] = _
  rw [List.map_cons, List.map_append, List.foldl_cons, List.foldl_cons, List.foldl_append, List.foldl_append, filter_gone]
  rfl
theorem forget_twice {t : Tb} {a : Int} : forgetT (forgetT t a) a = forgetT t a := by
  unfold forgetT
  simp only [List.filter_filter, List.map_map, Tb.mk.injEq, true_and]
  refine ⟨?_, ?_, ?_⟩
  · split
    · split <;> rfl
    · rfl
  · congr 1; funext p; simp
  · congr 1; funext p
    simp only [Function.comp_apply]
    split
    · split <;> rfl
    · rfl
theorem others_take {a : Int} {l : List PeerV} {k : Nat} (hk : k < l.length) : others a (l.take (k + 1)) = if l[k].addr = a then others a (l.take k) else others a (l.take k) ++ [l[k]] := by
  unfold others
  rw [List.take_add_one, List.getElem?_eq_getElem hk, List.filter_append]
  split
  · rename_i h; simp [h]
  · rename_i h; simp [h]
theorem others_at {a : Int} {l : List PeerV} {k : Nat} (hk : k < l.length) (h : ¬ l[k].addr = a) : (others a l)[(others a (l.take k)).length]? = some l[k] := by
  have e : others a l = others a (l.take k) ++ (l[k] :: others a (l.drop (k + 1))) := by
    conv => lhs; rw [← List.take_append_drop k l, List.drop_eq_getElem_cons hk]
    unfold others
    rw [List.filter_append, List.filter_cons, if_pos (by simp [h])]
  rw [e, List.getElem?_append_right (Nat.le_refl _), Nat.sub_self]
  rfl
end Go.Esp
/-
  The third law.
-/
set_option linter.unusedSimpArgs false
set_option linter.unusedVariables false
set_option linter.unnecessarySimpa false
set_option maxRecDepth 8000
set_option maxHeartbeats 1000000
namespace Go.Proofs.Ytbjklbmmchiahaa
open Go.Esp


theorem lawStays_ok (M : Mem) (t : TableV) (p : PeerV) (rest : (Sl PeerV)) (r : Int) (k : Int) (addr : Int) (ht0 : TableV.ok M t) (hrest1 : SlK M PeerV.segs 21 rest) : Esp.Fn Try.prog 5 [t.enc, p.enc, Sl.val rest, .int .i64 r, .int .i64 k, .int .i64 addr] M (fun _ v => v = .bool true) := by
  obtain ⟨⟨t_self_addr, t_self_id⟩, ⟨t_pred_addr, t_pred_id⟩, ⟨t_succ_a, t_succ_c, t_succ_l⟩, ⟨t_fingers_a, t_fingers_c, t_fingers_l⟩⟩ := t
  obtain ⟨p_addr, p_id⟩ := p
  obtain ⟨rest_a, rest_c, rest_l⟩ := rest
  have k_t_succ : SlK M PeerV.segs 21 ⟨t_succ_a, t_succ_c, t_succ_l⟩ := ht0.h0
  have s_t_succ : SlM M t_succ_a (t_succ_l.map PeerV.segs) 21 := k_t_succ.h1
  have n_t_succ : (t_succ_l.map PeerV.segs).length = t_succ_l.length := List.length_map ..
  have m_t_succ : t_succ_l.length ≤ 9223372036854775807 := k_t_succ.h2
  have c_t_succ : t_succ_l.length ≤ t_succ_c := k_t_succ.h3
  have k_t_fingers : SlK M PeerV.segs 21 ⟨t_fingers_a, t_fingers_c, t_fingers_l⟩ := ht0.h1
  have s_t_fingers : SlM M t_fingers_a (t_fingers_l.map PeerV.segs) 21 := k_t_fingers.h1
  have n_t_fingers : (t_fingers_l.map PeerV.segs).length = t_fingers_l.length := List.length_map ..
  have m_t_fingers : t_fingers_l.length ≤ 9223372036854775807 := k_t_fingers.h2
  have c_t_fingers : t_fingers_l.length ≤ t_fingers_c := k_t_fingers.h3
  have k_rest : SlK M PeerV.segs 21 ⟨rest_a, rest_c, rest_l⟩ := hrest1
  have s_rest : SlM M rest_a (rest_l.map PeerV.segs) 21 := k_rest.h1
  have n_rest : (rest_l.map PeerV.segs).length = rest_l.length := List.length_map ..
  have m_rest : rest_l.length ≤ 9223372036854775807 := k_rest.h2
  have c_rest : rest_l.length ≤ rest_c := k_rest.h3
  have okT0 := ht0
  refine fn_enter Try.func5 rfl Try.ntmps5 rfl ?_; intro H
  refine C_seq ?_
  refine C_region (l := [0, 1, 2]) rfl ?_
  refine Y_box ?_; intro b1
  refine Y_box ?_; intro b2
  refine Y_assign ?_
  refine XD_end ?_
  refine K_then ?_
  refine Y_pk [12, 7, 6, 2, 3, 4, 5] ?_
  iterate 2 refine C_seq ?_
  refine C_region (l := [0, 1, 2, 3, 4, 5, 6, 7, 8, 9, 10, 11]) rfl ?_
  refine Y_load F.lay28 ?_
  refine X_fs rfl rfl F.ok15 rfl (BigT_ok _ ⟨⟨_, _⟩, ⟨_, _⟩, ⟨_, _, _⟩, ⟨_, _, _⟩⟩ (by assumption)) rfl ?_
  rintro _ rfl
  refine Y_move ?_
  refine XD_part 20 rfl (fun hc3 => ?_) (fun hc3 => ?_)
  ·replace hc3 := dT hc3
   simp only [PeerV.eta, TableV.eta, RouteV.eta] at hc3
   iterate 3 refine Y_skip ?_
   refine Y_pick ?_
   refine Y_move ?_
   iterate 3 refine Y_skip ?_
   refine Y_pick ?_
   refine XD_end ?_
   refine K_then ?_
   refine Y_pk [29, 12, 7, 6, 2, 3, 4, 5] ?_
   refine C_true rfl ?_
   refine C_seq ?_
   refine C_region (l := [0, 1]) rfl ?_
   refine X_fn rfl rfl F.ok23 rfl (tabled_ok _) rfl ?_
   rintro _ M20 hm20 rfl
   refine Y_assign ?_
   refine XD_end ?_
   refine K_then ?_
   refine Y_pk [12, 7, 6, 2, 3, 4, 5] ?_
   refine C_ret ?_
   refine K_ret ?_
   refine K_end (.inr rfl) (.tmp rfl .nil) (fun w hw => ?_)
   refine ⟨_, _, rfl, (by assumption), hw.c, ?_⟩
   clear hw
   rfl
  ·replace hc3 := dF hc3
   simp only [PeerV.eta, TableV.eta, RouteV.eta] at hc3
   refine Y_move ?_
   refine Y_len_sl F.elem26 ?_
   refine Y_cmp ?_
   refine Y_pick ?_
   refine Y_move ?_
   refine XD_part 25 rfl (fun hc4 => ?_) (fun hc4 => ?_)
   ·replace hc4 := dT hc4
    iterate 3 refine Y_skip ?_
    refine Y_pick ?_
    refine XD_end ?_
    refine K_then ?_
    refine Y_pk [29, 12, 7, 6, 2, 3, 4, 5] ?_
    refine C_true rfl ?_
    refine C_seq ?_
    refine C_region (l := [0, 1]) rfl ?_
    refine X_fn rfl rfl F.ok23 rfl (tabled_ok _) rfl ?_
    rintro _ M20 hm20 rfl
    refine Y_assign ?_
    refine XD_end ?_
    refine K_then ?_
    refine Y_pk [12, 7, 6, 2, 3, 4, 5] ?_
    refine C_ret ?_
    refine K_ret ?_
    refine K_end (.inr rfl) (.tmp rfl .nil) (fun w hw => ?_)
    refine ⟨_, _, rfl, (by assumption), hw.c, ?_⟩
    clear hw
    rfl
   ·replace hc4 := dF hc4
    refine Y_load F.lay28 ?_
    refine X_fs rfl rfl F.ok31 rfl (IsT_ok _ ⟨⟨t_self_addr, t_self_id⟩, ⟨t_pred_addr, t_pred_id⟩, ⟨t_succ_a, t_succ_c, t_succ_l⟩, ⟨t_fingers_a, t_fingers_c, t_fingers_l⟩⟩ okT0) rfl ?_
    rintro _ rfl
    refine Y_not ?_
    refine Y_pick ?_
    refine XD_end ?_
    refine K_then ?_
    refine Y_pk [29, 12, 7, 6, 2, 3, 4, 5] ?_
    refine C_cond rfl (fun hc5 => ?_) (fun hc5 => ?_)
    ·replace hc5 := nT hc5
     refine C_seq ?_
     refine C_region (l := [0, 1]) rfl ?_
     refine X_fn rfl rfl F.ok23 rfl (tabled_ok _) rfl ?_
     rintro _ M20 hm20 rfl
     refine Y_assign ?_
     refine XD_end ?_
     refine K_then ?_
     refine Y_pk [12, 7, 6, 2, 3, 4, 5] ?_
     refine C_ret ?_
     refine K_ret ?_
     refine K_end (.inr rfl) (.tmp rfl .nil) (fun w hw => ?_)
     refine ⟨_, _, rfl, (by assumption), hw.c, ?_⟩
     clear hw
     rfl
    ·replace hc5 := nF hc5
     refine C_skip ?_
     refine K_then ?_
     refine Y_pk [12, 7, 6, 2, 3, 4, 5] ?_
     refine C_seq ?_
     refine C_region (l := [0, 1, 2, 3, 4, 5, 6, 7, 8, 9, 10]) rfl ?_
     have hbig : t_succ_l.length ≤ 40 ∧ t_fingers_l.length ≤ 200 := by omega
     have okT : TableV.ok M ⟨⟨t_self_addr, t_self_id⟩, ⟨t_pred_addr, t_pred_id⟩, ⟨t_succ_a, t_succ_c, t_succ_l⟩, ⟨t_fingers_a, t_fingers_c, t_fingers_l⟩⟩ := ht0
     have hIs : IsTb (TableV.tb ⟨⟨t_self_addr, t_self_id⟩, ⟨t_pred_addr, t_pred_id⟩, ⟨t_succ_a, t_succ_c, t_succ_l⟩, ⟨t_fingers_a, t_fingers_c, t_fingers_l⟩⟩) := by assumption
     refine Y_load F.lay28 ?_
     refine Y_load F.lay25 ?_
     iterate 2 refine Y_move ?_
     refine X_fn rfl rfl F.ok19 rfl (Adopt_ok _ ⟨⟨t_self_addr, t_self_id⟩, ⟨t_pred_addr, t_pred_id⟩, ⟨t_succ_a, t_succ_c, t_succ_l⟩, ⟨t_fingers_a, t_fingers_c, t_fingers_l⟩⟩ ⟨p_addr, p_id⟩ ⟨rest_a, rest_c, rest_l⟩ r okT k_rest) rfl ?_
     rintro _ M4 hm4 h4
     obtain ⟨_, rfl, ⟨⟨a4, i4⟩, ⟨q4, j4⟩, ⟨s4a, s4c, s4l⟩, ⟨f4a, f4c, f4l⟩⟩, rfl, e4, ok4⟩ := h4
     refine Y_move ?_
     iterate 2 refine Y_extract ?_
     refine Y_alloc F.zero28 ?_; intro b6
     refine Y_store F.lay28 ?_
     refine Y_assign ?_
     refine XD_end ?_
     refine K_then ?_
     refine Y_pk [14, 13, 12, 7, 6, 3, 4, 5] ?_
     refine C_seq ?_
     refine C_region (l := [0, 1, 2, 3, 4, 5, 6, 7, 8, 9, 10, 11]) rfl ?_
     refine Y_load F.lay28 ?_
     refine Y_move ?_
     refine Y_load F.lay25 ?_
     refine X_fn rfl rfl F.ok21 rfl (Point_ok _ ⟨⟨t_self_addr, t_self_id⟩, ⟨t_pred_addr, t_pred_id⟩, ⟨t_succ_a, t_succ_c, t_succ_l⟩, ⟨t_fingers_a, t_fingers_c, t_fingers_l⟩⟩ k ⟨p_addr, p_id⟩ (okT.mono (by assumption))) rfl ?_
     rintro _ M6 hm6 h6
     obtain ⟨_, rfl, ⟨⟨a6, i6⟩, ⟨q6, j6⟩, ⟨s6a, s6c, s6l⟩, ⟨f6a, f6c, f6l⟩⟩, rfl, e6, ok6⟩ := h6
     refine Y_move ?_
     iterate 3 refine Y_extract ?_
     refine Y_alloc F.zero28 ?_; intro b7
     refine Y_store F.lay28 ?_
     iterate 2 refine Y_assign ?_
     refine XD_end ?_
     refine K_then ?_
     refine Y_pk [17, 16, 15, 14, 13, 12, 7, 6, 3, 4, 5] ?_
     refine C_seq ?_
     refine C_region_any (l := [0, 1, 2, 3, 4, 5, 6, 7, 8, 9, 10, 11, 12, 13, 14, 15, 16, 17, 18, 19, 20, 21, 22, 23, 24, 25, 26, 27, 28, 29, 30, 31, 32, 33, 34, 35, 36, 37, 38, 39, 40, 41, 42, 43, 44, 45, 46, 47, 48, 49, 50, 51, 52, 53, 54, 55, 56, 57, 58, 59]) #[0, 1, 3, 3, 15, 31, 63, 127, 255, 255, 1023, 2047, 4095, 8191, 16383, 32767, 65535, 131071, 262143, 524287, 1048575, 2097151, 1048575, 8388607, 16777215, 33554431, 67108863, 134217727, 268435455, 67108863, 1073741823, 2147483647, 4294967295, 8589934591, 17179869183, 34359738367, 68719476735, 137438953471, 274877906943, 549755813887, 1099511627775, 2199023255551, 4398046511103, 8796093022207, 17592186044415, 35184372088831, 70368744177663, 140737488355327, 281474976710655, 562949953421311, 1125899906842623, 2251799813685247, 4503599627370495, 4503599627370495, 18014398509481983, 36028797018963967, 72057594037927935, 144115188075855871, 288230376151711743, 576460752303423487] _ rfl (by kernel_rfl) (by kernel_rfl) St.drawn (fun _ h => h) ?_
     refine X_fn rfl rfl F.ok23 rfl (tabled_ok _) rfl ?_
     rintro _ M3 hm3 rfl
     refine Y_move ?_
     refine XD_part 48 rfl (fun hc8 => ?_) (fun hc8 => ?_)
     ·skip
      simp only [PeerV.eta, TableV.eta, RouteV.eta] at hc8
      refine Y_load F.lay28 ?_
      refine Y_load F.lay25 ?_
      refine X_fn rfl rfl F.ok25 rfl (Learn_ok _ ⟨⟨t_self_addr, t_self_id⟩, ⟨t_pred_addr, t_pred_id⟩, ⟨t_succ_a, t_succ_c, t_succ_l⟩, ⟨t_fingers_a, t_fingers_c, t_fingers_l⟩⟩ ⟨p_addr, p_id⟩ (okT.mono (by (repeat first | assumption | refine Mem.le.trans (by assumption) ?_)))) rfl ?_
      rintro _ M8 hm8 h8
      obtain ⟨⟨⟨a8, i8⟩, ⟨q8, j8⟩, ⟨s8a, s8c, s8l⟩, ⟨f8a, f8c, f8l⟩⟩, rfl, e8, ok8⟩ := h8
      refine X_fs rfl rfl F.ok31 rfl (IsT_ok _ (TableV.mk ⟨a8, i8⟩ ⟨q8, j8⟩ ⟨s8a, s8c, s8l⟩ ⟨f8a, f8c, f8l⟩) (ok8.mono (by exact Mem.le.refl _))) rfl ?_
      rintro _ hv
      rw [e8, decide_eq_true (stay_learn hIs)] at hv
      subst hv
      refine Y_pick ?_
      refine Y_move ?_
      refine XD_part 54 rfl (fun hc9 => ?_) (fun hc9 => ?_)
      ·skip
       simp only [PeerV.eta, TableV.eta, RouteV.eta] at hc9
       refine Y_load F.lay28 ?_
       refine Y_move ?_
       refine X_fn rfl rfl F.ok40 rfl (Forget_ok _ ⟨⟨t_self_addr, t_self_id⟩, ⟨t_pred_addr, t_pred_id⟩, ⟨t_succ_a, t_succ_c, t_succ_l⟩, ⟨t_fingers_a, t_fingers_c, t_fingers_l⟩⟩ addr (okT.mono (by (repeat first | assumption | refine Mem.le.trans (by assumption) ?_))) hbig) rfl ?_
       rintro _ M5 hm5 h5
       obtain ⟨⟨⟨a5, i5⟩, ⟨q5, j5⟩, ⟨s5a, s5c, s5l⟩, ⟨f5a, f5c, f5l⟩⟩, rfl, e5, ok5⟩ := h5
       refine X_fs rfl rfl F.ok31 rfl (IsT_ok _ (TableV.mk ⟨a5, i5⟩ ⟨q5, j5⟩ ⟨s5a, s5c, s5l⟩ ⟨f5a, f5c, f5l⟩) (ok5.mono (by exact Mem.le.refl _))) rfl ?_
       rintro _ hv
       rw [e5, decide_eq_true (stay_forget hIs)] at hv
       subst hv
       refine Y_pick ?_
       refine Y_move ?_
       refine XD_part 60 rfl (fun hc10 => ?_) (fun hc10 => ?_)
       ·skip
        simp only [PeerV.eta, TableV.eta, RouteV.eta] at hc10
        refine Y_move ?_
        refine Y_cmp ?_
        refine Y_move ?_
        refine XD_part 63 rfl (fun hc11 => ?_) (fun hc11 => ?_)
        ·replace hc11 := nT hc11
         simp only [PeerV.eta, TableV.eta, RouteV.eta] at hc11
         iterate 15 refine Y_skip ?_
         iterate 2 refine Y_pick ?_
         iterate 2 refine Y_move ?_
         refine Y_cmp ?_
         refine Y_move ?_
         refine XD_part 84 rfl (fun hc12 => ?_) (fun hc12 => ?_)
         ·replace hc12 := nT hc12
          iterate 19 refine Y_skip ?_
          iterate 2 refine Y_pick ?_
          refine Y_assign ?_
          refine XD_end ?_
          refine K_then ?_
          refine Y_pk [12] ?_
          refine C_ret ?_
          refine K_end (.inr rfl) (.tmp rfl .nil) (fun w hw => ?_)
          refine ⟨_, _, rfl, (by (repeat first | assumption | refine Mem.le.trans (by assumption) ?_)), hw.c, ?_⟩
          clear hw
          rfl
         ·replace hc12 := nF hc12
          refine Y_load F.lay28 ?_
          refine X_fs rfl rfl F.ok31 rfl (IsT_ok _ (TableV.mk ⟨a6, i6⟩ ⟨q6, j6⟩ ⟨s6a, s6c, s6l⟩ ⟨f6a, f6c, f6l⟩) (ok6.mono (by (repeat first | assumption | refine Mem.le.trans (by assumption) ?_)))) rfl ?_
          rintro _ hv
          rw [e6, decide_eq_true (stay_point hIs (by omega)).1] at hv
          subst hv
          obtain ⟨-, g1, g2, g3⟩ := stay_point (k := k) (p := ⟨p_addr, p_id⟩) hIs (by omega)
          refine Y_move ?_
          refine XD_part 87 rfl (fun hc13 => ?_) (fun hc13 => ?_)
          ·skip
           simp only [PeerV.eta, TableV.eta, RouteV.eta] at hc13
           refine Y_move ?_
           refine Y_cmp ?_
           refine Y_pick ?_
           refine Y_move ?_
           refine XD_part 91 rfl (fun hc14 => ?_) (fun hc14 => ?_)
           ·replace hc14 := dT hc14
            refine Y_move ?_
            refine Y_cmp ?_
            refine Y_pick ?_
            refine Y_move ?_
            refine XD_part 95 rfl (fun hc15 => ?_) (fun hc15 => ?_)
            ·replace hc15 := dT hc15
             refine Y_move ?_
             refine Y_cmp ?_
             refine Y_move ?_
             refine XD_part 98 rfl (fun hc16 => ?_) (fun hc16 => ?_)
             ·replace hc16 := dT hc16
              iterate 3 refine Y_skip ?_
              iterate 4 refine Y_pick ?_
              refine Y_assign ?_
              refine XD_end ?_
              refine K_then ?_
              refine Y_pk [12] ?_
              refine C_ret ?_
              refine K_end (.inr rfl) (.tmp rfl .nil) (fun w hw => ?_)
              refine ⟨_, _, rfl, (by (repeat first | assumption | refine Mem.le.trans (by assumption) ?_)), hw.c, ?_⟩
              clear hw
              rfl
             ·replace hc16 := dF hc16
              iterate 2 refine Y_move ?_
              refine Y_cmp ?_
              iterate 4 refine Y_pick ?_
              refine Y_assign ?_
              refine XD_end ?_
              refine K_then ?_
              refine Y_pk [12] ?_
              refine C_ret ?_
              refine K_end (.inr rfl) (.tmp rfl .nil) (fun w hw => ?_)
              refine ⟨_, _, rfl, (by (repeat first | assumption | refine Mem.le.trans (by assumption) ?_)), hw.c, ?_⟩
              clear hw
              exact congrArg Value.bool (decide_eq_true (by omega))
            ·replace hc15 := dF hc15
             (exfalso; omega)
           ·replace hc14 := dF hc14
            (exfalso; omega)
          ·skip
           (exfalso; simp [eqX] at hc13; done)
        ·replace hc11 := nF hc11
         simp only [PeerV.eta, TableV.eta, RouteV.eta] at hc11
         refine Y_load F.lay28 ?_
         refine X_fs rfl rfl F.ok31 rfl (IsT_ok _ (TableV.mk ⟨a4, i4⟩ ⟨q4, j4⟩ ⟨s4a, s4c, s4l⟩ ⟨f4a, f4c, f4l⟩) (ok4.mono (by (repeat first | assumption | refine Mem.le.trans (by assumption) ?_)))) rfl ?_
         rintro _ hv
         rw [e4, decide_eq_true (stay_adopt hIs (by omega)).1] at hv
         subst hv
         refine Y_move ?_
         refine XD_part 66 rfl (fun hc17 => ?_) (fun hc17 => ?_)
         ·skip
          simp only [PeerV.eta, TableV.eta, RouteV.eta] at hc17
          refine Y_load F.lay28 ?_
          refine X_fs rfl rfl F.ok33 rfl (First_ok _ (TableV.mk ⟨a4, i4⟩ ⟨q4, j4⟩ ⟨s4a, s4c, s4l⟩ ⟨f4a, f4c, f4l⟩) (ok4.mono (by (repeat first | assumption | refine Mem.le.trans (by assumption) ?_)))) rfl ?_
          rintro _ hv
          rw [e4, (stay_adopt hIs (by omega)).2.1] at hv
          subst hv
          have hl4 : (s4l.length : Int) ≤ r := by have h9 := (stay_adopt (p := ⟨p_addr, p_id⟩) (l := rest_l) (r := r) hIs (by omega)).2.2; rw [← e4] at h9; exact h9
          refine Y_load F.lay25 ?_
          refine X_same (m := 20) rfl rfl rfl rfl rfl (by constructor) (by constructor) F.lay25 F.kinds25 rfl F.guard25 (by exact FitPeerV _) (by exact FitPeerV (⟨_, _⟩)) rfl rfl rfl ?_; intro c18 he19
          replace he19 : c18 = true ↔ Segs.cells _ = Segs.cells _ := he19
          obtain rfl := eqD he19 (PeerV.inj (x := ⟨_, _⟩) (y := ⟨_, _⟩)); clear he19
          refine Y_pick ?_
          refine Y_move ?_
          refine XD_part 72 rfl (fun hc20 => ?_) (fun hc20 => ?_)
          ·replace hc20 := dT hc20
           simp only [PeerV.eta, TableV.eta, RouteV.eta] at hc20
           refine Y_fieldAddr F.foff28_2 ?_
           refine Y_load F.lay26 ?_
           refine Y_len_sl F.elem26 ?_
           refine Y_move ?_
           refine Y_cmp ?_
           iterate 3 refine Y_pick ?_
           refine Y_move ?_
           refine XD_part 81 rfl (fun hc21 => ?_) (fun hc21 => ?_)
           ·replace hc21 := dT hc21
            refine Y_move ?_
            refine Y_cmp ?_
            refine Y_move ?_
            refine XD_part 84 rfl (fun hc22 => ?_) (fun hc22 => ?_)
            ·replace hc22 := nT hc22
             iterate 19 refine Y_skip ?_
             iterate 2 refine Y_pick ?_
             refine Y_assign ?_
             refine XD_end ?_
             refine K_then ?_
             refine Y_pk [12] ?_
             refine C_ret ?_
             refine K_end (.inr rfl) (.tmp rfl .nil) (fun w hw => ?_)
             refine ⟨_, _, rfl, (by (repeat first | assumption | refine Mem.le.trans (by assumption) ?_)), hw.c, ?_⟩
             clear hw
             rfl
            ·replace hc22 := nF hc22
             refine Y_load F.lay28 ?_
             refine X_fs rfl rfl F.ok31 rfl (IsT_ok _ (TableV.mk ⟨a6, i6⟩ ⟨q6, j6⟩ ⟨s6a, s6c, s6l⟩ ⟨f6a, f6c, f6l⟩) (ok6.mono (by (repeat first | assumption | refine Mem.le.trans (by assumption) ?_)))) rfl ?_
             rintro _ hv
             rw [e6, decide_eq_true (stay_point hIs (by omega)).1] at hv
             subst hv
             obtain ⟨-, g1, g2, g3⟩ := stay_point (k := k) (p := ⟨p_addr, p_id⟩) hIs (by omega)
             refine Y_move ?_
             refine XD_part 87 rfl (fun hc23 => ?_) (fun hc23 => ?_)
             ·skip
              simp only [PeerV.eta, TableV.eta, RouteV.eta] at hc23
              refine Y_move ?_
              refine Y_cmp ?_
              refine Y_pick ?_
              refine Y_move ?_
              refine XD_part 91 rfl (fun hc24 => ?_) (fun hc24 => ?_)
              ·replace hc24 := dT hc24
               refine Y_move ?_
               refine Y_cmp ?_
               refine Y_pick ?_
               refine Y_move ?_
               refine XD_part 95 rfl (fun hc25 => ?_) (fun hc25 => ?_)
               ·replace hc25 := dT hc25
                refine Y_move ?_
                refine Y_cmp ?_
                refine Y_move ?_
                refine XD_part 98 rfl (fun hc26 => ?_) (fun hc26 => ?_)
                ·replace hc26 := dT hc26
                 iterate 3 refine Y_skip ?_
                 iterate 4 refine Y_pick ?_
                 refine Y_assign ?_
                 refine XD_end ?_
                 refine K_then ?_
                 refine Y_pk [12] ?_
                 refine C_ret ?_
                 refine K_end (.inr rfl) (.tmp rfl .nil) (fun w hw => ?_)
                 refine ⟨_, _, rfl, (by (repeat first | assumption | refine Mem.le.trans (by assumption) ?_)), hw.c, ?_⟩
                 clear hw
                 rfl
                ·replace hc26 := dF hc26
                 iterate 2 refine Y_move ?_
                 refine Y_cmp ?_
                 iterate 4 refine Y_pick ?_
                 refine Y_assign ?_
                 refine XD_end ?_
                 refine K_then ?_
                 refine Y_pk [12] ?_
                 refine C_ret ?_
                 refine K_end (.inr rfl) (.tmp rfl .nil) (fun w hw => ?_)
                 refine ⟨_, _, rfl, (by (repeat first | assumption | refine Mem.le.trans (by assumption) ?_)), hw.c, ?_⟩
                 clear hw
                 exact congrArg Value.bool (decide_eq_true (by omega))
               ·replace hc25 := dF hc25
                (exfalso; omega)
              ·replace hc24 := dF hc24
               (exfalso; omega)
             ·skip
              (exfalso; simp [eqX] at hc23; done)
           ·replace hc21 := dF hc21
            (exfalso; omega)
          ·replace hc20 := dF hc20
           simp only [PeerV.eta, TableV.eta, RouteV.eta] at hc20
           (exfalso; simp [eqX] at hc20; done)
         ·skip
          (exfalso; simp [eqX] at hc17; done)
       ·skip
        (exfalso; simp [eqX] at hc10; done)
      ·skip
       (exfalso; simp [eqX] at hc9; done)
     ·skip
      (exfalso; simp [eqX] at hc8; done)

end Go.Proofs.Ytbjklbmmchiahaa
/-
  The fourth law.
-/
set_option linter.unusedSimpArgs false
set_option linter.unusedVariables false
set_option linter.unnecessarySimpa false
set_option maxRecDepth 8000
set_option maxHeartbeats 1000000
namespace Go.Proofs.Ytbjklbmmchiahaa
open Go.Esp


theorem lawForgets_ok (M : Mem) (t : TableV) (addr : Int) (ht0 : TableV.ok M t) : Esp.Fn Try.prog 6 [t.enc, .int .i64 addr] M (fun _ v => v = .bool true) := by
  obtain ⟨⟨t_self_addr, t_self_id⟩, ⟨t_pred_addr, t_pred_id⟩, ⟨t_succ_a, t_succ_c, t_succ_l⟩, ⟨t_fingers_a, t_fingers_c, t_fingers_l⟩⟩ := t
  have k_t_succ : SlK M PeerV.segs 21 ⟨t_succ_a, t_succ_c, t_succ_l⟩ := ht0.h0
  have s_t_succ : SlM M t_succ_a (t_succ_l.map PeerV.segs) 21 := k_t_succ.h1
  have n_t_succ : (t_succ_l.map PeerV.segs).length = t_succ_l.length := List.length_map ..
  have m_t_succ : t_succ_l.length ≤ 9223372036854775807 := k_t_succ.h2
  have c_t_succ : t_succ_l.length ≤ t_succ_c := k_t_succ.h3
  have k_t_fingers : SlK M PeerV.segs 21 ⟨t_fingers_a, t_fingers_c, t_fingers_l⟩ := ht0.h1
  have s_t_fingers : SlM M t_fingers_a (t_fingers_l.map PeerV.segs) 21 := k_t_fingers.h1
  have n_t_fingers : (t_fingers_l.map PeerV.segs).length = t_fingers_l.length := List.length_map ..
  have m_t_fingers : t_fingers_l.length ≤ 9223372036854775807 := k_t_fingers.h2
  have c_t_fingers : t_fingers_l.length ≤ t_fingers_c := k_t_fingers.h3
  have okT0 := ht0
  refine fn_enter Try.func6 rfl Try.ntmps6 rfl ?_; intro H
  refine C_seq ?_
  refine C_region (l := [0, 1]) rfl ?_
  refine Y_box ?_; intro b1
  refine Y_assign ?_
  refine XD_end ?_
  refine K_then ?_
  refine Y_pk [4, 2, 1] ?_
  iterate 2 refine C_seq ?_
  refine C_region (l := [0, 1, 2, 3, 4, 5, 6]) rfl ?_
  refine Y_load F.lay28 ?_
  refine X_fs rfl rfl F.ok15 rfl (BigT_ok _ ⟨⟨_, _⟩, ⟨_, _⟩, ⟨_, _, _⟩, ⟨_, _, _⟩⟩ (by assumption)) rfl ?_
  rintro _ rfl
  refine Y_move ?_
  refine XD_part 12 rfl (fun hc2 => ?_) (fun hc2 => ?_)
  ·replace hc2 := dT hc2
   simp only [PeerV.eta, TableV.eta, RouteV.eta] at hc2
   iterate 3 refine Y_skip ?_
   refine Y_pick ?_
   refine XD_end ?_
   refine K_then ?_
   refine Y_pk [16, 4, 2, 1] ?_
   refine C_true rfl ?_
   refine C_seq ?_
   refine C_region (l := [0, 1]) rfl ?_
   refine X_fn rfl rfl F.ok23 rfl (tabled_ok _) rfl ?_
   rintro _ M20 hm20 rfl
   refine Y_assign ?_
   refine XD_end ?_
   refine K_then ?_
   refine Y_pk [4, 2, 1] ?_
   refine C_ret ?_
   refine K_ret ?_
   refine K_end (.inr rfl) (.tmp rfl .nil) (fun w hw => ?_)
   refine ⟨_, _, rfl, (by assumption), hw.c, ?_⟩
   clear hw
   rfl
  ·replace hc2 := dF hc2
   simp only [PeerV.eta, TableV.eta, RouteV.eta] at hc2
   refine Y_load F.lay28 ?_
   refine X_fs rfl rfl F.ok31 rfl (IsT_ok _ ⟨⟨t_self_addr, t_self_id⟩, ⟨t_pred_addr, t_pred_id⟩, ⟨t_succ_a, t_succ_c, t_succ_l⟩, ⟨t_fingers_a, t_fingers_c, t_fingers_l⟩⟩ okT0) rfl ?_
   rintro _ rfl
   refine Y_not ?_
   refine Y_pick ?_
   refine XD_end ?_
   refine K_then ?_
   refine Y_pk [16, 4, 2, 1] ?_
   refine C_cond rfl (fun hc3 => ?_) (fun hc3 => ?_)
   ·replace hc3 := nT hc3
    refine C_seq ?_
    refine C_region (l := [0, 1]) rfl ?_
    refine X_fn rfl rfl F.ok23 rfl (tabled_ok _) rfl ?_
    rintro _ M20 hm20 rfl
    refine Y_assign ?_
    refine XD_end ?_
    refine K_then ?_
    refine Y_pk [4, 2, 1] ?_
    refine C_ret ?_
    refine K_ret ?_
    refine K_end (.inr rfl) (.tmp rfl .nil) (fun w hw => ?_)
    refine ⟨_, _, rfl, (by assumption), hw.c, ?_⟩
    clear hw
    rfl
   ·replace hc3 := nF hc3
    refine C_skip ?_
    refine K_then ?_
    refine Y_pk [4, 2, 1] ?_
    refine C_seq ?_
    refine C_region (l := [0, 1, 2]) rfl ?_
    have hbig : t_succ_l.length ≤ 40 ∧ t_fingers_l.length ≤ 200 := by omega
    have okT : TableV.ok M ⟨⟨t_self_addr, t_self_id⟩, ⟨t_pred_addr, t_pred_id⟩, ⟨t_succ_a, t_succ_c, t_succ_l⟩, ⟨t_fingers_a, t_fingers_c, t_fingers_l⟩⟩ := ht0
    have hIs : IsTb (TableV.tb ⟨⟨t_self_addr, t_self_id⟩, ⟨t_pred_addr, t_pred_id⟩, ⟨t_succ_a, t_succ_c, t_succ_l⟩, ⟨t_fingers_a, t_fingers_c, t_fingers_l⟩⟩) := by assumption
    refine Y_load F.lay28 ?_
    refine X_fn rfl rfl F.ok38 rfl (Known_ok _ ⟨⟨t_self_addr, t_self_id⟩, ⟨t_pred_addr, t_pred_id⟩, ⟨t_succ_a, t_succ_c, t_succ_l⟩, ⟨t_fingers_a, t_fingers_c, t_fingers_l⟩⟩ okT hbig) rfl ?_
    rintro _ M7 hm7 ⟨⟨k7a, k7c, k7l⟩, rfl, h7, k7⟩
    simp only at h7
    have sk7 := k7.h1
    have nk7 : (k7l.map PeerV.segs).length = k7l.length := List.length_map ..
    have mk7 : k7l.length ≤ 9223372036854775807 := k7.h2
    simp only at sk7
    refine Y_assign ?_
    refine XD_end ?_
    refine K_then ?_
    refine Y_pk [5, 4, 2, 1] ?_
    refine C_seq ?_
    refine C_region (l := [0, 1, 2, 3, 4]) rfl ?_
    refine Y_load F.lay28 ?_
    refine Y_move ?_
    refine X_fn rfl rfl F.ok40 rfl (Forget_ok _ ⟨⟨t_self_addr, t_self_id⟩, ⟨t_pred_addr, t_pred_id⟩, ⟨t_succ_a, t_succ_c, t_succ_l⟩, ⟨t_fingers_a, t_fingers_c, t_fingers_l⟩⟩ addr (okT.mono (by assumption)) hbig) rfl ?_
    rintro _ M5 hm5 h5
    obtain ⟨⟨⟨a5, i5⟩, ⟨q5, j5⟩, ⟨s5a, s5c, s5l⟩, ⟨f5a, f5c, f5l⟩⟩, rfl, e5, ok5⟩ := h5
    have big5 := isTb_small (t := (TableV.mk ⟨a5, i5⟩ ⟨q5, j5⟩ ⟨s5a, s5c, s5l⟩ ⟨f5a, f5c, f5l⟩)) (by rw [e5]; exact stay_forget hIs)
    refine Y_alloc F.zero28 ?_; intro b4
    refine Y_store F.lay28 ?_
    refine XD_end ?_
    refine K_then ?_
    refine Y_pk [6, 5, 4, 2, 1] ?_
    refine C_seq ?_
    refine C_region (l := [0, 1, 2]) rfl ?_
    refine Y_load F.lay28 ?_
    refine X_fn rfl rfl F.ok38 rfl (Known_ok _ (TableV.mk ⟨a5, i5⟩ ⟨q5, j5⟩ ⟨s5a, s5c, s5l⟩ ⟨f5a, f5c, f5l⟩) ok5 big5) rfl ?_
    rintro _ M8 hm8 ⟨⟨k8a, k8c, k8l⟩, rfl, h8, k8⟩
    simp only at h8
    have sk8 := k8.h1
    have nk8 : (k8l.map PeerV.segs).length = k8l.length := List.length_map ..
    have mk8 : k8l.length ≤ 9223372036854775807 := k8.h2
    simp only at sk8
    refine Y_assign ?_
    refine XD_end ?_
    refine K_then ?_
    refine Y_pk [7, 6, 5, 4, 2, 1] ?_
    refine C_seq ?_
    refine C_region (l := [0]) rfl ?_
    refine Y_assign ?_
    refine XD_end ?_
    refine K_then ?_
    iterate 2 refine C_seq ?_
    refine C_region (l := [0]) rfl ?_
    refine Y_assign ?_
    refine XD_end ?_
    refine K_then ?_
    refine C_block ?_
    refine Y_pk [9, 8, 7, 6, 5, 4, 2, 1] ?_
    refine C_loopS (.succ (.succ .zero)) (fun (k : Nat) z => z = [(9, .int .i64 (k : Int)), (8, .int .i64 ((others addr (k7l.take k)).length : Nat))] ∧ k ≤ k7l.length) (fun k => k7l.length - k) (0) (⟨rfl, by omega⟩) ?_
    rintro k _ ⟨rfl, hk⟩
    have sk7b := sk7.mono (hm5.trans hm8)
    generalize hat : (others addr (k7l.take k)).length = at9
    iterate 2 refine C_seq ?_
    refine C_region (l := [0, 1, 2, 3]) rfl ?_
    iterate 2 refine Y_move ?_
    refine Y_len_sl F.elem26 ?_
    refine Y_cmp ?_
    refine XD_end ?_
    refine K_then ?_
    refine C_cond rfl (fun hc5 => ?_) (fun hc5 => ?_)
    ·replace hc5 := dT hc5
     refine C_skip ?_
     refine K_then ?_
     refine C_seq ?_
     refine C_block ?_
     iterate 2 refine C_seq ?_
     refine C_region (l := [0, 1, 2, 3, 4, 5, 6]) rfl ?_
     iterate 2 refine Y_move ?_
     refine X_indexAddr rfl rfl rfl rfl F.elem26 (by rfl) (by omega) (by exact SlM.plain (by assumption) (by (simp; omega))) rfl ?_
     refine X_fieldAddr_el rfl rfl rfl (by exact SlM.plain (by assumption) (by (simp; omega))) F.foff25_0 rfl ?_
     refine X_load_el rfl rfl rfl (by assumption) (by exact row_map (by omega)) F.lay3 rfl rfl rfl ?_
     refine Y_move ?_
     refine Y_cmp ?_
     refine XD_end ?_
     refine K_then ?_
     refine C_cond rfl (fun hc6 => ?_) (fun hc6 => ?_)
     ·replace hc6 := dT hc6
      refine C_exit ?_
      refine K_exit ?_
      refine K_hit ?_
      refine K_then ?_
      refine C_region (l := [0, 1, 2]) rfl ?_
      refine Y_move ?_
      refine X_ari rfl rfl rfl rfl rfl (by exact wrap_in (by decide) (by omega)) rfl ?_
      refine Y_assign ?_
      refine XD_end ?_
      refine K_roundS (a' := [(9, _), (8, _)]) (k + 1) (.cons (k := 9) rfl (.cons (k := 8) rfl (.cons (k := 7) rfl (.cons (k := 6) rfl (.cons (k := 5) rfl (.cons (k := 4) rfl (.cons (k := 2) rfl (.cons (k := 1) rfl (.nil))))))))) (fun w hw => by first | exact hw | exact hw.c) ?_ ?_
      ·exact ⟨by rw [others_take (by omega : k < k7l.length), if_pos (by assumption), hat]; rfl, by omega⟩
      ·omega
     ·replace hc6 := dF hc6
      refine C_skip ?_
      refine K_then ?_
      iterate 2 refine C_seq ?_
      have hmt : k8l[at9]? = some k7l[k] := by rw [h8, e5, known_forget, ← h7, ← hat]; exact others_at (by omega) (by assumption)
      obtain ⟨hlt, hme⟩ := List.getElem?_eq_some_iff.1 hmt
      have hma : k8l[at9].addr = k7l[k].addr := by rw [hme]
      refine C_region_any (l := [0, 1, 2, 3, 4, 5, 6, 7, 8, 9, 10, 11, 12, 13, 14, 15, 16]) #[0, 0, 2, 7, 15, 31, 31, 127, 255, 511, 31, 31, 3103, 7199, 15391, 32767, 65535] _ rfl (by kernel_rfl) (by kernel_rfl) St.drawn (fun _ h => h) ?_
      iterate 2 refine Y_move ?_
      refine Y_len_sl F.elem26 ?_
      refine Y_cmp ?_
      refine Y_move ?_
      refine XD_part 42 rfl (fun hc7 => ?_) (fun hc7 => ?_)
      ·replace hc7 := dT hc7
       (exfalso; omega)
      ·replace hc7 := dF hc7
       iterate 2 refine Y_move ?_
       refine X_indexAddr rfl rfl rfl rfl F.elem26 (by rfl) (by omega) (by exact SlM.plain (by assumption) (by (simp; omega))) rfl ?_
       refine X_fieldAddr_el rfl rfl rfl (by exact SlM.plain (by assumption) (by (simp; omega))) F.foff25_0 rfl ?_
       refine X_load_el rfl rfl rfl (by assumption) (by exact row_map (by omega)) F.lay3 rfl rfl rfl ?_
       iterate 2 refine Y_move ?_
       refine X_indexAddr rfl rfl rfl rfl F.elem26 (by rfl) (by omega) (by exact SlM.plain (by assumption) (by (simp; omega))) rfl ?_
       refine X_fieldAddr_el rfl rfl rfl (by exact SlM.plain (by assumption) (by (simp; omega))) F.foff25_0 rfl ?_
       refine X_load_el rfl rfl rfl (by assumption) (by exact row_map (by omega)) F.lay3 rfl rfl rfl ?_
       refine Y_cmp ?_
       refine Y_pick ?_
       refine XD_end ?_
       refine K_then ?_
       refine C_cond rfl (fun hc8 => ?_) (fun hc8 => ?_)
       ·replace hc8 := nT hc8
        contradiction
       ·replace hc8 := nF hc8
        refine C_skip ?_
        refine K_then ?_
        refine C_region (l := [0, 1, 2]) rfl ?_
        refine Y_move ?_
        refine X_ari rfl rfl rfl rfl rfl (by exact wrap_in (by decide) (by omega)) rfl ?_
        refine Y_assign ?_
        refine XD_end ?_
        refine K_out ?_
        refine K_then ?_
        refine C_region (l := [0, 1, 2]) rfl ?_
        refine Y_move ?_
        refine X_ari rfl rfl rfl rfl rfl (by exact wrap_in (by decide) (by omega)) rfl ?_
        refine Y_assign ?_
        refine XD_end ?_
        refine K_roundS (a' := [(9, _), (8, _)]) (k + 1) (.cons (k := 9) rfl (.cons (k := 8) rfl (.cons (k := 7) rfl (.cons (k := 6) rfl (.cons (k := 5) rfl (.cons (k := 4) rfl (.cons (k := 2) rfl (.cons (k := 1) rfl (.nil))))))))) (fun w hw => by first | exact hw | exact hw.c) ?_ ?_
        ·exact ⟨by rw [others_take (by omega : k < k7l.length), if_neg (by assumption), List.length_append, hat]; rfl, by omega⟩
        ·omega
    ·replace hc5 := dF hc5
     refine C_exit ?_
     iterate 2 refine K_exit ?_
     refine K_hit ?_
     refine K_then ?_
     refine Y_pk [8, 7, 6, 4, 2, 1] ?_
     refine C_seq ?_
     obtain rfl : k = k7l.length := by omega
     rw [List.take_length] at hat
     have hend : at9 = k8l.length := by rw [← hat, h8, e5, known_forget, ← h7]
     refine C_region_any (l := [0, 1, 2, 3, 4, 5, 6, 7, 8, 9, 10, 11, 12, 13, 14, 15, 16, 17, 18, 19, 20, 21]) #[0, 1, 3, 3, 11, 31, 63, 127, 255, 255, 1023, 255, 4095, 8191, 16383, 32767, 65535, 32767, 163839, 524287, 1048575, 2097151] _ rfl (by kernel_rfl) (by kernel_rfl) St.drawn (fun _ h => h) ?_
     refine X_fn rfl rfl F.ok23 rfl (tabled_ok _) rfl ?_
     rintro _ M3 hm3 rfl
     refine Y_move ?_
     refine XD_part 58 rfl (fun hc9 => ?_) (fun hc9 => ?_)
     ·skip
      simp only [PeerV.eta, TableV.eta, RouteV.eta] at hc9
      iterate 2 refine Y_move ?_
      refine Y_len_sl F.elem26 ?_
      refine Y_cmp ?_
      refine Y_pick ?_
      refine Y_move ?_
      refine XD_part 64 rfl (fun hc10 => ?_) (fun hc10 => ?_)
      ·replace hc10 := dT hc10
       refine Y_load F.lay28 ?_
       refine Y_move ?_
       refine X_fn rfl rfl F.ok40 rfl (Forget_ok _ (TableV.mk ⟨a5, i5⟩ ⟨q5, j5⟩ ⟨s5a, s5c, s5l⟩ ⟨f5a, f5c, f5l⟩) addr (ok5.mono (by (repeat first | assumption | refine Mem.le.trans (by assumption) ?_))) big5) rfl ?_
       rintro _ M6 hm6 h6
       rw [e5, forget_twice] at h6
       obtain ⟨⟨⟨a6, i6⟩, ⟨q6, j6⟩, ⟨s6a, s6c, s6l⟩, ⟨f6a, f6c, f6l⟩⟩, rfl, e6, ok6⟩ := h6
       refine Y_load F.lay28 ?_
       refine X_fs rfl rfl F.ok24 rfl (SameT_ok _ (TableV.mk ⟨a6, i6⟩ ⟨q6, j6⟩ ⟨s6a, s6c, s6l⟩ ⟨f6a, f6c, f6l⟩) (TableV.mk ⟨a5, i5⟩ ⟨q5, j5⟩ ⟨s5a, s5c, s5l⟩ ⟨f5a, f5c, f5l⟩) (ok6.mono (by exact Mem.le.refl _)) (ok5.mono (by (repeat first | assumption | refine Mem.le.trans (by assumption) ?_)))) rfl ?_
       rintro _ hv
       simp only [e6, e5, decide_true] at hv
       subst hv
       refine Y_pick ?_
       refine Y_move ?_
       refine XD_part 71 rfl (fun hc11 => ?_) (fun hc11 => ?_)
       ·skip
        simp only [PeerV.eta, TableV.eta, RouteV.eta] at hc11
        refine Y_fieldAddr F.foff28_0 ?_
        refine Y_load F.lay25 ?_
        refine Y_fieldAddr F.foff28_0 ?_
        refine Y_load F.lay25 ?_
        refine X_same (m := 20) rfl rfl rfl rfl rfl (by constructor) (by constructor) F.lay25 F.kinds25 rfl F.guard25 (by exact FitPeerV (⟨_, _⟩)) (by exact FitPeerV (⟨_, _⟩)) rfl rfl rfl ?_; intro c12 he13
        replace he13 : c12 = true ↔ Segs.cells _ = Segs.cells _ := he13
        obtain rfl := eqD he13 (PeerV.inj (x := ⟨_, _⟩) (y := ⟨_, _⟩)); clear he13
        refine Y_pick ?_
        refine Y_assign ?_
        refine XD_end ?_
        refine K_then ?_
        refine Y_pk [4] ?_
        refine C_ret ?_
        refine K_end (.inr rfl) (.tmp rfl .nil) (fun w hw => ?_)
        have hself : PeerV.mk a5 i5 = ⟨t_self_addr, t_self_id⟩ := congrArg Tb.self e5
        refine ⟨_, _, rfl, (by (repeat first | assumption | refine Mem.le.trans (by assumption) ?_)), hw.c, ?_⟩
        clear hw
        exact congrArg Value.bool (decide_eq_true hself)
       ·skip
        (exfalso; simp [eqX] at hc11; done)
      ·replace hc10 := dF hc10
       (exfalso; omega)
     ·skip
      (exfalso; simp [eqX] at hc9; done)

end Go.Proofs.Ytbjklbmmchiahaa
/-
  Who is nearest, and which fingers are pointed, in plain Lean.
-/
set_option linter.unusedSimpArgs false
set_option linter.unusedVariables false
set_option linter.unnecessarySimpa false
namespace Go.Esp
/-- Stands p between, and may it be asked? -/
def CandP (s : PeerV) (id : Plc) (avoid : List Int) (p : PeerV) : Prop := OpenP s.id p.id id ∧ p.addr ∉ avoid
instance (s : PeerV) (id : Plc) (avoid : List Int) (p : PeerV) : Decidable (CandP s id avoid p) := by unfold CandP; exact inferInstance
structure NearOk (s : PeerV) (id : Plc) (avoid : List Int) (l : List PeerV) (r : PeerV × Bool) : Prop where
  no : r.2 = false → r.1 = noneP ∧ ∀ x ∈ l, ¬ CandP s id avoid x
  yes : r.2 = true → r.1 ∈ l ∧ CandP s id avoid r.1 ∧ ∀ x ∈ l, CandP s id avoid x → ¬ OpenP r.1.id x.id id
theorem near_step {s : PeerV} {id : Plc} {avoid : List Int} {l : List PeerV} {r : PeerV × Bool} {p : PeerV} (h : NearOk s id avoid l r) : NearOk s id avoid (l ++ [p]) (nearStep s id avoid r p) := by
  obtain ⟨b, f⟩ := r
  unfold nearStep
  by_cases hc : p.addr ∈ avoid ∨ ¬ OpenP s.id p.id id
  · rw [if_pos hc]
    have hn : ¬ CandP s id avoid p := fun h9 => hc.elim h9.2 (fun h8 => h8 h9.1)
    refine ⟨fun h1 => ⟨(h.no h1).1, fun x hx => ?_⟩, fun h1 => ⟨List.mem_append_left _ (h.yes h1).1, (h.yes h1).2.1, fun x hx hcx => ?_⟩⟩
    · rcases List.mem_append.1 hx with hx | hx
      · exact (h.no h1).2 x hx
      · rw [List.mem_singleton.1 hx]; exact hn
    · rcases List.mem_append.1 hx with hx | hx
      · exact (h.yes h1).2.2 x hx hcx
      · rw [List.mem_singleton.1 hx] at hcx; exact (hn hcx).elim
  · rw [if_neg hc]
    have hp : CandP s id avoid p := ⟨Decidable.byContradiction fun h9 => hc (.inr h9), fun h9 => hc (.inl h9)⟩
    by_cases hd : f = false ∨ OpenP b.id p.id id
    · rw [if_pos (show (b, f).2 = false ∨ OpenP (b, f).1.id p.id id from hd)]
      refine ⟨fun h1 => (by cases h1), fun _ => ⟨List.mem_append_right _ (List.mem_singleton.2 rfl), hp, fun x hx hcx ho => ?_⟩⟩
      rcases List.mem_append.1 hx with hx | hx
      · cases f with
        | false => exact (h.no rfl).2 x hx hcx
        | true =>
          have hb := h.yes rfl
          have ho2 : OpenP b.id p.id id := hd.resolve_left (by simp)
          have h1 := (open_less hb.2.1.1 hp.1).1 ho2
          have h2 := (open_less hp.1 hcx.1).1 ho
          exact hb.2.2 x hx hcx ((open_less hb.2.1.1 hcx.1).2 (Nat.lt_trans h1 h2))
      · rw [List.mem_singleton.1 hx] at ho; exact ho.1 rfl
    · rw [if_neg (show ¬ ((b, f).2 = false ∨ OpenP (b, f).1.id p.id id) from hd)]
      refine ⟨fun h1 => (hd (.inl h1)).elim, fun h1 => ⟨List.mem_append_left _ (h.yes h1).1, (h.yes h1).2.1, fun x hx hcx => ?_⟩⟩
      rcases List.mem_append.1 hx with hx | hx
      · exact (h.yes h1).2.2 x hx hcx
      · rw [List.mem_singleton.1 hx]; exact fun h9 => hd (.inr h9)
theorem near_fold {s : PeerV} {id : Plc} {avoid : List Int} : ∀ {xs l : List PeerV} {r : PeerV × Bool}, NearOk s id avoid l r → NearOk s id avoid (l ++ xs) (xs.foldl (nearStep s id avoid) r)
  | [], l, r, h => by rw [List.append_nil]; exact h
  | p :: xs, l, r, h => by
    have := near_fold (xs := xs) (near_step (p := p) h)
    rw [List.append_assoc] at this
    exact this
theorem near_ok {t : Tb} {id : Plc} {avoid : List Int} : NearOk t.self id avoid (knownT t) (nearestT t id avoid) :=
  near_fold (l := []) ⟨fun _ => ⟨rfl, by simp⟩, fun h => by cases h⟩
/-- Is one of them the nearest one? -/
theorem near_there {s : PeerV} {id : Plc} {avoid : List Int} {l : List PeerV} {r : PeerV × Bool} (h : NearOk s id avoid l r) : (∃ x ∈ l, CandP s id avoid x ∧ x = r.1) ↔ r.2 = true := by
  constructor
  · rintro ⟨x, hx, hc, _⟩
    cases hf : r.2 with
    | true => rfl
    | false => exact ((h.no hf).2 x hx hc).elim
  · intro hf
    exact ⟨_, (h.yes hf).1, (h.yes hf).2.1, rfl⟩
theorem near_bad {s : PeerV} {id : Plc} {avoid : List Int} {l : List PeerV} {b : PeerV} {f : Bool} {x : PeerV} (h : NearOk s id avoid l (b, f)) (hx : x ∈ l) (hc : CandP s id avoid x) : f = true ∧ ¬ OpenP b.id x.id id := by
  cases f with
  | false => exact ((h.no rfl).2 x hx hc).elim
  | true => exact ⟨rfl, (h.yes rfl).2.2 x hx hc⟩
theorem ex_take {α : Type} {p : α → Prop} {l : List α} {k : Nat} (hk : k < l.length) : (∃ x ∈ l.take (k + 1), p x) ↔ (∃ x ∈ l.take k, p x) ∨ p l[k] := by
  rw [List.take_add_one, List.getElem?_eq_getElem hk]
  simp only [List.mem_append, Option.toList_some, List.mem_singleton]
  constructor
  · rintro ⟨x, hx | rfl, hp⟩
    · exact .inl ⟨x, hx, hp⟩
    · exact .inr hp
  · rintro (⟨x, hx, hp⟩ | hp)
    · exact ⟨x, .inl hx, hp⟩
    · exact ⟨_, .inr rfl, hp⟩
theorem mem_take_step {l : List Int} {k : Nat} {a : Int} (hk : k < l.length) : a ∈ l.take (k + 1) ↔ a ∈ l.take k ∨ l[k] = a := by
  rw [List.take_add_one, List.getElem?_eq_getElem hk]
  simp only [List.mem_append, Option.toList_some, List.mem_singleton]
  exact or_congr Iff.rfl eq_comm
/-! Fingers that are pointed. -/
theorem pointEnd_in {s p : PeerV} {k : Nat} : ∀ {n j : Nat}, ∀ i, k < i → j ≤ i → i < pointEnd s p k j n → inArc s p i = true
  | 0, j, i, _, h1, h2 => by unfold pointEnd at h2; omega
  | n + 1, j, i, h0, h1, h2 => by
    unfold pointEnd at h2
    split at h2
    · omega
    · rename_i hc
      rcases Nat.lt_or_ge j i with h | h
      · exact pointEnd_in i h0 h h2
      · obtain rfl : i = j := by omega
        cases ha : inArc s p i with
        | true => rfl
        | false => exact (hc ⟨h0, ha⟩).elim
theorem pointEnd_out {s p : PeerV} {k : Nat} : ∀ {n j : Nat}, pointEnd s p k j n < j + n → inArc s p (pointEnd s p k j n) = false
  | 0, j, h => by unfold pointEnd at h; omega
  | n + 1, j, h => by
    unfold pointEnd at h ⊢
    split at h
    · rename_i hc
      rw [if_pos hc]; exact hc.2
    · rename_i hc
      rw [if_neg hc]
      exact pointEnd_out (by omega)
theorem ptW_at {α : Type} {l : List α} {k j i : Nat} {f : α} (hk : k ≤ j) (hj : j ≤ l.length) (hi : i < l.length) : (ptW l k j f)[i]? = some (if k ≤ i ∧ i < j then f else l[i]) := by
  unfold ptW
  rcases Nat.lt_or_ge i k with h | h
  · rw [if_neg (by omega), List.append_assoc, List.getElem?_append_left (by simp; omega), List.getElem?_take_of_lt h, List.getElem?_eq_getElem hi]
  · rcases Nat.lt_or_ge i j with h2 | h2
    · rw [if_pos ⟨h, h2⟩, List.getElem?_append_left (by simp; omega), List.getElem?_append_right (by simp; omega), List.getElem?_replicate, if_pos (by simp; omega)]
    · rw [if_neg (by omega), List.getElem?_append_right (by simp; omega), List.getElem?_drop, List.getElem?_eq_getElem (by simp; omega)]
      congr 2
      simp; omega
theorem point_law {t : Tb} {k : Int} {p : PeerV} (he : (pointT t k p).2.2 = 0) : ∃ kn j : Nat, k = kn ∧ kn < j ∧ j ≤ 160 ∧ IsTb t ∧ pointT t k p = ({ t with fingers := ptW t.fingers kn j (fingerOf t p) }, if j = 160 then 0 else (j : Int), 0) ∧
    (∀ i, kn < i → i < j → inArc t.self p i = true) ∧ (j < 160 → inArc t.self p j = false) := by
  by_cases hc : IsTb t ∧ (0 ≤ k ∧ k < 160) ∧ (p = t.self ∨ OtherP t.self p)
  · obtain ⟨h, ⟨hk1, hk2⟩, hp⟩ := hc
    obtain ⟨n, rfl⟩ := Int.eq_ofNat_of_zero_le hk1
    have hn : n < 160 := by omega
    obtain ⟨g1, g2⟩ := pointEnd_gt (s := t.self) (p := p) hn
    exact ⟨n, _, rfl, g1, g2, h, pointT_at h hn hp rfl, fun i h1 h2 => pointEnd_in i h1 (by omega) h2, fun h9 => pointEnd_out (by omega)⟩
  · rw [pointT_no hc] at he; cases he
theorem point_zero {t : Tb} {k : Int} {p : PeerV} (he : ¬ (pointT t k p).2.2 = 0) : pointT t k p = (Tb.zero, 0, 1) := by
  by_cases hc : IsTb t ∧ (0 ≤ k ∧ k < 160) ∧ (p = t.self ∨ OtherP t.self p)
  · obtain ⟨h, ⟨hk1, hk2⟩, hp⟩ := hc
    obtain ⟨n, rfl⟩ := Int.eq_ofNat_of_zero_le hk1
    rw [pointT_at h (by omega) hp rfl] at he
    exact (he rfl).elim
  · exact pointT_no hc
end Go.Esp
