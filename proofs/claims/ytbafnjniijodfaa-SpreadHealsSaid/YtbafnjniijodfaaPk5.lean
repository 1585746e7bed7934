/-
  Texts of this claim, one behind the other: T23, T24, T25.
-/
import Derived.Test.YtbafnjniijodfaaPk4
/-
  Are stores whole, by the document.
-/
set_option linter.unusedSimpArgs false
set_option linter.unusedVariables false
set_option linter.unnecessarySimpa false
set_option maxRecDepth 8000
set_option maxHeartbeats 1000000
namespace Go.Proofs.Ytbafnjniijodfaa
open Go.Esp
theorem F.ok33 : okFn Try.prog 33 = true := by kernel_rfl
theorem F.ok34 : okFn Try.prog 34 = true := by kernel_rfl

theorem rWhole_ok (M : Mem) (l : (Sl PeerV)) (r : Int) (all : (Sl (Sl HeldV))) (hl0 : SlK M PeerV.segs 21 l) (hall1 : SlK M (fun x => [Seg.one (Sl.val x)]) 1 all) (hall2 : ∀ y ∈ (all).l, SlK M HeldV.segs 24 y ∧ ∀ y1 ∈ (y).l, HeldV.ok M y1) : Esp.Fn Try.prog 14 [Sl.val l, .int .i64 r, Sl.val all] M (fun M' v => v = .bool (decide (wholeR l.l r (plss all.l)))) := by
  obtain ⟨l_a, l_c, l_l⟩ := l
  obtain ⟨all_a, all_c, all_l⟩ := all
  have k_l : SlK M PeerV.segs 21 ⟨l_a, l_c, l_l⟩ := hl0
  have s_l : SlM M l_a (l_l.map PeerV.segs) 21 := k_l.h1
  have n_l : (l_l.map PeerV.segs).length = l_l.length := List.length_map ..
  have m_l : l_l.length ≤ 9223372036854775807 := k_l.h2
  have c_l : l_l.length ≤ l_c := k_l.h3
  have k_all : SlK M (fun x => [Seg.one (Sl.val x)]) 1 ⟨all_a, all_c, all_l⟩ := hall1
  have s_all : SlM M all_a (all_l.map (fun x => [Seg.one (Sl.val x)])) 1 := k_all.h1
  have n_all : (all_l.map (fun x => [Seg.one (Sl.val x)])).length = all_l.length := List.length_map ..
  have m_all : all_l.length ≤ 9223372036854775807 := k_all.h2
  have c_all : all_l.length ≤ all_c := k_all.h3
  refine fn_enter Try.func14 rfl Try.ntmps14 rfl ?_; intro H
  refine C_seq ?_
  refine C_region (l := [0]) rfl ?_
  refine Y_assign ?_
  refine XD_end ?_
  refine K_then ?_
  iterate 2 refine C_seq ?_
  refine C_region (l := [0, 1, 2, 3, 4]) rfl ?_
  iterate 3 refine Y_move ?_
  refine X_fs rfl rfl F.ok33 rfl (rCircSt_ok _ ⟨l_a, l_c, l_l⟩ r ⟨all_a, all_c, all_l⟩ (by assumption) (by assumption) (by assumption)) rfl ?_
  rintro _ rfl
  refine Y_not ?_
  refine XD_end ?_
  refine K_then ?_
  refine Y_pk [17, 6, 0, 1, 2] ?_
  refine C_cond rfl (fun hc1 => ?_) (fun hc1 => ?_)
  ·replace hc1 := nT hc1
   simp only [AnswerV.eta, MarkV.eta, CellV.eta, HeldV.eta, PeerV.eta] at hc1
   refine C_seq ?_
   refine C_region (l := [0]) rfl ?_
   refine Y_assign ?_
   refine XD_end ?_
   refine K_then ?_
   refine Y_pk [6, 0, 1, 2] ?_
   refine C_ret ?_
   refine K_ret ?_
   refine K_end (.inr rfl) (.tmp rfl .nil) (fun w hw => ?_)
   refine ⟨_, M, rfl, Mem.le.refl M, hw.c, ?_⟩
   clear hw
   refine congrArg Value.bool ?_
   exact (decide_eq_false (fun h9 => absurd h9.1 (by assumption))).symm
  ·replace hc1 := nF hc1
   simp only [AnswerV.eta, MarkV.eta, CellV.eta, HeldV.eta, PeerV.eta] at hc1
   refine C_skip ?_
   refine K_then ?_
   refine Y_pk [6, 0, 1, 2] ?_
   iterate 2 refine C_seq ?_
   have hcs : CircSt l_l r (plss all_l) := by assumption
   have hln := hcs.2.2.1
   rw [plss_len] at hln
   refine C_region (l := [0]) rfl ?_
   refine Y_assign ?_
   refine XD_end ?_
   refine K_then ?_
   refine C_block ?_
   refine Y_pk [7, 6, 0, 1, 2] ?_
   refine C_loopO (Hin := []) (.succ .zero) (by repeat first | exact Rem.here _ | exact Rem.two | apply Rem.skip | apply Rem.over) (fun (k : Nat) M1 h1 z => h1 = [] ∧ z = [(7, .int .i64 (k : Int))] ∧ k ≤ all_l.length ∧ ∀ i (hi : i < all_l.length), i < k → ∀ j (hj : j < all_l[i].l.length) n, n < all_l.length → W1 l_l r (plss all_l) (HeldV.pl all_l[i].l[j]) n) (fun k => all_l.length - k) (0) (⟨rfl, rfl, by omega, fun i hi h9 => by omega⟩) ?_
   rintro k M1 h1 z hm1 ⟨rfl, rfl, hk, hI⟩
   have s_all1 := s_all.mono hm1
   iterate 2 refine C_seq ?_
   refine C_region (l := [0, 1, 2, 3]) rfl ?_
   iterate 2 refine Y_move ?_
   refine Y_len_sl F.elem23 ?_
   refine Y_cmp ?_
   refine XD_end ?_
   refine K_then ?_
   refine C_cond rfl (fun hc2 => ?_) (fun hc2 => ?_)
   ·replace hc2 := dT hc2
    refine C_skip ?_
    refine K_then ?_
    refine C_seq ?_
    refine C_block ?_
    refine C_seq ?_
    obtain ⟨⟨q_a, q_c, q_l⟩, hq⟩ : ∃ q, all_l[k]'(by omega) = q := ⟨_, rfl⟩
    have hqm : (⟨q_a, q_c, q_l⟩ : Sl HeldV) ∈ all_l := by rw [← hq]; exact List.getElem_mem (by omega)
    obtain ⟨k_q, l_q⟩ := hall2 _ hqm
    try simp only at l_q
    have s_q1 := k_q.h1.mono hm1
    try simp only at s_q1
    have m_q : q_l.length ≤ 9223372036854775807 := k_q.h2
    have n_q : (q_l.map HeldV.segs).length = q_l.length := List.length_map ..
    refine C_region (l := [0]) rfl ?_
    refine Y_assign ?_
    refine XD_end ?_
    refine K_then ?_
    refine C_block ?_
    refine Y_pk [8, 21, 20, 19, 18, 7, 6, 0, 1, 2] ?_
    refine C_loopO (Hin := []) (.succ .zero) (by repeat first | exact Rem.here _ | exact Rem.two | apply Rem.skip | apply Rem.over) (fun (j : Nat) M2 h2 z => h2 = [] ∧ z = [(8, .int .i64 (j : Int))] ∧ j ≤ q_l.length ∧ ∀ j2 (hj : j2 < q_l.length), j2 < j → ∀ n, n < all_l.length → W1 l_l r (plss all_l) (HeldV.pl q_l[j2]) n) (fun j => q_l.length - j) (0) (⟨rfl, rfl, by omega, fun i hi h9 => by omega⟩) ?_
    rintro j M2 h2 z hm2 ⟨rfl, rfl, hj, hI1⟩
    have s_q2 := s_q1.mono hm2
    try simp only at s_q2
    have s_all2 := s_all1.mono hm2
    have hmm := hm1.trans hm2
    iterate 2 refine C_seq ?_
    refine C_region (l := [0, 1, 2, 3, 4, 5, 6]) rfl ?_
    iterate 3 refine Y_move ?_
    refine X_indexAddr rfl rfl rfl rfl F.elem23 (by rfl) (by omega) (by exact SlM.plain (by assumption) (by (simp; omega))) rfl ?_
    refine X_load_el rfl rfl rfl (by assumption) (by exact row_map (by omega)) F.lay31 rfl rfl rfl ?_
    rw [hq]
    refine Y_len_sl F.elem31 ?_
    refine Y_cmp ?_
    refine XD_end ?_
    refine K_then ?_
    refine C_cond rfl (fun hc3 => ?_) (fun hc3 => ?_)
    ·replace hc3 := dT hc3
     refine C_skip ?_
     refine K_then ?_
     refine C_seq ?_
     refine C_block ?_
     refine C_seq ?_
     refine C_region (l := [0, 1, 2, 3, 4, 5, 6, 7, 8]) rfl ?_
     iterate 2 refine Y_move ?_
     refine X_indexAddr rfl rfl rfl rfl F.elem23 (by rfl) (by omega) (by exact SlM.plain (by assumption) (by (simp; omega))) rfl ?_
     refine X_load_el rfl rfl rfl (by assumption) (by exact row_map (by omega)) F.lay31 rfl rfl rfl ?_
     rw [hq]
     refine Y_move ?_
     refine X_indexAddr rfl rfl rfl rfl F.elem31 (by rfl) (by omega) (by exact SlM.plain (by assumption) (by (simp; omega))) rfl ?_
     refine X_load_el rfl rfl rfl (by assumption) (by exact row_map (by omega)) F.lay49 rfl rfl rfl ?_
     refine Y_alloc F.zero49 ?_; intro b4
     refine Y_store F.lay49 ?_
     refine XD_end ?_
     refine K_then ?_
     refine C_seq ?_
     refine C_region (l := [0]) rfl ?_
     refine Y_assign ?_
     refine XD_end ?_
     refine K_then ?_
     refine C_block ?_
     refine Y_pk [10, 9, 39, 38, 37, 36, 35, 34, 33, 30, 29, 28, 27, 26, 25, 24, 8, 21, 20, 19, 18, 7, 6, 0, 1, 2] ?_
     refine C_loopO (Hin := []) (.succ .zero) (by repeat first | exact Rem.here _ | exact Rem.two | apply Rem.skip | apply Rem.over) (fun (n : Nat) M4 h4 z => h4 = [] ∧ z = [(10, .int .i64 (n : Int))] ∧ n ≤ all_l.length ∧ ∀ n2, n2 < n → W1 l_l r (plss all_l) (HeldV.pl q_l[j]) n2) (fun n => all_l.length - n) (0) (⟨rfl, rfl, by omega, fun n2 h9 => by omega⟩) ?_
     rintro n M4 h4 z hm4 ⟨rfl, rfl, hn, hI2⟩
     have hmm4 := hmm.trans hm4
     have s_all4 := s_all.mono hmm4
     iterate 2 refine C_seq ?_
     refine C_region (l := [0, 1, 2, 3]) rfl ?_
     iterate 2 refine Y_move ?_
     refine Y_len_sl F.elem22 ?_
     refine Y_cmp ?_
     refine XD_end ?_
     refine K_then ?_
     refine C_cond rfl (fun hc5 => ?_) (fun hc5 => ?_)
     ·replace hc5 := dT hc5
      refine C_skip ?_
      refine K_then ?_
      refine C_seq ?_
      refine C_block ?_
      refine C_seq ?_
      refine C_region_any (l := [0, 1, 2, 3, 4, 5, 6, 7, 8, 9, 10, 11, 12]) #[0, 0, 3, 7, 0, 16, 63, 127, 255, 255, 0, 1535, 4095] _ rfl (by kernel_rfl) (by kernel_rfl) St.drawn (fun _ h => h) ?_
      iterate 2 refine Y_move ?_
      refine X_indexAddr rfl rfl rfl rfl F.elem23 (by rfl) (by omega) (by exact SlM.plain (by assumption) (by (simp; omega))) rfl ?_
      refine X_load_el rfl rfl rfl (by assumption) (by exact row_map (by omega)) F.lay31 rfl rfl rfl ?_
      obtain ⟨⟨t_a, t_c, t_l⟩, ht⟩ : ∃ t, all_l[n]'(by omega) = t := ⟨_, rfl⟩
      rw [ht]
      have htm : (⟨t_a, t_c, t_l⟩ : Sl HeldV) ∈ all_l := by rw [← ht]; exact List.getElem_mem (by omega)
      obtain ⟨k_t, l_t⟩ := hall2 _ htm
      try simp only at l_t
      refine Y_fieldAddr F.foff49_0 ?_
      refine Y_load F.lay33 ?_
      refine X_fs rfl rfl F.ok18 rfl (rFind_ok _ ⟨t_a, t_c, t_l⟩ q_l[j].key (k_t.mono hmm4) (fun y hy => (l_t y hy).mono (by assumption))) rfl ?_
      rintro _ hv
      obtain ⟨⟨xc, xb⟩, hx⟩ : ∃ r, findX t_l q_l[j].key = r := ⟨_, rfl⟩
      replace hv : _ = findXv (findX t_l q_l[j].key) := hv
      rw [hx] at hv
      subst hv
      have hx9 : findX (all_l[n]'(by omega)).l q_l[j].key = (xc, xb) := by rw [ht]; exact hx
      have hW := W1_iff (l := l_l) (r := r) (A := all_l) (h := q_l[j]) (show n < all_l.length by omega) hx9
      obtain ⟨x_v, x_h, x_s, ⟨x_a, x_c, x_l⟩⟩ := xc
      refine Y_move ?_
      iterate 2 refine Y_extract ?_
      refine Y_alloc F.zero37 ?_; intro b6
      refine Y_store F.lay37 ?_
      refine Y_assign ?_
      refine XD_end ?_
      refine K_then ?_
      refine C_seq ?_
      have okx : xb = true → CellV.ok M4 ⟨x_v, x_h, x_s, ⟨x_a, x_c, x_l⟩⟩ := fun hb => by
       obtain ⟨y, g1, g2, g3⟩ := findX_mem (l := t_l) (k := q_l[j].key) (by rw [hx]; exact hb)
       rw [hx] at g3
       have := ((l_t y g1).mono hmm4).h0
       rw [g3] at this
       exact this
      refine C_region (l := [0, 1, 2, 3, 4, 5, 6, 7, 8, 9, 10, 11, 12, 13, 14, 15, 16, 17]) rfl ?_
      iterate 4 refine Y_move ?_
      refine Y_fieldAddr F.foff49_0 ?_
      refine Y_load F.lay33 ?_
      refine X_fn rfl rfl F.ok34 rfl (Keeps_ok _ ⟨l_a, l_c, l_l⟩ r (n : Int) q_l[j].key (k_l.mono hmm4)) rfl ?_
      rintro _ M5 hm5 hv
      obtain ⟨kb, hkb⟩ : ∃ b, keepsR l_l r (n : Int) q_l[j].key = b := ⟨_, rfl⟩
      replace hv : _ = Value.bool (keepsR l_l r (n : Int) q_l[j].key) := hv
      rw [hkb] at hv
      subst hv
      refine X_eqb rfl rfl rfl rfl rfl Try.underlying4 rfl ?_
      refine Y_move ?_
      refine XD_part 64 rfl (fun hc7 => ?_) (fun hc7 => ?_)
      ·replace hc7 := nT hc7
       simp only [AnswerV.eta, MarkV.eta, CellV.eta, HeldV.eta, PeerV.eta] at hc7
       iterate 8 refine Y_skip ?_
       refine Y_pick ?_
       refine XD_end ?_
       refine K_then ?_
       refine C_true rfl ?_
       refine C_seq ?_
       refine C_region (l := [0]) rfl ?_
       refine Y_assign ?_
       refine XD_end ?_
       refine K_then ?_
       refine C_ret ?_
       refine K_retB ?_
       iterate 2 refine K_ret ?_
       iterate 2 refine K_retB ?_
       iterate 2 refine K_ret ?_
       iterate 2 refine K_retB ?_
       iterate 2 refine K_ret ?_
       refine K_retB ?_
       refine K_ret ?_
       refine K_end (.inr rfl) (.tmp rfl .nil) (fun w hw => ?_)
       refine ⟨_, M5, rfl, (hmm4.trans hm5), hw.c, ?_⟩
       clear hw
       refine congrArg Value.bool ?_
       refine (decide_eq_false (fun h9 => ?_)).symm
       refine wholeW_no (i := k) (j := j) (n := n) (show k < all_l.length by omega) (by rw [hq]; show j < q_l.length; omega) (fun h8 => ?_) h9.2
       have e9 := congrArg Sl.l hq
       simp only at e9
       simp only [e9] at h8
       obtain ⟨g1, g2⟩ := hW.1 h8
       simp_all [CellV.pl]
      ·replace hc7 := nF hc7
       simp only [AnswerV.eta, MarkV.eta, CellV.eta, HeldV.eta, PeerV.eta] at hc7
       iterate 2 refine Y_move ?_
       refine XD_part 66 rfl (fun hc8 => ?_) (fun hc8 => ?_)
       ·skip
        simp only [AnswerV.eta, MarkV.eta, CellV.eta, HeldV.eta, PeerV.eta] at hc8
        refine Y_load F.lay37 ?_
        refine Y_fieldAddr F.foff49_1 ?_
        refine Y_load F.lay37 ?_
        refine X_fs rfl rfl F.ok25 rfl (SameC_ok _ ⟨x_v, x_h, x_s, ⟨x_a, x_c, x_l⟩⟩ q_l[j].cell ((okx (by assumption)).mono hm5) ((l_q _ (List.getElem_mem (by omega))).h0.mono (hmm4.trans hm5))) rfl ?_
        rintro _ rfl
        refine Y_not ?_
        iterate 2 refine Y_pick ?_
        refine XD_end ?_
        refine K_then ?_
        refine C_cond rfl (fun hc9 => ?_) (fun hc9 => ?_)
        ·replace hc9 := nT hc9
         refine C_seq ?_
         refine C_region (l := [0]) rfl ?_
         refine Y_assign ?_
         refine XD_end ?_
         refine K_then ?_
         refine C_ret ?_
         refine K_retB ?_
         iterate 2 refine K_ret ?_
         iterate 2 refine K_retB ?_
         iterate 2 refine K_ret ?_
         iterate 2 refine K_retB ?_
         iterate 2 refine K_ret ?_
         refine K_retB ?_
         refine K_ret ?_
         refine K_end (.inr rfl) (.tmp rfl .nil) (fun w hw => ?_)
         refine ⟨_, M5, rfl, (hmm4.trans hm5), hw.c, ?_⟩
         clear hw
         refine congrArg Value.bool ?_
         refine (decide_eq_false (fun h9 => ?_)).symm
         refine wholeW_no (i := k) (j := j) (n := n) (show k < all_l.length by omega) (by rw [hq]; show j < q_l.length; omega) (fun h8 => ?_) h9.2
         have e9 := congrArg Sl.l hq
         simp only at e9
         simp only [e9] at h8
         obtain ⟨g1, g2⟩ := hW.1 h8
         simp_all [CellV.pl]
        ·replace hc9 := nF hc9
         refine C_skip ?_
         refine K_out ?_
         refine K_then ?_
         refine C_region (l := [0, 1, 2]) rfl ?_
         refine Y_move ?_
         refine X_ari rfl rfl rfl rfl rfl (by exact wrap_in (by decide) (by omega)) rfl ?_
         refine Y_assign ?_
         refine XD_end ?_
         refine K_roundO (a' := [(10, _)]) (n + 1) ([]) (.cons (k := 10) rfl (.cons (k := 9) rfl (.cons (k := 39) rfl (.cons (k := 38) rfl (.cons (k := 37) rfl (.cons (k := 36) rfl (.cons (k := 35) rfl (.cons (k := 34) rfl (.cons (k := 33) rfl (.cons (k := 30) rfl (.cons (k := 29) rfl (.cons (k := 28) rfl (.cons (k := 27) rfl (.cons (k := 26) rfl (.cons (k := 25) rfl (.cons (k := 24) rfl (.cons (k := 8) rfl (.cons (k := 21) rfl (.cons (k := 20) rfl (.cons (k := 19) rfl (.cons (k := 18) rfl (.cons (k := 7) rfl (.cons (k := 6) rfl (.cons (k := 0) rfl (.cons (k := 1) rfl (.cons (k := 2) rfl (.nil))))))))))))))))))))))))))) (hm4.trans hm5) (fun w hw => by first | exact hw | exact hw.c) ?_ ?_
         ·refine ⟨rfl, rfl, by omega, fun n2 h9 => ?_⟩
          rcases Nat.lt_or_ge n2 n with h8 | h8
          ·exact hI2 n2 h8
          ·have hik : n2 = n := by omega
           subst hik
           refine hW.2 ⟨?_, ?_⟩
           ·simp_all
           ·simp_all [CellV.pl]
         ·omega
       ·skip
        simp only [AnswerV.eta, MarkV.eta, CellV.eta, HeldV.eta, PeerV.eta] at hc8
        iterate 5 refine Y_skip ?_
        iterate 2 refine Y_pick ?_
        refine XD_end ?_
        refine K_then ?_
        refine C_false rfl ?_
        refine C_skip ?_
        refine K_out ?_
        refine K_then ?_
        refine C_region (l := [0, 1, 2]) rfl ?_
        refine Y_move ?_
        refine X_ari rfl rfl rfl rfl rfl (by exact wrap_in (by decide) (by omega)) rfl ?_
        refine Y_assign ?_
        refine XD_end ?_
        refine K_roundO (a' := [(10, _)]) (n + 1) ([]) (.cons (k := 10) rfl (.cons (k := 9) rfl (.cons (k := 39) rfl (.cons (k := 38) rfl (.cons (k := 37) rfl (.cons (k := 36) rfl (.cons (k := 35) rfl (.cons (k := 34) rfl (.cons (k := 33) rfl (.cons (k := 30) rfl (.cons (k := 29) rfl (.cons (k := 28) rfl (.cons (k := 27) rfl (.cons (k := 26) rfl (.cons (k := 25) rfl (.cons (k := 24) rfl (.cons (k := 8) rfl (.cons (k := 21) rfl (.cons (k := 20) rfl (.cons (k := 19) rfl (.cons (k := 18) rfl (.cons (k := 7) rfl (.cons (k := 6) rfl (.cons (k := 0) rfl (.cons (k := 1) rfl (.cons (k := 2) rfl (.nil))))))))))))))))))))))))))) (hm4.trans hm5) (fun w hw => by first | exact hw | exact hw.c) ?_ ?_
        ·refine ⟨rfl, rfl, by omega, fun n2 h9 => ?_⟩
         rcases Nat.lt_or_ge n2 n with h8 | h8
         ·exact hI2 n2 h8
         ·have hik : n2 = n := by omega
          subst hik
          refine hW.2 ⟨?_, ?_⟩
          ·simp_all
          ·simp_all [CellV.pl]
        ·omega
     ·replace hc5 := dF hc5
      refine C_exit ?_
      iterate 2 refine K_exit ?_
      refine K_hit ?_
      refine K_out ?_
      refine K_then ?_
      refine C_region (l := [0, 1, 2]) rfl ?_
      refine Y_move ?_
      refine X_ari rfl rfl rfl rfl rfl (by exact wrap_in (by decide) (by omega)) rfl ?_
      refine Y_assign ?_
      refine XD_end ?_
      refine K_roundO (a' := [(8, _)]) (j + 1) ([]) (.cons (k := 8) rfl (.cons (k := 21) rfl (.cons (k := 20) rfl (.cons (k := 19) rfl (.cons (k := 18) rfl (.cons (k := 7) rfl (.cons (k := 6) rfl (.cons (k := 0) rfl (.cons (k := 1) rfl (.cons (k := 2) rfl (.nil))))))))))) (hm2.trans hm4) (fun w hw => by first | exact hw | exact hw.c) ?_ ?_
      ·refine ⟨rfl, rfl, by omega, fun j2 hj2 h9 => ?_⟩
       rcases Nat.lt_or_ge j2 j with h8 | h8
       ·exact hI1 j2 hj2 h8
       ·have hik : j2 = j := by omega
        subst hik
        exact fun n2 hn2 => hI2 n2 (by omega)
      ·omega
    ·replace hc3 := dF hc3
     refine C_exit ?_
     iterate 2 refine K_exit ?_
     refine K_hit ?_
     refine K_out ?_
     refine K_then ?_
     refine C_region (l := [0, 1, 2]) rfl ?_
     refine Y_move ?_
     refine X_ari rfl rfl rfl rfl rfl (by exact wrap_in (by decide) (by omega)) rfl ?_
     refine Y_assign ?_
     refine XD_end ?_
     refine K_roundO (a' := [(7, _)]) (k + 1) ([]) (.cons (k := 7) rfl (.cons (k := 6) rfl (.cons (k := 0) rfl (.cons (k := 1) rfl (.cons (k := 2) rfl (.nil)))))) (hm1.trans hm2) (fun w hw => by first | exact hw | exact hw.c) ?_ ?_
     ·refine ⟨rfl, rfl, by omega, fun i hi h9 => ?_⟩
      rcases Nat.lt_or_ge i k with h8 | h8
      ·exact hI i hi h8
      ·have hik : i = k := by omega
       subst hik
       intro j2 hj2 n hn9
       have e9 := congrArg Sl.l hq
       simp only at e9
       have hj3 : j2 < q_l.length := by rw [← e9]; exact hj2
       have := hI1 j2 hj3 (by omega) n hn9
       simpa only [e9] using this
     ·omega
   ·replace hc2 := dF hc2
    refine C_exit ?_
    iterate 2 refine K_exit ?_
    refine K_hit ?_
    refine K_then ?_
    refine Y_pk [6] ?_
    refine C_seq ?_
    refine C_region (l := [0]) rfl ?_
    refine Y_assign ?_
    refine XD_end ?_
    refine K_then ?_
    refine C_ret ?_
    refine K_end (.inr rfl) (.tmp rfl .nil) (fun w hw => ?_)
    refine ⟨_, M1, rfl, hm1, hw.c, ?_⟩
    clear hw
    refine congrArg Value.bool ?_
    refine (decide_eq_true ⟨by assumption, wholeW_yes fun i hi j hj n hn9 => ?_⟩).symm
    obtain rfl : k = all_l.length := by omega
    exact hI i hi hi j hj n hn9

end Go.Proofs.Ytbafnjniijodfaa
/-
  Stores healed by the document.
-/
set_option linter.unusedSimpArgs false
set_option linter.unusedVariables false
set_option linter.unnecessarySimpa false
set_option maxRecDepth 8000
set_option maxHeartbeats 1000000
namespace Go.Proofs.Ytbafnjniijodfaa
open Go.Esp


theorem blend_cases {s t B : List Hd} {e : Int} (hs : IsSt s) (ht : IsSt t) (h : blendR s t = (B, e)) : (e = 12 ∧ 2000 < (t.foldl (blendS mergedT) s).length) ∨ (e = 0 ∧ B = t.foldl (blendS mergedT) s ∧ IsSt B) := by
  unfold blendR at h
  rw [if_pos ⟨hs, ht⟩] at h
  split at h
  ·cases h; exact .inl ⟨rfl, by assumption⟩
  ·cases h; exact .inr ⟨rfl, rfl, Nat.not_lt.1 (by assumption), foldB_ok mergedT_keeps hs.2 ht.2.1⟩
theorem ofS_le {two : Cel → Cel → Cel} {all : List (List Hd)} (k : Nat) : (ofS two (all.take k)).length ≤ (ofS two all).length := by
  have e : ofS two all = (all.drop k).flatten.foldl (blendS two) (ofS two (all.take k)) := by
   unfold ofS
   rw [← List.foldl_append, ← List.flatten_append, List.take_append_drop]
  rw [e]
  exact foldB_len.1
theorem filt_step {l : List PeerV} {r : Int} {i : Nat} {S : List HeldV} {j : Nat} (hj : j < S.length) : filt l r i (S.take (j + 1)) = filt l r i (S.take j) ++ if keepsR l r (i : Int) S[j].key then [S[j]] else [] := by
  unfold filt
  rw [List.take_add_one, List.getElem?_eq_getElem hj, List.filter_append]
  congr 1
  simp only [Option.toList_some, List.filter_cons, List.filter_nil]
theorem AllE.healed2 {M M' : Mem} {l : List PeerV} {r : Int} {all : List (List Hd)} {S : List HeldV} {ss : List (Sl HeldV)} {a : Option Addr} {c : Nat} (hc : CircSt l r all) (hS : pls S = ofS mergedT all) (hn : ¬ 2000 < S.length) (hs : ss.map (fun s => s.l) = (List.range l.length).map fun i => filt l r i S)
   (hk : SlK M' (fun x => [.one (Sl.val x)]) 1 (⟨a, c, ss⟩ : Sl (Sl HeldV))) (hss : ∀ s ∈ ss, SlK M' HeldV.segs 24 s) (hok : ∀ h ∈ S, HeldV.ok M h) (hm : M.le M') : AllE M' (.tuple #[(⟨a, c, ss⟩ : Sl (Sl HeldV)).val, .int .i64 0]) (healR l r all) := by
  have he : healR l r all = ((List.range l.length).map fun i : Nat => (ofS mergedT all).filter fun h => keepsR l r (i : Int) h.key, 0) := by
   unfold healR
   rw [if_pos hc, if_neg (by rw [← hS, pls_len]; exact hn)]
  rw [he]
  refine ⟨⟨a, c, ss⟩, rfl, ?_, hk, fun y hy => ⟨hss y hy, fun h hh => ?_⟩⟩
  ·have h9 := congrArg (List.map pls) hs
   rw [List.map_map, List.map_map] at h9
   refine Eq.trans h9 (List.map_congr_left fun i _ => ?_)
   show pls (filt l r i S) = _
   rw [filt_pls, hS]
  ·have h8 : y.l ∈ ss.map (fun s => s.l) := List.mem_map_of_mem hy
   rw [hs] at h8
   obtain ⟨i, _, h7⟩ := List.mem_map.1 h8
   replace hh : h ∈ y.l := hh
   rw [← h7] at hh
   exact (hok h (List.mem_filter.1 hh).1).mono hm

theorem rHeal_ok (M : Mem) (l : (Sl PeerV)) (r : Int) (all : (Sl (Sl HeldV))) (hl0 : SlK M PeerV.segs 21 l) (hall1 : SlK M (fun x => [Seg.one (Sl.val x)]) 1 all) (hall2 : ∀ y ∈ (all).l, SlK M HeldV.segs 24 y ∧ ∀ y1 ∈ (y).l, HeldV.ok M y1) : Esp.Fn Try.prog 10 [Sl.val l, .int .i64 r, Sl.val all] M (fun M' v => AllE M' v (healR l.l r (plss all.l))) := by
  obtain ⟨l_a, l_c, l_l⟩ := l
  obtain ⟨all_a, all_c, all_l⟩ := all
  have k_l : SlK M PeerV.segs 21 ⟨l_a, l_c, l_l⟩ := hl0
  have s_l : SlM M l_a (l_l.map PeerV.segs) 21 := k_l.h1
  have n_l : (l_l.map PeerV.segs).length = l_l.length := List.length_map ..
  have m_l : l_l.length ≤ 9223372036854775807 := k_l.h2
  have c_l : l_l.length ≤ l_c := k_l.h3
  have k_all : SlK M (fun x => [Seg.one (Sl.val x)]) 1 ⟨all_a, all_c, all_l⟩ := hall1
  have s_all : SlM M all_a (all_l.map (fun x => [Seg.one (Sl.val x)])) 1 := k_all.h1
  have n_all : (all_l.map (fun x => [Seg.one (Sl.val x)])).length = all_l.length := List.length_map ..
  have m_all : all_l.length ≤ 9223372036854775807 := k_all.h2
  have c_all : all_l.length ≤ all_c := k_all.h3
  show Esp.Fn _ _ _ _ (fun M' v => AllE M' v (healR l_l r (plss all_l)))
  refine fn_enter Try.func10 rfl Try.ntmps10 rfl ?_; intro H
  refine C_seq ?_
  refine C_region (l := [0, 1]) rfl ?_
  iterate 2 refine Y_assign ?_
  refine XD_end ?_
  refine K_then ?_
  iterate 2 refine C_seq ?_
  refine C_region (l := [0, 1, 2, 3, 4]) rfl ?_
  iterate 3 refine Y_move ?_
  refine X_fs rfl rfl F.ok33 rfl (rCircSt_ok _ ⟨l_a, l_c, l_l⟩ r ⟨all_a, all_c, all_l⟩ (by assumption) (by assumption) (by assumption)) rfl ?_
  rintro _ rfl
  refine Y_not ?_
  refine XD_end ?_
  refine K_then ?_
  refine Y_pk [20, 7, 6, 0, 1, 2] ?_
  refine C_cond rfl (fun hc1 => ?_) (fun hc1 => ?_)
  ·replace hc1 := nT hc1
   simp only [AnswerV.eta, MarkV.eta, CellV.eta, HeldV.eta, PeerV.eta] at hc1
   refine C_seq ?_
   refine C_region (l := [0, 1]) rfl ?_
   iterate 2 refine Y_assign ?_
   refine XD_end ?_
   refine K_then ?_
   refine Y_pk [7, 6, 0, 1, 2] ?_
   refine C_ret ?_
   refine K_ret ?_
   refine K_end (.inr rfl) (.tmp rfl (.tmp rfl .nil)) (fun w hw => ?_)
   refine ⟨_, M, rfl, Mem.le.refl M, hw.c, ?_⟩
   rw [show healR l_l r (plss all_l) = ([], 1) from if_neg (by assumption)]
   exact AllE.nil
  ·replace hc1 := nF hc1
   simp only [AnswerV.eta, MarkV.eta, CellV.eta, HeldV.eta, PeerV.eta] at hc1
   refine C_skip ?_
   refine K_then ?_
   refine Y_pk [7, 6, 0, 1, 2] ?_
   refine C_seq ?_
   have hcs : CircSt l_l r (plss all_l) := by assumption
   have hl9 : l_l.length ≤ 16 := hcs.1.1.2
   have hcel : ∀ s ∈ plss all_l, ∀ x ∈ s, IsCel x.cell := fun s hs x hx => (hcs.2.2.2 s hs).2.1 x hx
   refine C_region (l := [0]) rfl ?_
   refine Y_assign ?_
   refine XD_end ?_
   refine K_then ?_
   iterate 2 refine C_seq ?_
   refine C_region (l := [0]) rfl ?_
   refine Y_assign ?_
   refine XD_end ?_
   refine K_then ?_
   refine C_block ?_
   refine Y_pk [9, 8, 7, 6, 0, 1, 2] ?_
   refine C_loopO (Hin := []) (.succ (.succ .zero)) (by repeat first | exact Rem.here _ | exact Rem.two | apply Rem.skip | apply Rem.over) (fun (k : Nat) M1 h1 z => ∃ q : Sl HeldV, h1 = [] ∧ z = [(9, .int .i64 (k : Int)), (8, Sl.val q)] ∧ k ≤ all_l.length ∧ pls q.l = ofS mergedT ((plss all_l).take k) ∧ IsSt (pls q.l) ∧ SlK M1 HeldV.segs 24 q ∧ ∀ h ∈ q.l, HeldV.ok M1 h) (fun k => all_l.length - k) (0) (⟨⟨none, 0, []⟩, rfl, rfl, by omega, by simp [ofS, pls], of_decide_eq_true (by decide), SlK.nil, fun h hh => by cases hh⟩) ?_
   rintro k M1 h1 z hm1 ⟨⟨q_a, q_c, q_l⟩, rfl, rfl, hk, hql, hqs, k_q, l_q⟩
   try simp only at hql hqs l_q
   have s_all1 := s_all.mono hm1
   iterate 2 refine C_seq ?_
   refine C_region (l := [0, 1, 2, 3]) rfl ?_
   iterate 2 refine Y_move ?_
   refine Y_len_sl F.elem23 ?_
   refine Y_cmp ?_
   refine XD_end ?_
   refine K_then ?_
   refine C_cond rfl (fun hc2 => ?_) (fun hc2 => ?_)
   ·replace hc2 := dT hc2
    refine C_skip ?_
    refine K_then ?_
    refine C_seq ?_
    refine C_block ?_
    refine C_seq ?_
    refine C_region (l := [0, 1, 2, 3, 4, 5, 6, 7, 8, 9, 10]) rfl ?_
    iterate 3 refine Y_move ?_
    refine X_indexAddr rfl rfl rfl rfl F.elem23 (by rfl) (by omega) (by exact SlM.plain (by assumption) (by (simp; omega))) rfl ?_
    refine X_load_el rfl rfl rfl (by assumption) (by exact row_map (by omega)) F.lay31 rfl rfl rfl ?_
    obtain ⟨⟨t_a, t_c, t_l⟩, ht⟩ : ∃ t, all_l[k]'(by omega) = t := ⟨_, rfl⟩
    rw [ht]
    have htm : (⟨t_a, t_c, t_l⟩ : Sl HeldV) ∈ all_l := by rw [← ht]; exact List.getElem_mem (by omega)
    obtain ⟨k_t, l_t⟩ := hall2 _ htm
    try simp only at l_t
    have hts : IsSt (pls t_l) := hcs.2.2.2 _ (List.mem_map_of_mem (f := fun s : Sl HeldV => pls s.l) htm)
    refine X_fn rfl rfl F.ok22 rfl (rBlend_ok _ ⟨q_a, q_c, q_l⟩ ⟨t_a, t_c, t_l⟩ k_q l_q (k_t.mono hm1) (fun y hy => (l_t y hy).mono hm1)) rfl ?_
    rintro _ M2 hm2 hv
    obtain ⟨⟨BL, be⟩, hb⟩ : ∃ x, blendR (pls q_l) (pls t_l) = x := ⟨_, rfl⟩
    have hbc := blend_cases hqs hts hb
    replace hv : StE _ _ (blendR (pls q_l) (pls t_l)) := hv
    rw [hb] at hv
    obtain ⟨⟨u_a, u_c, u_l⟩, rfl, hu, k_u, l_u⟩ := hv
    try simp only at hu l_u
    refine Y_move ?_
    iterate 2 refine Y_extract ?_
    iterate 2 refine Y_assign ?_
    refine XD_end ?_
    refine K_then ?_
    iterate 2 refine C_seq ?_
    refine C_region (l := [0, 1]) rfl ?_
    refine Y_move ?_
    refine Y_cmp ?_
    refine XD_end ?_
    refine K_then ?_
    refine C_cond rfl (fun hc3 => ?_) (fun hc3 => ?_)
    ·replace hc3 := nT hc3
     simp only [AnswerV.eta, MarkV.eta, CellV.eta, HeldV.eta, PeerV.eta] at hc3
     refine C_seq ?_
     refine C_region (l := [0, 1, 2]) rfl ?_
     refine Y_move ?_
     iterate 2 refine Y_assign ?_
     refine XD_end ?_
     refine K_then ?_
     refine C_ret ?_
     refine K_ret ?_
     refine K_retB ?_
     iterate 2 refine K_ret ?_
     refine K_retB ?_
     refine K_ret ?_
     refine K_end (.inr rfl) (.tmp rfl (.tmp rfl .nil)) (fun w hw => ?_)
     refine ⟨_, M2, rfl, hm1.trans hm2, hw.c, ?_⟩
     rcases hbc with ⟨h9, h8⟩ | ⟨h9, _⟩
     ·rw [h9, show healR l_l r (plss all_l) = ([], 12) from by
       unfold healR; rw [if_pos hcs, if_pos ?_]
       rw [hql] at h8
       have h7 := ofS_step (two := mergedT) (all := plss all_l) (k := k) (by rw [plss_len]; omega)
       rw [plss_at (by omega), ht] at h7
       rw [← h7] at h8
       exact Nat.lt_of_lt_of_le h8 (ofS_le _)]
      exact AllE.nil
     ·exfalso; omega
    ·replace hc3 := nF hc3
     simp only [AnswerV.eta, MarkV.eta, CellV.eta, HeldV.eta, PeerV.eta] at hc3
     refine C_skip ?_
     refine K_then ?_
     refine C_region (l := [0, 1]) rfl ?_
     refine Y_move ?_
     refine Y_assign ?_
     refine XD_end ?_
     refine K_out ?_
     refine K_then ?_
     refine C_region (l := [0, 1, 2]) rfl ?_
     refine Y_move ?_
     refine X_ari rfl rfl rfl rfl rfl (by exact wrap_in (by decide) (by omega)) rfl ?_
     refine Y_assign ?_
     refine XD_end ?_
     refine K_roundO (a' := [(9, _), (8, _)]) (k + 1) ([]) (.cons (k := 9) rfl (.cons (k := 8) rfl (.cons (k := 7) rfl (.cons (k := 6) rfl (.cons (k := 0) rfl (.cons (k := 1) rfl (.cons (k := 2) rfl (.nil)))))))) (hm1.trans hm2) (fun w hw => by first | exact hw | exact hw.c) ?_ ?_
     ·rcases hbc with ⟨h9, _⟩ | ⟨_, h8, h7⟩
      ·exfalso; omega
      ·refine ⟨⟨u_a, u_c, u_l⟩, rfl, rfl, by omega, ?_, by rw [hu]; exact h7, k_u, l_u⟩
       rw [ofS_step (by rw [plss_len]; omega), ← hql, plss_at (by omega), ht]
       exact hu.trans h8
     ·omega
   ·replace hc2 := dF hc2
    refine C_exit ?_
    iterate 2 refine K_exit ?_
    refine K_hit ?_
    refine K_then ?_
    refine Y_pk [8, 7, 6, 0, 1] ?_
    refine C_seq ?_
    obtain rfl : k = all_l.length := by omega
    rw [List.take_of_length_le (by rw [plss_len]; omega)] at hql
    have hn9 : ¬ 2000 < q_l.length := by have := hqs.1; rw [pls_len] at this; omega
    have s_q := k_q.h1
    try simp only at s_q
    have m_q : q_l.length ≤ 9223372036854775807 := k_q.h2
    have n_q : (q_l.map HeldV.segs).length = q_l.length := List.length_map ..
    refine C_region (l := [0]) rfl ?_
    refine Y_assign ?_
    refine XD_end ?_
    refine K_then ?_
    iterate 2 refine C_seq ?_
    refine C_region (l := [0]) rfl ?_
    refine Y_assign ?_
    refine XD_end ?_
    refine K_then ?_
    refine C_block ?_
    refine Y_pk [13, 12, 8, 7, 6, 0, 1] ?_
    refine C_loopO (Hin := []) (.succ (.succ .zero)) (by repeat first | exact Rem.here _ | exact Rem.two | apply Rem.skip | apply Rem.over) (fun (i : Nat) M3 h3 z => ∃ (ss : List (Sl HeldV)) (v : Value), z = [(13, .int .i64 (i : Int)), (12, v)] ∧ i ≤ l_l.length ∧ OSl 31 1 v h3 (ss.map fun s : Sl HeldV => ([.one (Sl.val s)] : Segs)) ∧ (ss.map (fun s => s.l) = (List.range i).map fun i => filt l_l r i q_l) ∧ ∀ s ∈ ss, SlK M3 HeldV.segs 24 s) (fun i => l_l.length - i) (0) (⟨[], _, rfl, by omega, OSl.nil, rfl, fun s hs => by cases hs⟩) ?_
    rintro i M3 h3 z hm3 ⟨ss, v3, rfl, hi, ho3, hss, k_ss⟩
    obtain ⟨ad3, cp3, rfl⟩ := ho3.val
    have hsl : ss.length = i := by have h9 := congrArg List.length hss; simpa using h9
    have hsm : ((ss.map fun s : Sl HeldV => ([.one (Sl.val s)] : Segs))).length = ss.length := List.length_map ..
    have s_q3 := s_q.mono hm3
    iterate 2 refine C_seq ?_
    refine C_region (l := [0, 1, 2, 3]) rfl ?_
    iterate 2 refine Y_move ?_
    refine Y_len_sl F.elem22 ?_
    refine Y_cmp ?_
    refine XD_end ?_
    refine K_then ?_
    refine C_cond rfl (fun hc4 => ?_) (fun hc4 => ?_)
    ·replace hc4 := dT hc4
     refine C_skip ?_
     refine K_then ?_
     refine C_seq ?_
     refine C_block ?_
     refine C_seq ?_
     refine C_region (l := [0]) rfl ?_
     refine Y_assign ?_
     refine XD_end ?_
     refine K_then ?_
     iterate 2 refine C_seq ?_
     refine C_region (l := [0]) rfl ?_
     refine Y_assign ?_
     refine XD_end ?_
     refine K_then ?_
     refine C_block ?_
     refine Y_pk [15, 14, 43, 42, 41, 40, 13, 12, 8, 7, 6, 0, 1] ?_
     refine C_loopO (Hin := []) (.succ (.succ .zero)) (by repeat first | exact Rem.here _ | exact Rem.two | apply Rem.skip | apply Rem.over) (fun (j : Nat) M4 h4 z => ∃ v, z = [(15, .int .i64 (j : Int)), (14, v)] ∧ j ≤ q_l.length ∧ OSl 49 24 v h4 ((filt l_l r i (q_l.take (j))).map HeldV.segs)) (fun j => q_l.length - j) (0) (⟨_, rfl, by omega, by simpa [filt] using OSl.nil⟩) ?_
     rintro j M4 h4 z hm4 ⟨v4, rfl, hj, ho4⟩
     obtain ⟨ad4, cp4, rfl⟩ := ho4.val
     have hml : ((filt l_l r i (q_l.take (j))).map HeldV.segs).length = (filt l_l r i (q_l.take j)).length := List.length_map ..
     rw [hml] at ho4 ⊢
     have hfl : (filt l_l r i (q_l.take j)).length ≤ 2000 := Nat.le_trans filt_len (by rw [List.length_take]; omega)
     have s_q4 := s_q3.mono hm4
     iterate 2 refine C_seq ?_
     refine C_region (l := [0, 1, 2, 3]) rfl ?_
     iterate 2 refine Y_move ?_
     refine Y_len_sl F.elem31 ?_
     refine Y_cmp ?_
     refine XD_end ?_
     refine K_then ?_
     refine C_cond rfl (fun hc5 => ?_) (fun hc5 => ?_)
     ·replace hc5 := dT hc5
      refine C_skip ?_
      refine K_then ?_
      refine C_seq ?_
      refine C_block ?_
      refine C_seq ?_
      refine C_region (l := [0, 1, 2, 3, 4, 5, 6, 7, 8]) rfl ?_
      iterate 5 refine Y_move ?_
      refine X_indexAddr rfl rfl rfl rfl F.elem31 (by rfl) (by omega) (by exact SlM.plain (by assumption) (by (simp; omega))) rfl ?_
      refine X_fieldAddr_el rfl rfl rfl (by exact SlM.plain (by assumption) (by (simp; omega))) F.foff49_0 rfl ?_
      refine X_load_el rfl rfl rfl (by assumption) (by exact row_map (by omega)) F.lay33 rfl rfl rfl ?_
      refine X_fn rfl rfl F.ok34 rfl (Keeps_ok _ ⟨l_a, l_c, l_l⟩ r (i : Int) q_l[j].key (k_l.mono (hm1.trans (hm3.trans hm4)))) rfl ?_
      rintro _ M5 hm5 hv
      obtain ⟨kb, hkb⟩ : ∃ b, keepsR l_l r (i : Int) q_l[j].key = b := ⟨_, rfl⟩
      replace hv : _ = Value.bool (keepsR l_l r (i : Int) q_l[j].key) := hv
      rw [hkb] at hv
      subst hv
      have s_q5 := s_q4.mono hm5
      refine XD_end ?_
      refine K_then ?_
      refine C_cond rfl (fun hc6 => ?_) (fun hc6 => ?_)
      ·skip
       refine C_region (l := [0, 1, 2, 3, 4, 5, 6, 7]) rfl ?_
       iterate 3 refine Y_move ?_
       refine X_indexAddr rfl rfl rfl rfl F.elem31 (by rfl) (by omega) (by exact SlM.plain (by assumption) (by (simp; omega))) rfl ?_
       refine X_load_el rfl rfl rfl (by assumption) (by exact row_map (by omega)) F.lay49 rfl rfl rfl ?_
       refine X_buildSliceF rfl rfl F.elem31 F.zero49 rfl rfl (.cons rfl (by constructor) .nil) rfl rfl (by simp only [List.map_cons, List.map_nil] <;> rfl) rfl ?_; intro b7 hob8
       refine X_append (m := 1000000) rfl rfl rfl rfl rfl F.elem31 F.zero49 (by exact agg_size rfl) rfl (by assumption) (by repeat first | exact Rem.here _ | exact Rem.two | apply Rem.skip | apply Rem.over) (Src.own hob8.lens (by (refine rows_one1 ?_; (repeat (first | exact flat_nil | refine flat_id ?_ | (refine flat_one ?_ ?_; rfl))); done)) rfl (by repeat first | exact List.Mem.head _ | refine List.Mem.tail _ ?_ | refine List.mem_append_right _ ?_)) (by (simp; omega)) (by decide) rfl ?_; intro v11 hs10 ho9; obtain ⟨adv11, cpv11, rfl⟩ := ho9.val
       refine Y_assign ?_
       refine XD_end ?_
       refine K_out ?_
       refine K_then ?_
       refine C_region (l := [0, 1, 2]) rfl ?_
       refine Y_move ?_
       refine X_ari rfl rfl rfl rfl rfl (by exact wrap_in (by decide) (by omega)) rfl ?_
       refine Y_assign ?_
       refine XD_end ?_
       refine K_roundO (a' := [(15, _), (14, _)]) (j + 1) (hs10) (.cons (k := 15) rfl (.cons (k := 14) rfl (.cons (k := 43) rfl (.cons (k := 42) rfl (.cons (k := 41) rfl (.cons (k := 40) rfl (.cons (k := 13) rfl (.cons (k := 12) rfl (.cons (k := 8) rfl (.cons (k := 7) rfl (.cons (k := 6) rfl (.cons (k := 0) rfl (.cons (k := 1) rfl (.nil)))))))))))))) (hm4.trans hm5) (fun w hw => by first | exact hw | exact hw.c) ?_ ?_
       ·refine ⟨_, rfl, by omega, ?_⟩
        have hkb9 : keepsR l_l r (i : Int) q_l[j].key = true := by first | assumption | (simp_all; done)
        rw [filt_step (by omega), hkb9]
        rw [List.map_append]; exact ho9
       ·omega
      ·skip
       refine C_skip ?_
       refine K_out ?_
       refine K_then ?_
       refine C_region (l := [0, 1, 2]) rfl ?_
       refine Y_move ?_
       refine X_ari rfl rfl rfl rfl rfl (by exact wrap_in (by decide) (by omega)) rfl ?_
       refine Y_assign ?_
       refine XD_end ?_
       refine K_roundO (a' := [(15, _), (14, _)]) (j + 1) (h4) (.cons (k := 15) rfl (.cons (k := 14) rfl (.cons (k := 43) rfl (.cons (k := 42) rfl (.cons (k := 41) rfl (.cons (k := 40) rfl (.cons (k := 13) rfl (.cons (k := 12) rfl (.cons (k := 8) rfl (.cons (k := 7) rfl (.cons (k := 6) rfl (.cons (k := 0) rfl (.cons (k := 1) rfl (.nil)))))))))))))) (hm4.trans hm5) (fun w hw => by first | exact hw | exact hw.c) ?_ ?_
       ·refine ⟨_, rfl, by omega, ?_⟩
        have hkb9 : keepsR l_l r (i : Int) q_l[j].key = false := by first | assumption | (simp_all; done)
        rw [filt_step (by omega), hkb9]
        simp only [Bool.false_eq_true, if_false, List.append_nil]; rw [← hml] at ho4 ⊢; exact ho4
       ·omega
     ·replace hc5 := dF hc5
      refine C_exit ?_
      iterate 2 refine K_exit ?_
      refine K_hit ?_
      refine K_then ?_
      obtain rfl : j = q_l.length := by omega
      rw [List.take_length] at ho4 hfl ⊢
      refine C_frz ho4 (by repeat first | exact Rem.here _ | exact Rem.two | apply Rem.skip | apply Rem.over) (fun M6 hm6 k_w => ?_)
      refine C_region (l := [0, 1, 2, 3, 4]) rfl ?_
      iterate 2 refine Y_move ?_
      refine X_buildSliceF rfl rfl F.elem23 F.zero31 rfl rfl (.cons rfl (by constructor) .nil) rfl rfl (by simp only [List.map_cons, List.map_nil] <;> rfl) rfl ?_; intro b12 hob13
      refine X_append (m := 1000000) rfl rfl rfl rfl rfl F.elem23 F.zero31 (by rfl) rfl (by assumption) (by repeat first | exact Rem.here _ | exact Rem.two | apply Rem.skip | apply Rem.over) (Src.own hob13.lens (by (refine rows_one1 ?_; (repeat (first | exact flat_nil | refine flat_id ?_ | (refine flat_one ?_ ?_; rfl))); done)) rfl (by repeat first | exact List.Mem.head _ | refine List.Mem.tail _ ?_ | refine List.mem_append_right _ ?_)) (by (simp; omega)) (by decide) rfl ?_; intro v16 hs15 ho14; obtain ⟨adv16, cpv16, rfl⟩ := ho14.val
      refine Y_assign ?_
      refine XD_end ?_
      refine K_out ?_
      refine K_then ?_
      refine C_region (l := [0, 1, 2]) rfl ?_
      refine Y_move ?_
      refine X_ari rfl rfl rfl rfl rfl (by exact wrap_in (by decide) (by omega)) rfl ?_
      refine Y_assign ?_
      refine XD_end ?_
      refine K_roundO (a' := [(13, _), (12, _)]) (i + 1) (hs15) (.cons (k := 13) rfl (.cons (k := 12) rfl (.cons (k := 8) rfl (.cons (k := 7) rfl (.cons (k := 6) rfl (.cons (k := 0) rfl (.cons (k := 1) rfl (.nil)))))))) (hm3.trans (hm4.trans hm6)) (fun w hw => by first | exact hw | exact hw.c) ?_ ?_
      ·refine ⟨ss ++ [⟨ad4, cp4, filt l_l r i q_l⟩], _, rfl, by omega, ?_, ?_, fun s hs => ?_⟩
       ·rw [List.map_append]
        exact ho14
       ·rw [List.range_succ, List.map_append, List.map_append, hss]; rfl
       ·rcases List.mem_append.1 hs with hs | hs
        ·exact (k_ss s hs).mono (hm4.trans hm6)
        ·obtain rfl := List.mem_singleton.1 hs
         exact k_w
      ·omega
    ·replace hc4 := dF hc4
     refine C_exit ?_
     iterate 2 refine K_exit ?_
     refine K_hit ?_
     refine K_then ?_
     refine Y_pk [12, 7, 6] ?_
     refine C_seq ?_
     refine C_region (l := [0, 1, 2]) rfl ?_
     refine Y_move ?_
     iterate 2 refine Y_assign ?_
     refine XD_end ?_
     refine K_then ?_
     refine Y_pk [7, 6] ?_
     refine C_ret ?_
     refine K_end (.inr rfl) (.tmp rfl (.tmp rfl .nil)) (fun w hw => ?_)
     obtain rfl : i = l_l.length := by omega
     obtain ⟨M7, i1, i2, i3⟩ := ho3.frz (hw.c)
     have h8 := AllE.healed2 (M := M1) (M' := M7) (r := r) hcs hql hn9 hss i3 (fun s hs => (k_ss s hs).mono i1) l_q (hm3.trans i1)
     refine ⟨_, M7, rfl, hm1.trans (hm3.trans i1), i2, ?_⟩
     simp only [Sl.val] at h8
     simp only [List.length_map]
     exact h8

end Go.Proofs.Ytbafnjniijodfaa
/-
  The law of healing.
-/
set_option linter.unusedSimpArgs false
set_option linter.unusedVariables false
set_option linter.unnecessarySimpa false
set_option maxRecDepth 8000
set_option maxHeartbeats 1000000
namespace Go.Proofs.Ytbafnjniijodfaa
open Go.Esp
theorem F.ok10 : okFn Try.prog 10 = true := by kernel_rfl
theorem F.ok12 : okFn Try.prog 12 = true := by kernel_rfl
theorem F.ok14 : okFn Try.prog 14 = true := by kernel_rfl
theorem F.ok8 : okFn Try.prog 8 = true := by kernel_rfl

theorem lawHeals_ok (M : Mem) (l : (Sl PeerV)) (r : Int) (all : (Sl (Sl HeldV))) (hl0 : SlK M PeerV.segs 21 l) (hall1 : SlK M (fun x => [Seg.one (Sl.val x)]) 1 all) (hall2 : ∀ y ∈ (all).l, SlK M HeldV.segs 24 y ∧ ∀ y1 ∈ (y).l, HeldV.ok M y1) : Esp.Fn Try.prog 3 [Sl.val l, .int .i64 r, Sl.val all] M (fun _ v => v = .bool true) := by
  obtain ⟨l_a, l_c, l_l⟩ := l
  obtain ⟨all_a, all_c, all_l⟩ := all
  have k_l : SlK M PeerV.segs 21 ⟨l_a, l_c, l_l⟩ := hl0
  have s_l : SlM M l_a (l_l.map PeerV.segs) 21 := k_l.h1
  have n_l : (l_l.map PeerV.segs).length = l_l.length := List.length_map ..
  have m_l : l_l.length ≤ 9223372036854775807 := k_l.h2
  have c_l : l_l.length ≤ l_c := k_l.h3
  have k_all : SlK M (fun x => [Seg.one (Sl.val x)]) 1 ⟨all_a, all_c, all_l⟩ := hall1
  have s_all : SlM M all_a (all_l.map (fun x => [Seg.one (Sl.val x)])) 1 := k_all.h1
  have n_all : (all_l.map (fun x => [Seg.one (Sl.val x)])).length = all_l.length := List.length_map ..
  have m_all : all_l.length ≤ 9223372036854775807 := k_all.h2
  have c_all : all_l.length ≤ all_c := k_all.h3
  obtain ⟨⟨R1, e1⟩, hR1⟩ : ∃ x, healR l_l r (plss all_l) = x := ⟨_, rfl⟩
  refine fn_enter Try.func3 rfl Try.ntmps3 rfl ?_; intro H
  refine C_seq ?_
  refine C_region (l := [0]) rfl ?_
  refine Y_assign ?_
  refine XD_end ?_
  refine K_then ?_
  iterate 2 refine C_seq ?_
  refine C_region (l := [0, 1, 2, 3, 4, 5, 6]) rfl ?_
  refine Y_move ?_
  refine Y_len_sl F.elem22 ?_
  refine Y_cmp ?_
  refine Y_move ?_
  refine XD_part 14 rfl (fun hc1 => ?_) (fun hc1 => ?_)
  ·replace hc1 := dT hc1
   iterate 2 refine Y_skip ?_
   refine Y_pick ?_
   refine XD_end ?_
   refine K_then ?_
   refine Y_pk [17, 6, 0, 1, 2] ?_
   refine C_true rfl ?_
   refine C_seq ?_
   refine C_region (l := [0]) rfl ?_
   refine Y_assign ?_
   refine XD_end ?_
   refine K_then ?_
   refine Y_pk [6, 0, 1, 2] ?_
   refine C_ret ?_
   refine K_ret ?_
   refine K_end (.inr rfl) (.tmp rfl .nil) (fun w hw => ?_)
   refine ⟨_, _, rfl, (by exact Mem.le.refl _), hw.c, ?_⟩
   clear hw
   rfl
  ·replace hc1 := dF hc1
   refine Y_move ?_
   refine X_fs rfl rfl F.ok8 rfl (Many_ok _ ⟨all_a, all_c, all_l⟩ (k_all.mono (by exact Mem.le.refl _)) (fun y hy => ⟨(hall2 y hy).1.mono (by exact Mem.le.refl _), fun h hh => ((hall2 y hy).2 h hh).mono (by exact Mem.le.refl _)⟩)) rfl ?_
   rintro _ ⟨bb, rfl⟩
   refine Y_pick ?_
   refine XD_end ?_
   refine K_then ?_
   refine Y_pk [17, 6, 0, 1, 2] ?_
   refine C_cond rfl (fun hc2 => ?_) (fun hc2 => ?_)
   ·skip
    refine C_seq ?_
    refine C_region (l := [0]) rfl ?_
    refine Y_assign ?_
    refine XD_end ?_
    refine K_then ?_
    refine Y_pk [6, 0, 1, 2] ?_
    refine C_ret ?_
    refine K_ret ?_
    refine K_end (.inr rfl) (.tmp rfl .nil) (fun w hw => ?_)
    refine ⟨_, _, rfl, (by exact Mem.le.refl _), hw.c, ?_⟩
    clear hw
    rfl
   ·skip
    refine C_skip ?_
    refine K_then ?_
    refine Y_pk [6, 0, 1, 2] ?_
    refine C_seq ?_
    refine C_region (l := [0, 1, 2, 3, 4, 5, 6, 7, 8]) rfl ?_
    iterate 3 refine Y_move ?_
    refine X_fn rfl rfl F.ok9 rfl (Heal_ok _ ⟨l_a, l_c, l_l⟩ r ⟨all_a, all_c, all_l⟩ (k_l.mono (by exact Mem.le.refl _)) (k_all.mono (by exact Mem.le.refl _)) (fun y hy => ⟨(hall2 y hy).1.mono (by exact Mem.le.refl _), fun h hh => ((hall2 y hy).2 h hh).mono (by exact Mem.le.refl _)⟩)) rfl ?_
    rintro _ M1 hm1 hv
    replace hv : AllE _ _ (healR l_l r (plss all_l)) := hv
    rw [hR1] at hv
    obtain ⟨⟨x1_a, x1_c, x1_l⟩, rfl, g1, k1, o1⟩ := hv
    simp only at g1 o1
    refine Y_move ?_
    iterate 2 refine Y_extract ?_
    iterate 2 refine Y_assign ?_
    refine XD_end ?_
    refine K_then ?_
    refine Y_pk [8, 7, 6, 0, 1, 2] ?_
    refine C_seq ?_
    refine C_region (l := [0, 1, 2, 3, 4, 5, 6, 7, 8]) rfl ?_
    iterate 3 refine Y_move ?_
    refine X_fn rfl rfl F.ok10 rfl (rHeal_ok _ ⟨l_a, l_c, l_l⟩ r ⟨all_a, all_c, all_l⟩ (k_l.mono (by assumption)) (k_all.mono (by assumption)) (fun y hy => ⟨(hall2 y hy).1.mono (by assumption), fun h hh => ((hall2 y hy).2 h hh).mono (by assumption)⟩)) rfl ?_
    rintro _ M2 hm2 hv
    replace hv : AllE _ _ (healR l_l r (plss all_l)) := hv
    rw [hR1] at hv
    obtain ⟨⟨x2_a, x2_c, x2_l⟩, rfl, g2, k2, o2⟩ := hv
    simp only at g2 o2
    refine Y_move ?_
    iterate 2 refine Y_extract ?_
    iterate 2 refine Y_assign ?_
    refine XD_end ?_
    refine K_then ?_
    refine Y_pk [10, 9, 8, 7, 6, 0, 1, 2] ?_
    refine C_seq ?_
    refine C_region (l := [0, 1, 2, 3, 4, 5, 6, 7, 8, 9, 10, 11, 12, 13, 14, 15, 16, 17, 18, 19, 20, 21, 22]) rfl ?_
    refine X_fn rfl rfl F.ok11 rfl (healed_ok _) rfl ?_
    rintro _ M9 hm9 rfl
    refine Y_move ?_
    refine XD_part 33 rfl (fun hc3 => ?_) (fun hc3 => ?_)
    ·skip
     simp only [AnswerV.eta, MarkV.eta, CellV.eta, HeldV.eta, PeerV.eta] at hc3
     iterate 2 refine Y_move ?_
     refine X_fs rfl rfl F.ok12 rfl (All_ok _ ⟨x1_a, x1_c, x1_l⟩ ⟨x2_a, x2_c, x2_l⟩ (k1.mono (by (repeat first | assumption | refine Mem.le.trans (by assumption) ?_))) (fun y hy => ⟨(o1 y hy).1.mono (by (repeat first | assumption | refine Mem.le.trans (by assumption) ?_)), fun h hh => ((o1 y hy).2 h hh).mono (by (repeat first | assumption | refine Mem.le.trans (by assumption) ?_))⟩) (k2.mono (by assumption)) (fun y hy => ⟨(o2 y hy).1.mono (by assumption), fun h hh => ((o2 y hy).2 h hh).mono (by assumption)⟩)) rfl ?_
     rintro _ hv
     rw [decide_eq_true (g1.trans g2.symm)] at hv
     subst hv
     refine Y_pick ?_
     refine Y_move ?_
     refine XD_part 38 rfl (fun hc4 => ?_) (fun hc4 => ?_)
     ·skip
      simp only [AnswerV.eta, MarkV.eta, CellV.eta, HeldV.eta, PeerV.eta] at hc4
      iterate 2 refine Y_move ?_
      refine Y_cmp ?_
      refine Y_pick ?_
      refine Y_move ?_
      refine XD_part 43 rfl (fun hc5 => ?_) (fun hc5 => ?_)
      ·replace hc5 := dT hc5
       simp only [AnswerV.eta, MarkV.eta, CellV.eta, HeldV.eta, PeerV.eta] at hc5
       iterate 3 refine Y_move ?_
       refine X_fn rfl rfl F.ok13 rfl (Whole_ok _ ⟨l_a, l_c, l_l⟩ r ⟨all_a, all_c, all_l⟩ (k_l.mono (by (repeat first | assumption | refine Mem.le.trans (by assumption) ?_))) (k_all.mono (by (repeat first | assumption | refine Mem.le.trans (by assumption) ?_))) (fun y hy => ⟨(hall2 y hy).1.mono (by (repeat first | assumption | refine Mem.le.trans (by assumption) ?_)), fun h hh => ((hall2 y hy).2 h hh).mono (by (repeat first | assumption | refine Mem.le.trans (by assumption) ?_))⟩)) rfl ?_
       rintro _ M10 hm10 rfl
       iterate 3 refine Y_move ?_
       refine X_fn rfl rfl F.ok14 rfl (rWhole_ok _ ⟨l_a, l_c, l_l⟩ r ⟨all_a, all_c, all_l⟩ (k_l.mono (by (repeat first | assumption | refine Mem.le.trans (by assumption) ?_))) (k_all.mono (by (repeat first | assumption | refine Mem.le.trans (by assumption) ?_))) (fun y hy => ⟨(hall2 y hy).1.mono (by (repeat first | assumption | refine Mem.le.trans (by assumption) ?_)), fun h hh => ((hall2 y hy).2 h hh).mono (by (repeat first | assumption | refine Mem.le.trans (by assumption) ?_))⟩)) rfl ?_
       rintro _ M11 hm11 rfl
       refine X_eqb rfl rfl rfl rfl rfl Try.underlying4 rfl ?_
       refine Y_pick ?_
       refine Y_assign ?_
       refine XD_end ?_
       refine K_then ?_
       refine Y_pk [6] ?_
       refine C_ret ?_
       refine K_end (.inr rfl) (.tmp rfl .nil) (fun w hw => ?_)
       refine ⟨_, _, rfl, (by (repeat first | assumption | refine Mem.le.trans (by assumption) ?_)), hw.c, ?_⟩
       clear hw
       (simp; rfl)
      ·replace hc5 := dF hc5
       simp only [AnswerV.eta, MarkV.eta, CellV.eta, HeldV.eta, PeerV.eta] at hc5
       (exfalso; simp [eqX] at hc5; done)
     ·skip
      (exfalso; simp [eqX] at hc4; done)
    ·skip
     (exfalso; simp [eqX] at hc3; done)

end Go.Proofs.Ytbafnjniijodfaa
