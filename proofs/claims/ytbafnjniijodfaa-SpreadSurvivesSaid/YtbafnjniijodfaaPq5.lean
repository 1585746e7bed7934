/-
  Texts of this claim, one behind the other: T23, T24, T25, HealM, T26, T27, HealN, T28.
-/
import Derived.Test.YtbafnjniijodfaaPq4
/-
  Are stores whole, by the document.
-/
set_option linter.unusedSimpArgs false
set_option linter.unusedVariables false
set_option linter.unnecessarySimpa false
set_option maxRecDepth 8000
set_option maxHeartbeats 1000000
namespace Go.Proofs.Ytbafnjniijodfaa
open Go.Esp
theorem F.ok33 : okFn Try.prog 33 = true := by kernel_rfl
theorem F.ok34 : okFn Try.prog 34 = true := by kernel_rfl

theorem rWhole_ok (M : Mem) (l : (Sl PeerV)) (r : Int) (all : (Sl (Sl HeldV))) (hl0 : SlK M PeerV.segs 21 l) (hall1 : SlK M (fun x => [Seg.one (Sl.val x)]) 1 all) (hall2 : ∀ y ∈ (all).l, SlK M HeldV.segs 24 y ∧ ∀ y1 ∈ (y).l, HeldV.ok M y1) : Esp.Fn Try.prog 14 [Sl.val l, .int .i64 r, Sl.val all] M (fun M' v => v = .bool (decide (wholeR l.l r (plss all.l)))) := by
  obtain ⟨l_a, l_c, l_l⟩ := l
  obtain ⟨all_a, all_c, all_l⟩ := all
  have k_l : SlK M PeerV.segs 21 ⟨l_a, l_c, l_l⟩ := hl0
  have s_l : SlM M l_a (l_l.map PeerV.segs) 21 := k_l.h1
  have n_l : (l_l.map PeerV.segs).length = l_l.length := List.length_map ..
  have m_l : l_l.length ≤ 9223372036854775807 := k_l.h2
  have c_l : l_l.length ≤ l_c := k_l.h3
  have k_all : SlK M (fun x => [Seg.one (Sl.val x)]) 1 ⟨all_a, all_c, all_l⟩ := hall1
  have s_all : SlM M all_a (all_l.map (fun x => [Seg.one (Sl.val x)])) 1 := k_all.h1
  have n_all : (all_l.map (fun x => [Seg.one (Sl.val x)])).length = all_l.length := List.length_map ..
  have m_all : all_l.length ≤ 9223372036854775807 := k_all.h2
  have c_all : all_l.length ≤ all_c := k_all.h3
  refine fn_enter Try.func14 rfl Try.ntmps14 rfl ?_; intro H
  refine C_seq ?_
  refine C_region (l := [0]) rfl ?_
  refine Y_assign ?_
  refine XD_end ?_
  refine K_then ?_
  iterate 2 refine C_seq ?_
  refine C_region (l := [0, 1, 2, 3, 4]) rfl ?_
  iterate 3 refine Y_move ?_
  refine X_fs rfl rfl F.ok33 rfl (rCircSt_ok _ ⟨l_a, l_c, l_l⟩ r ⟨all_a, all_c, all_l⟩ (by assumption) (by assumption) (by assumption)) rfl ?_
  rintro _ rfl
  refine Y_not ?_
  refine XD_end ?_
  refine K_then ?_
  refine Y_pk [17, 6, 0, 1, 2] ?_
  refine C_cond rfl (fun hc1 => ?_) (fun hc1 => ?_)
  ·replace hc1 := nT hc1
   simp only [AnswerV.eta, MarkV.eta, CellV.eta, HeldV.eta, PeerV.eta] at hc1
   refine C_seq ?_
   refine C_region (l := [0]) rfl ?_
   refine Y_assign ?_
   refine XD_end ?_
   refine K_then ?_
   refine Y_pk [6, 0, 1, 2] ?_
   refine C_ret ?_
   refine K_ret ?_
   refine K_end (.inr rfl) (.tmp rfl .nil) (fun w hw => ?_)
   refine ⟨_, M, rfl, Mem.le.refl M, hw.c, ?_⟩
   clear hw
   refine congrArg Value.bool ?_
   exact (decide_eq_false (fun h9 => absurd h9.1 (by assumption))).symm
  ·replace hc1 := nF hc1
   simp only [AnswerV.eta, MarkV.eta, CellV.eta, HeldV.eta, PeerV.eta] at hc1
   refine C_skip ?_
   refine K_then ?_
   refine Y_pk [6, 0, 1, 2] ?_
   iterate 2 refine C_seq ?_
   have hcs : CircSt l_l r (plss all_l) := by assumption
   have hln := hcs.2.2.1
   rw [plss_len] at hln
   refine C_region (l := [0]) rfl ?_
   refine Y_assign ?_
   refine XD_end ?_
   refine K_then ?_
   refine C_block ?_
   refine Y_pk [7, 6, 0, 1, 2] ?_
   refine C_loopO (Hin := []) (.succ .zero) (by repeat first | exact Rem.here _ | exact Rem.two | apply Rem.skip | apply Rem.over) (fun (k : Nat) M1 h1 z => h1 = [] ∧ z = [(7, .int .i64 (k : Int))] ∧ k ≤ all_l.length ∧ ∀ i (hi : i < all_l.length), i < k → ∀ j (hj : j < all_l[i].l.length) n, n < all_l.length → W1 l_l r (plss all_l) (HeldV.pl all_l[i].l[j]) n) (fun k => all_l.length - k) (0) (⟨rfl, rfl, by omega, fun i hi h9 => by omega⟩) ?_
   rintro k M1 h1 z hm1 ⟨rfl, rfl, hk, hI⟩
   have s_all1 := s_all.mono hm1
   iterate 2 refine C_seq ?_
   refine C_region (l := [0, 1, 2, 3]) rfl ?_
   iterate 2 refine Y_move ?_
   refine Y_len_sl F.elem23 ?_
   refine Y_cmp ?_
   refine XD_end ?_
   refine K_then ?_
   refine C_cond rfl (fun hc2 => ?_) (fun hc2 => ?_)
   ·replace hc2 := dT hc2
    refine C_skip ?_
    refine K_then ?_
    refine C_seq ?_
    refine C_block ?_
    refine C_seq ?_
    obtain ⟨⟨q_a, q_c, q_l⟩, hq⟩ : ∃ q, all_l[k]'(by omega) = q := ⟨_, rfl⟩
    have hqm : (⟨q_a, q_c, q_l⟩ : Sl HeldV) ∈ all_l := by rw [← hq]; exact List.getElem_mem (by omega)
    obtain ⟨k_q, l_q⟩ := hall2 _ hqm
    try simp only at l_q
    have s_q1 := k_q.h1.mono hm1
    try simp only at s_q1
    have m_q : q_l.length ≤ 9223372036854775807 := k_q.h2
    have n_q : (q_l.map HeldV.segs).length = q_l.length := List.length_map ..
    refine C_region (l := [0]) rfl ?_
    refine Y_assign ?_
    refine XD_end ?_
    refine K_then ?_
    refine C_block ?_
    refine Y_pk [8, 21, 20, 19, 18, 7, 6, 0, 1, 2] ?_
    refine C_loopO (Hin := []) (.succ .zero) (by repeat first | exact Rem.here _ | exact Rem.two | apply Rem.skip | apply Rem.over) (fun (j : Nat) M2 h2 z => h2 = [] ∧ z = [(8, .int .i64 (j : Int))] ∧ j ≤ q_l.length ∧ ∀ j2 (hj : j2 < q_l.length), j2 < j → ∀ n, n < all_l.length → W1 l_l r (plss all_l) (HeldV.pl q_l[j2]) n) (fun j => q_l.length - j) (0) (⟨rfl, rfl, by omega, fun i hi h9 => by omega⟩) ?_
    rintro j M2 h2 z hm2 ⟨rfl, rfl, hj, hI1⟩
    have s_q2 := s_q1.mono hm2
    try simp only at s_q2
    have s_all2 := s_all1.mono hm2
    have hmm := hm1.trans hm2
    iterate 2 refine C_seq ?_
    refine C_region (l := [0, 1, 2, 3, 4, 5, 6]) rfl ?_
    iterate 3 refine Y_move ?_
    refine X_indexAddr rfl rfl rfl rfl F.elem23 (by rfl) (by omega) (by exact SlM.plain (by assumption) (by (simp; omega))) rfl ?_
    refine X_load_el rfl rfl rfl (by assumption) (by exact row_map (by omega)) F.lay31 rfl rfl rfl ?_
    rw [hq]
    refine Y_len_sl F.elem31 ?_
    refine Y_cmp ?_
    refine XD_end ?_
    refine K_then ?_
    refine C_cond rfl (fun hc3 => ?_) (fun hc3 => ?_)
    ·replace hc3 := dT hc3
     refine C_skip ?_
     refine K_then ?_
     refine C_seq ?_
     refine C_block ?_
     refine C_seq ?_
     refine C_region (l := [0, 1, 2, 3, 4, 5, 6, 7, 8]) rfl ?_
     iterate 2 refine Y_move ?_
     refine X_indexAddr rfl rfl rfl rfl F.elem23 (by rfl) (by omega) (by exact SlM.plain (by assumption) (by (simp; omega))) rfl ?_
     refine X_load_el rfl rfl rfl (by assumption) (by exact row_map (by omega)) F.lay31 rfl rfl rfl ?_
     rw [hq]
     refine Y_move ?_
     refine X_indexAddr rfl rfl rfl rfl F.elem31 (by rfl) (by omega) (by exact SlM.plain (by assumption) (by (simp; omega))) rfl ?_
     refine X_load_el rfl rfl rfl (by assumption) (by exact row_map (by omega)) F.lay49 rfl rfl rfl ?_
     refine Y_alloc F.zero49 ?_; intro b4
     refine Y_store F.lay49 ?_
     refine XD_end ?_
     refine K_then ?_
     refine C_seq ?_
     refine C_region (l := [0]) rfl ?_
     refine Y_assign ?_
     refine XD_end ?_
     refine K_then ?_
     refine C_block ?_
     refine Y_pk [10, 9, 39, 38, 37, 36, 35, 34, 33, 30, 29, 28, 27, 26, 25, 24, 8, 21, 20, 19, 18, 7, 6, 0, 1, 2] ?_
     refine C_loopO (Hin := []) (.succ .zero) (by repeat first | exact Rem.here _ | exact Rem.two | apply Rem.skip | apply Rem.over) (fun (n : Nat) M4 h4 z => h4 = [] ∧ z = [(10, .int .i64 (n : Int))] ∧ n ≤ all_l.length ∧ ∀ n2, n2 < n → W1 l_l r (plss all_l) (HeldV.pl q_l[j]) n2) (fun n => all_l.length - n) (0) (⟨rfl, rfl, by omega, fun n2 h9 => by omega⟩) ?_
     rintro n M4 h4 z hm4 ⟨rfl, rfl, hn, hI2⟩
     have hmm4 := hmm.trans hm4
     have s_all4 := s_all.mono hmm4
     iterate 2 refine C_seq ?_
     refine C_region (l := [0, 1, 2, 3]) rfl ?_
     iterate 2 refine Y_move ?_
     refine Y_len_sl F.elem22 ?_
     refine Y_cmp ?_
     refine XD_end ?_
     refine K_then ?_
     refine C_cond rfl (fun hc5 => ?_) (fun hc5 => ?_)
     ·replace hc5 := dT hc5
      refine C_skip ?_
      refine K_then ?_
      refine C_seq ?_
      refine C_block ?_
      refine C_seq ?_
      refine C_region_any (l := [0, 1, 2, 3, 4, 5, 6, 7, 8, 9, 10, 11, 12]) #[0, 0, 3, 7, 0, 16, 63, 127, 255, 255, 0, 1535, 4095] _ rfl (by kernel_rfl) (by kernel_rfl) St.drawn (fun _ h => h) ?_
      iterate 2 refine Y_move ?_
      refine X_indexAddr rfl rfl rfl rfl F.elem23 (by rfl) (by omega) (by exact SlM.plain (by assumption) (by (simp; omega))) rfl ?_
      refine X_load_el rfl rfl rfl (by assumption) (by exact row_map (by omega)) F.lay31 rfl rfl rfl ?_
      obtain ⟨⟨t_a, t_c, t_l⟩, ht⟩ : ∃ t, all_l[n]'(by omega) = t := ⟨_, rfl⟩
      rw [ht]
      have htm : (⟨t_a, t_c, t_l⟩ : Sl HeldV) ∈ all_l := by rw [← ht]; exact List.getElem_mem (by omega)
      obtain ⟨k_t, l_t⟩ := hall2 _ htm
      try simp only at l_t
      refine Y_fieldAddr F.foff49_0 ?_
      refine Y_load F.lay33 ?_
      refine X_fs rfl rfl F.ok18 rfl (rFind_ok _ ⟨t_a, t_c, t_l⟩ q_l[j].key (k_t.mono hmm4) (fun y hy => (l_t y hy).mono (by assumption))) rfl ?_
      rintro _ hv
      obtain ⟨⟨xc, xb⟩, hx⟩ : ∃ r, findX t_l q_l[j].key = r := ⟨_, rfl⟩
      replace hv : _ = findXv (findX t_l q_l[j].key) := hv
      rw [hx] at hv
      subst hv
      have hx9 : findX (all_l[n]'(by omega)).l q_l[j].key = (xc, xb) := by rw [ht]; exact hx
      have hW := W1_iff (l := l_l) (r := r) (A := all_l) (h := q_l[j]) (show n < all_l.length by omega) hx9
      obtain ⟨x_v, x_h, x_s, ⟨x_a, x_c, x_l⟩⟩ := xc
      refine Y_move ?_
      iterate 2 refine Y_extract ?_
      refine Y_alloc F.zero37 ?_; intro b6
      refine Y_store F.lay37 ?_
      refine Y_assign ?_
      refine XD_end ?_
      refine K_then ?_
      refine C_seq ?_
      have okx : xb = true → CellV.ok M4 ⟨x_v, x_h, x_s, ⟨x_a, x_c, x_l⟩⟩ := fun hb => by
       obtain ⟨y, g1, g2, g3⟩ := findX_mem (l := t_l) (k := q_l[j].key) (by rw [hx]; exact hb)
       rw [hx] at g3
       have := ((l_t y g1).mono hmm4).h0
       rw [g3] at this
       exact this
      refine C_region (l := [0, 1, 2, 3, 4, 5, 6, 7, 8, 9, 10, 11, 12, 13, 14, 15, 16, 17]) rfl ?_
      iterate 4 refine Y_move ?_
      refine Y_fieldAddr F.foff49_0 ?_
      refine Y_load F.lay33 ?_
      refine X_fn rfl rfl F.ok34 rfl (Keeps_ok _ ⟨l_a, l_c, l_l⟩ r (n : Int) q_l[j].key (k_l.mono hmm4)) rfl ?_
      rintro _ M5 hm5 hv
      obtain ⟨kb, hkb⟩ : ∃ b, keepsR l_l r (n : Int) q_l[j].key = b := ⟨_, rfl⟩
      replace hv : _ = Value.bool (keepsR l_l r (n : Int) q_l[j].key) := hv
      rw [hkb] at hv
      subst hv
      refine X_eqb rfl rfl rfl rfl rfl Try.underlying4 rfl ?_
      refine Y_move ?_
      refine XD_part 64 rfl (fun hc7 => ?_) (fun hc7 => ?_)
      ·replace hc7 := nT hc7
       simp only [AnswerV.eta, MarkV.eta, CellV.eta, HeldV.eta, PeerV.eta] at hc7
       iterate 8 refine Y_skip ?_
       refine Y_pick ?_
       refine XD_end ?_
       refine K_then ?_
       refine C_true rfl ?_
       refine C_seq ?_
       refine C_region (l := [0]) rfl ?_
       refine Y_assign ?_
       refine XD_end ?_
       refine K_then ?_
       refine C_ret ?_
       refine K_retB ?_
       iterate 2 refine K_ret ?_
       iterate 2 refine K_retB ?_
       iterate 2 refine K_ret ?_
       iterate 2 refine K_retB ?_
       iterate 2 refine K_ret ?_
       refine K_retB ?_
       refine K_ret ?_
       refine K_end (.inr rfl) (.tmp rfl .nil) (fun w hw => ?_)
       refine ⟨_, M5, rfl, (hmm4.trans hm5), hw.c, ?_⟩
       clear hw
       refine congrArg Value.bool ?_
       refine (decide_eq_false (fun h9 => ?_)).symm
       refine wholeW_no (i := k) (j := j) (n := n) (show k < all_l.length by omega) (by rw [hq]; show j < q_l.length; omega) (fun h8 => ?_) h9.2
       have e9 := congrArg Sl.l hq
       simp only at e9
       simp only [e9] at h8
       obtain ⟨g1, g2⟩ := hW.1 h8
       simp_all [CellV.pl]
      ·replace hc7 := nF hc7
       simp only [AnswerV.eta, MarkV.eta, CellV.eta, HeldV.eta, PeerV.eta] at hc7
       iterate 2 refine Y_move ?_
       refine XD_part 66 rfl (fun hc8 => ?_) (fun hc8 => ?_)
       ·skip
        simp only [AnswerV.eta, MarkV.eta, CellV.eta, HeldV.eta, PeerV.eta] at hc8
        refine Y_load F.lay37 ?_
        refine Y_fieldAddr F.foff49_1 ?_
        refine Y_load F.lay37 ?_
        refine X_fs rfl rfl F.ok25 rfl (SameC_ok _ ⟨x_v, x_h, x_s, ⟨x_a, x_c, x_l⟩⟩ q_l[j].cell ((okx (by assumption)).mono hm5) ((l_q _ (List.getElem_mem (by omega))).h0.mono (hmm4.trans hm5))) rfl ?_
        rintro _ rfl
        refine Y_not ?_
        iterate 2 refine Y_pick ?_
        refine XD_end ?_
        refine K_then ?_
        refine C_cond rfl (fun hc9 => ?_) (fun hc9 => ?_)
        ·replace hc9 := nT hc9
         refine C_seq ?_
         refine C_region (l := [0]) rfl ?_
         refine Y_assign ?_
         refine XD_end ?_
         refine K_then ?_
         refine C_ret ?_
         refine K_retB ?_
         iterate 2 refine K_ret ?_
         iterate 2 refine K_retB ?_
         iterate 2 refine K_ret ?_
         iterate 2 refine K_retB ?_
         iterate 2 refine K_ret ?_
         refine K_retB ?_
         refine K_ret ?_
         refine K_end (.inr rfl) (.tmp rfl .nil) (fun w hw => ?_)
         refine ⟨_, M5, rfl, (hmm4.trans hm5), hw.c, ?_⟩
         clear hw
         refine congrArg Value.bool ?_
         refine (decide_eq_false (fun h9 => ?_)).symm
         refine wholeW_no (i := k) (j := j) (n := n) (show k < all_l.length by omega) (by rw [hq]; show j < q_l.length; omega) (fun h8 => ?_) h9.2
         have e9 := congrArg Sl.l hq
         simp only at e9
         simp only [e9] at h8
         obtain ⟨g1, g2⟩ := hW.1 h8
         simp_all [CellV.pl]
        ·replace hc9 := nF hc9
         refine C_skip ?_
         refine K_out ?_
         refine K_then ?_
         refine C_region (l := [0, 1, 2]) rfl ?_
         refine Y_move ?_
         refine X_ari rfl rfl rfl rfl rfl (by exact wrap_in (by decide) (by omega)) rfl ?_
         refine Y_assign ?_
         refine XD_end ?_
         refine K_roundO (a' := [(10, _)]) (n + 1) ([]) (.cons (k := 10) rfl (.cons (k := 9) rfl (.cons (k := 39) rfl (.cons (k := 38) rfl (.cons (k := 37) rfl (.cons (k := 36) rfl (.cons (k := 35) rfl (.cons (k := 34) rfl (.cons (k := 33) rfl (.cons (k := 30) rfl (.cons (k := 29) rfl (.cons (k := 28) rfl (.cons (k := 27) rfl (.cons (k := 26) rfl (.cons (k := 25) rfl (.cons (k := 24) rfl (.cons (k := 8) rfl (.cons (k := 21) rfl (.cons (k := 20) rfl (.cons (k := 19) rfl (.cons (k := 18) rfl (.cons (k := 7) rfl (.cons (k := 6) rfl (.cons (k := 0) rfl (.cons (k := 1) rfl (.cons (k := 2) rfl (.nil))))))))))))))))))))))))))) (hm4.trans hm5) (fun w hw => by first | exact hw | exact hw.c) ?_ ?_
         ·refine ⟨rfl, rfl, by omega, fun n2 h9 => ?_⟩
          rcases Nat.lt_or_ge n2 n with h8 | h8
          ·exact hI2 n2 h8
          ·have hik : n2 = n := by omega
           subst hik
           refine hW.2 ⟨?_, ?_⟩
           ·simp_all
           ·simp_all [CellV.pl]
         ·omega
       ·skip
        simp only [AnswerV.eta, MarkV.eta, CellV.eta, HeldV.eta, PeerV.eta] at hc8
        iterate 5 refine Y_skip ?_
        iterate 2 refine Y_pick ?_
        refine XD_end ?_
        refine K_then ?_
        refine C_false rfl ?_
        refine C_skip ?_
        refine K_out ?_
        refine K_then ?_
        refine C_region (l := [0, 1, 2]) rfl ?_
        refine Y_move ?_
        refine X_ari rfl rfl rfl rfl rfl (by exact wrap_in (by decide) (by omega)) rfl ?_
        refine Y_assign ?_
        refine XD_end ?_
        refine K_roundO (a' := [(10, _)]) (n + 1) ([]) (.cons (k := 10) rfl (.cons (k := 9) rfl (.cons (k := 39) rfl (.cons (k := 38) rfl (.cons (k := 37) rfl (.cons (k := 36) rfl (.cons (k := 35) rfl (.cons (k := 34) rfl (.cons (k := 33) rfl (.cons (k := 30) rfl (.cons (k := 29) rfl (.cons (k := 28) rfl (.cons (k := 27) rfl (.cons (k := 26) rfl (.cons (k := 25) rfl (.cons (k := 24) rfl (.cons (k := 8) rfl (.cons (k := 21) rfl (.cons (k := 20) rfl (.cons (k := 19) rfl (.cons (k := 18) rfl (.cons (k := 7) rfl (.cons (k := 6) rfl (.cons (k := 0) rfl (.cons (k := 1) rfl (.cons (k := 2) rfl (.nil))))))))))))))))))))))))))) (hm4.trans hm5) (fun w hw => by first | exact hw | exact hw.c) ?_ ?_
        ·refine ⟨rfl, rfl, by omega, fun n2 h9 => ?_⟩
         rcases Nat.lt_or_ge n2 n with h8 | h8
         ·exact hI2 n2 h8
         ·have hik : n2 = n := by omega
          subst hik
          refine hW.2 ⟨?_, ?_⟩
          ·simp_all
          ·simp_all [CellV.pl]
        ·omega
     ·replace hc5 := dF hc5
      refine C_exit ?_
      iterate 2 refine K_exit ?_
      refine K_hit ?_
      refine K_out ?_
      refine K_then ?_
      refine C_region (l := [0, 1, 2]) rfl ?_
      refine Y_move ?_
      refine X_ari rfl rfl rfl rfl rfl (by exact wrap_in (by decide) (by omega)) rfl ?_
      refine Y_assign ?_
      refine XD_end ?_
      refine K_roundO (a' := [(8, _)]) (j + 1) ([]) (.cons (k := 8) rfl (.cons (k := 21) rfl (.cons (k := 20) rfl (.cons (k := 19) rfl (.cons (k := 18) rfl (.cons (k := 7) rfl (.cons (k := 6) rfl (.cons (k := 0) rfl (.cons (k := 1) rfl (.cons (k := 2) rfl (.nil))))))))))) (hm2.trans hm4) (fun w hw => by first | exact hw | exact hw.c) ?_ ?_
      ·refine ⟨rfl, rfl, by omega, fun j2 hj2 h9 => ?_⟩
       rcases Nat.lt_or_ge j2 j with h8 | h8
       ·exact hI1 j2 hj2 h8
       ·have hik : j2 = j := by omega
        subst hik
        exact fun n2 hn2 => hI2 n2 (by omega)
      ·omega
    ·replace hc3 := dF hc3
     refine C_exit ?_
     iterate 2 refine K_exit ?_
     refine K_hit ?_
     refine K_out ?_
     refine K_then ?_
     refine C_region (l := [0, 1, 2]) rfl ?_
     refine Y_move ?_
     refine X_ari rfl rfl rfl rfl rfl (by exact wrap_in (by decide) (by omega)) rfl ?_
     refine Y_assign ?_
     refine XD_end ?_
     refine K_roundO (a' := [(7, _)]) (k + 1) ([]) (.cons (k := 7) rfl (.cons (k := 6) rfl (.cons (k := 0) rfl (.cons (k := 1) rfl (.cons (k := 2) rfl (.nil)))))) (hm1.trans hm2) (fun w hw => by first | exact hw | exact hw.c) ?_ ?_
     ·refine ⟨rfl, rfl, by omega, fun i hi h9 => ?_⟩
      rcases Nat.lt_or_ge i k with h8 | h8
      ·exact hI i hi h8
      ·have hik : i = k := by omega
       subst hik
       intro j2 hj2 n hn9
       have e9 := congrArg Sl.l hq
       simp only at e9
       have hj3 : j2 < q_l.length := by rw [← e9]; exact hj2
       have := hI1 j2 hj3 (by omega) n hn9
       simpa only [e9] using this
     ·omega
   ·replace hc2 := dF hc2
    refine C_exit ?_
    iterate 2 refine K_exit ?_
    refine K_hit ?_
    refine K_then ?_
    refine Y_pk [6] ?_
    refine C_seq ?_
    refine C_region (l := [0]) rfl ?_
    refine Y_assign ?_
    refine XD_end ?_
    refine K_then ?_
    refine C_ret ?_
    refine K_end (.inr rfl) (.tmp rfl .nil) (fun w hw => ?_)
    refine ⟨_, M1, rfl, hm1, hw.c, ?_⟩
    clear hw
    refine congrArg Value.bool ?_
    refine (decide_eq_true ⟨by assumption, wholeW_yes fun i hi j hj n hn9 => ?_⟩).symm
    obtain rfl : k = all_l.length := by omega
    exact hI i hi hi j hj n hn9

end Go.Proofs.Ytbafnjniijodfaa
/-
  Stores healed by the document.
-/
set_option linter.unusedSimpArgs false
set_option linter.unusedVariables false
set_option linter.unnecessarySimpa false
set_option maxRecDepth 8000
set_option maxHeartbeats 1000000
namespace Go.Proofs.Ytbafnjniijodfaa
open Go.Esp


theorem blend_cases {s t B : List Hd} {e : Int} (hs : IsSt s) (ht : IsSt t) (h : blendR s t = (B, e)) : (e = 12 ∧ 2000 < (t.foldl (blendS mergedT) s).length) ∨ (e = 0 ∧ B = t.foldl (blendS mergedT) s ∧ IsSt B) := by
  unfold blendR at h
  rw [if_pos ⟨hs, ht⟩] at h
  split at h
  ·cases h; exact .inl ⟨rfl, by assumption⟩
  ·cases h; exact .inr ⟨rfl, rfl, Nat.not_lt.1 (by assumption), foldB_ok mergedT_keeps hs.2 ht.2.1⟩
theorem ofS_le {two : Cel → Cel → Cel} {all : List (List Hd)} (k : Nat) : (ofS two (all.take k)).length ≤ (ofS two all).length := by
  have e : ofS two all = (all.drop k).flatten.foldl (blendS two) (ofS two (all.take k)) := by
   unfold ofS
   rw [← List.foldl_append, ← List.flatten_append, List.take_append_drop]
  rw [e]
  exact foldB_len.1
theorem filt_step {l : List PeerV} {r : Int} {i : Nat} {S : List HeldV} {j : Nat} (hj : j < S.length) : filt l r i (S.take (j + 1)) = filt l r i (S.take j) ++ if keepsR l r (i : Int) S[j].key then [S[j]] else [] := by
  unfold filt
  rw [List.take_add_one, List.getElem?_eq_getElem hj, List.filter_append]
  congr 1
  simp only [Option.toList_some, List.filter_cons, List.filter_nil]
theorem AllE.healed2 {M M' : Mem} {l : List PeerV} {r : Int} {all : List (List Hd)} {S : List HeldV} {ss : List (Sl HeldV)} {a : Option Addr} {c : Nat} (hc : CircSt l r all) (hS : pls S = ofS mergedT all) (hn : ¬ 2000 < S.length) (hs : ss.map (fun s => s.l) = (List.range l.length).map fun i => filt l r i S)
   (hk : SlK M' (fun x => [.one (Sl.val x)]) 1 (⟨a, c, ss⟩ : Sl (Sl HeldV))) (hss : ∀ s ∈ ss, SlK M' HeldV.segs 24 s) (hok : ∀ h ∈ S, HeldV.ok M h) (hm : M.le M') : AllE M' (.tuple #[(⟨a, c, ss⟩ : Sl (Sl HeldV)).val, .int .i64 0]) (healR l r all) := by
  have he : healR l r all = ((List.range l.length).map fun i : Nat => (ofS mergedT all).filter fun h => keepsR l r (i : Int) h.key, 0) := by
   unfold healR
   rw [if_pos hc, if_neg (by rw [← hS, pls_len]; exact hn)]
  rw [he]
  refine ⟨⟨a, c, ss⟩, rfl, ?_, hk, fun y hy => ⟨hss y hy, fun h hh => ?_⟩⟩
  ·have h9 := congrArg (List.map pls) hs
   rw [List.map_map, List.map_map] at h9
   refine Eq.trans h9 (List.map_congr_left fun i _ => ?_)
   show pls (filt l r i S) = _
   rw [filt_pls, hS]
  ·have h8 : y.l ∈ ss.map (fun s => s.l) := List.mem_map_of_mem hy
   rw [hs] at h8
   obtain ⟨i, _, h7⟩ := List.mem_map.1 h8
   replace hh : h ∈ y.l := hh
   rw [← h7] at hh
   exact (hok h (List.mem_filter.1 hh).1).mono hm

theorem rHeal_ok (M : Mem) (l : (Sl PeerV)) (r : Int) (all : (Sl (Sl HeldV))) (hl0 : SlK M PeerV.segs 21 l) (hall1 : SlK M (fun x => [Seg.one (Sl.val x)]) 1 all) (hall2 : ∀ y ∈ (all).l, SlK M HeldV.segs 24 y ∧ ∀ y1 ∈ (y).l, HeldV.ok M y1) : Esp.Fn Try.prog 10 [Sl.val l, .int .i64 r, Sl.val all] M (fun M' v => AllE M' v (healR l.l r (plss all.l))) := by
  obtain ⟨l_a, l_c, l_l⟩ := l
  obtain ⟨all_a, all_c, all_l⟩ := all
  have k_l : SlK M PeerV.segs 21 ⟨l_a, l_c, l_l⟩ := hl0
  have s_l : SlM M l_a (l_l.map PeerV.segs) 21 := k_l.h1
  have n_l : (l_l.map PeerV.segs).length = l_l.length := List.length_map ..
  have m_l : l_l.length ≤ 9223372036854775807 := k_l.h2
  have c_l : l_l.length ≤ l_c := k_l.h3
  have k_all : SlK M (fun x => [Seg.one (Sl.val x)]) 1 ⟨all_a, all_c, all_l⟩ := hall1
  have s_all : SlM M all_a (all_l.map (fun x => [Seg.one (Sl.val x)])) 1 := k_all.h1
  have n_all : (all_l.map (fun x => [Seg.one (Sl.val x)])).length = all_l.length := List.length_map ..
  have m_all : all_l.length ≤ 9223372036854775807 := k_all.h2
  have c_all : all_l.length ≤ all_c := k_all.h3
  show Esp.Fn _ _ _ _ (fun M' v => AllE M' v (healR l_l r (plss all_l)))
  refine fn_enter Try.func10 rfl Try.ntmps10 rfl ?_; intro H
  refine C_seq ?_
  refine C_region (l := [0, 1]) rfl ?_
  iterate 2 refine Y_assign ?_
  refine XD_end ?_
  refine K_then ?_
  iterate 2 refine C_seq ?_
  refine C_region (l := [0, 1, 2, 3, 4]) rfl ?_
  iterate 3 refine Y_move ?_
  refine X_fs rfl rfl F.ok33 rfl (rCircSt_ok _ ⟨l_a, l_c, l_l⟩ r ⟨all_a, all_c, all_l⟩ (by assumption) (by assumption) (by assumption)) rfl ?_
  rintro _ rfl
  refine Y_not ?_
  refine XD_end ?_
  refine K_then ?_
  refine Y_pk [20, 7, 6, 0, 1, 2] ?_
  refine C_cond rfl (fun hc1 => ?_) (fun hc1 => ?_)
  ·replace hc1 := nT hc1
   simp only [AnswerV.eta, MarkV.eta, CellV.eta, HeldV.eta, PeerV.eta] at hc1
   refine C_seq ?_
   refine C_region (l := [0, 1]) rfl ?_
   iterate 2 refine Y_assign ?_
   refine XD_end ?_
   refine K_then ?_
   refine Y_pk [7, 6, 0, 1, 2] ?_
   refine C_ret ?_
   refine K_ret ?_
   refine K_end (.inr rfl) (.tmp rfl (.tmp rfl .nil)) (fun w hw => ?_)
   refine ⟨_, M, rfl, Mem.le.refl M, hw.c, ?_⟩
   rw [show healR l_l r (plss all_l) = ([], 1) from if_neg (by assumption)]
   exact AllE.nil
  ·replace hc1 := nF hc1
   simp only [AnswerV.eta, MarkV.eta, CellV.eta, HeldV.eta, PeerV.eta] at hc1
   refine C_skip ?_
   refine K_then ?_
   refine Y_pk [7, 6, 0, 1, 2] ?_
   refine C_seq ?_
   have hcs : CircSt l_l r (plss all_l) := by assumption
   have hl9 : l_l.length ≤ 16 := hcs.1.1.2
   have hcel : ∀ s ∈ plss all_l, ∀ x ∈ s, IsCel x.cell := fun s hs x hx => (hcs.2.2.2 s hs).2.1 x hx
   refine C_region (l := [0]) rfl ?_
   refine Y_assign ?_
   refine XD_end ?_
   refine K_then ?_
   iterate 2 refine C_seq ?_
   refine C_region (l := [0]) rfl ?_
   refine Y_assign ?_
   refine XD_end ?_
   refine K_then ?_
   refine C_block ?_
   refine Y_pk [9, 8, 7, 6, 0, 1, 2] ?_
   refine C_loopO (Hin := []) (.succ (.succ .zero)) (by repeat first | exact Rem.here _ | exact Rem.two | apply Rem.skip | apply Rem.over) (fun (k : Nat) M1 h1 z => ∃ q : Sl HeldV, h1 = [] ∧ z = [(9, .int .i64 (k : Int)), (8, Sl.val q)] ∧ k ≤ all_l.length ∧ pls q.l = ofS mergedT ((plss all_l).take k) ∧ IsSt (pls q.l) ∧ SlK M1 HeldV.segs 24 q ∧ ∀ h ∈ q.l, HeldV.ok M1 h) (fun k => all_l.length - k) (0) (⟨⟨none, 0, []⟩, rfl, rfl, by omega, by simp [ofS, pls], of_decide_eq_true (by decide), SlK.nil, fun h hh => by cases hh⟩) ?_
   rintro k M1 h1 z hm1 ⟨⟨q_a, q_c, q_l⟩, rfl, rfl, hk, hql, hqs, k_q, l_q⟩
   try simp only at hql hqs l_q
   have s_all1 := s_all.mono hm1
   iterate 2 refine C_seq ?_
   refine C_region (l := [0, 1, 2, 3]) rfl ?_
   iterate 2 refine Y_move ?_
   refine Y_len_sl F.elem23 ?_
   refine Y_cmp ?_
   refine XD_end ?_
   refine K_then ?_
   refine C_cond rfl (fun hc2 => ?_) (fun hc2 => ?_)
   ·replace hc2 := dT hc2
    refine C_skip ?_
    refine K_then ?_
    refine C_seq ?_
    refine C_block ?_
    refine C_seq ?_
    refine C_region (l := [0, 1, 2, 3, 4, 5, 6, 7, 8, 9, 10]) rfl ?_
    iterate 3 refine Y_move ?_
    refine X_indexAddr rfl rfl rfl rfl F.elem23 (by rfl) (by omega) (by exact SlM.plain (by assumption) (by (simp; omega))) rfl ?_
    refine X_load_el rfl rfl rfl (by assumption) (by exact row_map (by omega)) F.lay31 rfl rfl rfl ?_
    obtain ⟨⟨t_a, t_c, t_l⟩, ht⟩ : ∃ t, all_l[k]'(by omega) = t := ⟨_, rfl⟩
    rw [ht]
    have htm : (⟨t_a, t_c, t_l⟩ : Sl HeldV) ∈ all_l := by rw [← ht]; exact List.getElem_mem (by omega)
    obtain ⟨k_t, l_t⟩ := hall2 _ htm
    try simp only at l_t
    have hts : IsSt (pls t_l) := hcs.2.2.2 _ (List.mem_map_of_mem (f := fun s : Sl HeldV => pls s.l) htm)
    refine X_fn rfl rfl F.ok22 rfl (rBlend_ok _ ⟨q_a, q_c, q_l⟩ ⟨t_a, t_c, t_l⟩ k_q l_q (k_t.mono hm1) (fun y hy => (l_t y hy).mono hm1)) rfl ?_
    rintro _ M2 hm2 hv
    obtain ⟨⟨BL, be⟩, hb⟩ : ∃ x, blendR (pls q_l) (pls t_l) = x := ⟨_, rfl⟩
    have hbc := blend_cases hqs hts hb
    replace hv : StE _ _ (blendR (pls q_l) (pls t_l)) := hv
    rw [hb] at hv
    obtain ⟨⟨u_a, u_c, u_l⟩, rfl, hu, k_u, l_u⟩ := hv
    try simp only at hu l_u
    refine Y_move ?_
    iterate 2 refine Y_extract ?_
    iterate 2 refine Y_assign ?_
    refine XD_end ?_
    refine K_then ?_
    iterate 2 refine C_seq ?_
    refine C_region (l := [0, 1]) rfl ?_
    refine Y_move ?_
    refine Y_cmp ?_
    refine XD_end ?_
    refine K_then ?_
    refine C_cond rfl (fun hc3 => ?_) (fun hc3 => ?_)
    ·replace hc3 := nT hc3
     simp only [AnswerV.eta, MarkV.eta, CellV.eta, HeldV.eta, PeerV.eta] at hc3
     refine C_seq ?_
     refine C_region (l := [0, 1, 2]) rfl ?_
     refine Y_move ?_
     iterate 2 refine Y_assign ?_
     refine XD_end ?_
     refine K_then ?_
     refine C_ret ?_
     refine K_ret ?_
     refine K_retB ?_
     iterate 2 refine K_ret ?_
     refine K_retB ?_
     refine K_ret ?_
     refine K_end (.inr rfl) (.tmp rfl (.tmp rfl .nil)) (fun w hw => ?_)
     refine ⟨_, M2, rfl, hm1.trans hm2, hw.c, ?_⟩
     rcases hbc with ⟨h9, h8⟩ | ⟨h9, _⟩
     ·rw [h9, show healR l_l r (plss all_l) = ([], 12) from by
       unfold healR; rw [if_pos hcs, if_pos ?_]
       rw [hql] at h8
       have h7 := ofS_step (two := mergedT) (all := plss all_l) (k := k) (by rw [plss_len]; omega)
       rw [plss_at (by omega), ht] at h7
       rw [← h7] at h8
       exact Nat.lt_of_lt_of_le h8 (ofS_le _)]
      exact AllE.nil
     ·exfalso; omega
    ·replace hc3 := nF hc3
     simp only [AnswerV.eta, MarkV.eta, CellV.eta, HeldV.eta, PeerV.eta] at hc3
     refine C_skip ?_
     refine K_then ?_
     refine C_region (l := [0, 1]) rfl ?_
     refine Y_move ?_
     refine Y_assign ?_
     refine XD_end ?_
     refine K_out ?_
     refine K_then ?_
     refine C_region (l := [0, 1, 2]) rfl ?_
     refine Y_move ?_
     refine X_ari rfl rfl rfl rfl rfl (by exact wrap_in (by decide) (by omega)) rfl ?_
     refine Y_assign ?_
     refine XD_end ?_
     refine K_roundO (a' := [(9, _), (8, _)]) (k + 1) ([]) (.cons (k := 9) rfl (.cons (k := 8) rfl (.cons (k := 7) rfl (.cons (k := 6) rfl (.cons (k := 0) rfl (.cons (k := 1) rfl (.cons (k := 2) rfl (.nil)))))))) (hm1.trans hm2) (fun w hw => by first | exact hw | exact hw.c) ?_ ?_
     ·rcases hbc with ⟨h9, _⟩ | ⟨_, h8, h7⟩
      ·exfalso; omega
      ·refine ⟨⟨u_a, u_c, u_l⟩, rfl, rfl, by omega, ?_, by rw [hu]; exact h7, k_u, l_u⟩
       rw [ofS_step (by rw [plss_len]; omega), ← hql, plss_at (by omega), ht]
       exact hu.trans h8
     ·omega
   ·replace hc2 := dF hc2
    refine C_exit ?_
    iterate 2 refine K_exit ?_
    refine K_hit ?_
    refine K_then ?_
    refine Y_pk [8, 7, 6, 0, 1] ?_
    refine C_seq ?_
    obtain rfl : k = all_l.length := by omega
    rw [List.take_of_length_le (by rw [plss_len]; omega)] at hql
    have hn9 : ¬ 2000 < q_l.length := by have := hqs.1; rw [pls_len] at this; omega
    have s_q := k_q.h1
    try simp only at s_q
    have m_q : q_l.length ≤ 9223372036854775807 := k_q.h2
    have n_q : (q_l.map HeldV.segs).length = q_l.length := List.length_map ..
    refine C_region (l := [0]) rfl ?_
    refine Y_assign ?_
    refine XD_end ?_
    refine K_then ?_
    iterate 2 refine C_seq ?_
    refine C_region (l := [0]) rfl ?_
    refine Y_assign ?_
    refine XD_end ?_
    refine K_then ?_
    refine C_block ?_
    refine Y_pk [13, 12, 8, 7, 6, 0, 1] ?_
    refine C_loopO (Hin := []) (.succ (.succ .zero)) (by repeat first | exact Rem.here _ | exact Rem.two | apply Rem.skip | apply Rem.over) (fun (i : Nat) M3 h3 z => ∃ (ss : List (Sl HeldV)) (v : Value), z = [(13, .int .i64 (i : Int)), (12, v)] ∧ i ≤ l_l.length ∧ OSl 31 1 v h3 (ss.map fun s : Sl HeldV => ([.one (Sl.val s)] : Segs)) ∧ (ss.map (fun s => s.l) = (List.range i).map fun i => filt l_l r i q_l) ∧ ∀ s ∈ ss, SlK M3 HeldV.segs 24 s) (fun i => l_l.length - i) (0) (⟨[], _, rfl, by omega, OSl.nil, rfl, fun s hs => by cases hs⟩) ?_
    rintro i M3 h3 z hm3 ⟨ss, v3, rfl, hi, ho3, hss, k_ss⟩
    obtain ⟨ad3, cp3, rfl⟩ := ho3.val
    have hsl : ss.length = i := by have h9 := congrArg List.length hss; simpa using h9
    have hsm : ((ss.map fun s : Sl HeldV => ([.one (Sl.val s)] : Segs))).length = ss.length := List.length_map ..
    have s_q3 := s_q.mono hm3
    iterate 2 refine C_seq ?_
    refine C_region (l := [0, 1, 2, 3]) rfl ?_
    iterate 2 refine Y_move ?_
    refine Y_len_sl F.elem22 ?_
    refine Y_cmp ?_
    refine XD_end ?_
    refine K_then ?_
    refine C_cond rfl (fun hc4 => ?_) (fun hc4 => ?_)
    ·replace hc4 := dT hc4
     refine C_skip ?_
     refine K_then ?_
     refine C_seq ?_
     refine C_block ?_
     refine C_seq ?_
     refine C_region (l := [0]) rfl ?_
     refine Y_assign ?_
     refine XD_end ?_
     refine K_then ?_
     iterate 2 refine C_seq ?_
     refine C_region (l := [0]) rfl ?_
     refine Y_assign ?_
     refine XD_end ?_
     refine K_then ?_
     refine C_block ?_
     refine Y_pk [15, 14, 43, 42, 41, 40, 13, 12, 8, 7, 6, 0, 1] ?_
     refine C_loopO (Hin := []) (.succ (.succ .zero)) (by repeat first | exact Rem.here _ | exact Rem.two | apply Rem.skip | apply Rem.over) (fun (j : Nat) M4 h4 z => ∃ v, z = [(15, .int .i64 (j : Int)), (14, v)] ∧ j ≤ q_l.length ∧ OSl 49 24 v h4 ((filt l_l r i (q_l.take (j))).map HeldV.segs)) (fun j => q_l.length - j) (0) (⟨_, rfl, by omega, by simpa [filt] using OSl.nil⟩) ?_
     rintro j M4 h4 z hm4 ⟨v4, rfl, hj, ho4⟩
     obtain ⟨ad4, cp4, rfl⟩ := ho4.val
     have hml : ((filt l_l r i (q_l.take (j))).map HeldV.segs).length = (filt l_l r i (q_l.take j)).length := List.length_map ..
     rw [hml] at ho4 ⊢
     have hfl : (filt l_l r i (q_l.take j)).length ≤ 2000 := Nat.le_trans filt_len (by rw [List.length_take]; omega)
     have s_q4 := s_q3.mono hm4
     iterate 2 refine C_seq ?_
     refine C_region (l := [0, 1, 2, 3]) rfl ?_
     iterate 2 refine Y_move ?_
     refine Y_len_sl F.elem31 ?_
     refine Y_cmp ?_
     refine XD_end ?_
     refine K_then ?_
     refine C_cond rfl (fun hc5 => ?_) (fun hc5 => ?_)
     ·replace hc5 := dT hc5
      refine C_skip ?_
      refine K_then ?_
      refine C_seq ?_
      refine C_block ?_
      refine C_seq ?_
      refine C_region (l := [0, 1, 2, 3, 4, 5, 6, 7, 8]) rfl ?_
      iterate 5 refine Y_move ?_
      refine X_indexAddr rfl rfl rfl rfl F.elem31 (by rfl) (by omega) (by exact SlM.plain (by assumption) (by (simp; omega))) rfl ?_
      refine X_fieldAddr_el rfl rfl rfl (by exact SlM.plain (by assumption) (by (simp; omega))) F.foff49_0 rfl ?_
      refine X_load_el rfl rfl rfl (by assumption) (by exact row_map (by omega)) F.lay33 rfl rfl rfl ?_
      refine X_fn rfl rfl F.ok34 rfl (Keeps_ok _ ⟨l_a, l_c, l_l⟩ r (i : Int) q_l[j].key (k_l.mono (hm1.trans (hm3.trans hm4)))) rfl ?_
      rintro _ M5 hm5 hv
      obtain ⟨kb, hkb⟩ : ∃ b, keepsR l_l r (i : Int) q_l[j].key = b := ⟨_, rfl⟩
      replace hv : _ = Value.bool (keepsR l_l r (i : Int) q_l[j].key) := hv
      rw [hkb] at hv
      subst hv
      have s_q5 := s_q4.mono hm5
      refine XD_end ?_
      refine K_then ?_
      refine C_cond rfl (fun hc6 => ?_) (fun hc6 => ?_)
      ·skip
       refine C_region (l := [0, 1, 2, 3, 4, 5, 6, 7]) rfl ?_
       iterate 3 refine Y_move ?_
       refine X_indexAddr rfl rfl rfl rfl F.elem31 (by rfl) (by omega) (by exact SlM.plain (by assumption) (by (simp; omega))) rfl ?_
       refine X_load_el rfl rfl rfl (by assumption) (by exact row_map (by omega)) F.lay49 rfl rfl rfl ?_
       refine X_buildSliceF rfl rfl F.elem31 F.zero49 rfl rfl (.cons rfl (by constructor) .nil) rfl rfl (by simp only [List.map_cons, List.map_nil] <;> rfl) rfl ?_; intro b7 hob8
       refine X_append (m := 1000000) rfl rfl rfl rfl rfl F.elem31 F.zero49 (by exact agg_size rfl) rfl (by assumption) (by repeat first | exact Rem.here _ | exact Rem.two | apply Rem.skip | apply Rem.over) (Src.own hob8.lens (by (refine rows_one1 ?_; (repeat (first | exact flat_nil | refine flat_id ?_ | (refine flat_one ?_ ?_; rfl))); done)) rfl (by repeat first | exact List.Mem.head _ | refine List.Mem.tail _ ?_ | refine List.mem_append_right _ ?_)) (by (simp; omega)) (by decide) rfl ?_; intro v11 hs10 ho9; obtain ⟨adv11, cpv11, rfl⟩ := ho9.val
       refine Y_assign ?_
       refine XD_end ?_
       refine K_out ?_
       refine K_then ?_
       refine C_region (l := [0, 1, 2]) rfl ?_
       refine Y_move ?_
       refine X_ari rfl rfl rfl rfl rfl (by exact wrap_in (by decide) (by omega)) rfl ?_
       refine Y_assign ?_
       refine XD_end ?_
       refine K_roundO (a' := [(15, _), (14, _)]) (j + 1) (hs10) (.cons (k := 15) rfl (.cons (k := 14) rfl (.cons (k := 43) rfl (.cons (k := 42) rfl (.cons (k := 41) rfl (.cons (k := 40) rfl (.cons (k := 13) rfl (.cons (k := 12) rfl (.cons (k := 8) rfl (.cons (k := 7) rfl (.cons (k := 6) rfl (.cons (k := 0) rfl (.cons (k := 1) rfl (.nil)))))))))))))) (hm4.trans hm5) (fun w hw => by first | exact hw | exact hw.c) ?_ ?_
       ·refine ⟨_, rfl, by omega, ?_⟩
        have hkb9 : keepsR l_l r (i : Int) q_l[j].key = true := by first | assumption | (simp_all; done)
        rw [filt_step (by omega), hkb9]
        rw [List.map_append]; exact ho9
       ·omega
      ·skip
       refine C_skip ?_
       refine K_out ?_
       refine K_then ?_
       refine C_region (l := [0, 1, 2]) rfl ?_
       refine Y_move ?_
       refine X_ari rfl rfl rfl rfl rfl (by exact wrap_in (by decide) (by omega)) rfl ?_
       refine Y_assign ?_
       refine XD_end ?_
       refine K_roundO (a' := [(15, _), (14, _)]) (j + 1) (h4) (.cons (k := 15) rfl (.cons (k := 14) rfl (.cons (k := 43) rfl (.cons (k := 42) rfl (.cons (k := 41) rfl (.cons (k := 40) rfl (.cons (k := 13) rfl (.cons (k := 12) rfl (.cons (k := 8) rfl (.cons (k := 7) rfl (.cons (k := 6) rfl (.cons (k := 0) rfl (.cons (k := 1) rfl (.nil)))))))))))))) (hm4.trans hm5) (fun w hw => by first | exact hw | exact hw.c) ?_ ?_
       ·refine ⟨_, rfl, by omega, ?_⟩
        have hkb9 : keepsR l_l r (i : Int) q_l[j].key = false := by first | assumption | (simp_all; done)
        rw [filt_step (by omega), hkb9]
        simp only [Bool.false_eq_true, if_false, List.append_nil]; rw [← hml] at ho4 ⊢; exact ho4
       ·omega
     ·replace hc5 := dF hc5
      refine C_exit ?_
      iterate 2 refine K_exit ?_
      refine K_hit ?_
      refine K_then ?_
      obtain rfl : j = q_l.length := by omega
      rw [List.take_length] at ho4 hfl ⊢
      refine C_frz ho4 (by repeat first | exact Rem.here _ | exact Rem.two | apply Rem.skip | apply Rem.over) (fun M6 hm6 k_w => ?_)
      refine C_region (l := [0, 1, 2, 3, 4]) rfl ?_
      iterate 2 refine Y_move ?_
      refine X_buildSliceF rfl rfl F.elem23 F.zero31 rfl rfl (.cons rfl (by constructor) .nil) rfl rfl (by simp only [List.map_cons, List.map_nil] <;> rfl) rfl ?_; intro b12 hob13
      refine X_append (m := 1000000) rfl rfl rfl rfl rfl F.elem23 F.zero31 (by rfl) rfl (by assumption) (by repeat first | exact Rem.here _ | exact Rem.two | apply Rem.skip | apply Rem.over) (Src.own hob13.lens (by (refine rows_one1 ?_; (repeat (first | exact flat_nil | refine flat_id ?_ | (refine flat_one ?_ ?_; rfl))); done)) rfl (by repeat first | exact List.Mem.head _ | refine List.Mem.tail _ ?_ | refine List.mem_append_right _ ?_)) (by (simp; omega)) (by decide) rfl ?_; intro v16 hs15 ho14; obtain ⟨adv16, cpv16, rfl⟩ := ho14.val
      refine Y_assign ?_
      refine XD_end ?_
      refine K_out ?_
      refine K_then ?_
      refine C_region (l := [0, 1, 2]) rfl ?_
      refine Y_move ?_
      refine X_ari rfl rfl rfl rfl rfl (by exact wrap_in (by decide) (by omega)) rfl ?_
      refine Y_assign ?_
      refine XD_end ?_
      refine K_roundO (a' := [(13, _), (12, _)]) (i + 1) (hs15) (.cons (k := 13) rfl (.cons (k := 12) rfl (.cons (k := 8) rfl (.cons (k := 7) rfl (.cons (k := 6) rfl (.cons (k := 0) rfl (.cons (k := 1) rfl (.nil)))))))) (hm3.trans (hm4.trans hm6)) (fun w hw => by first | exact hw | exact hw.c) ?_ ?_
      ·refine ⟨ss ++ [⟨ad4, cp4, filt l_l r i q_l⟩], _, rfl, by omega, ?_, ?_, fun s hs => ?_⟩
       ·rw [List.map_append]
        exact ho14
       ·rw [List.range_succ, List.map_append, List.map_append, hss]; rfl
       ·rcases List.mem_append.1 hs with hs | hs
        ·exact (k_ss s hs).mono (hm4.trans hm6)
        ·obtain rfl := List.mem_singleton.1 hs
         exact k_w
      ·omega
    ·replace hc4 := dF hc4
     refine C_exit ?_
     iterate 2 refine K_exit ?_
     refine K_hit ?_
     refine K_then ?_
     refine Y_pk [12, 7, 6] ?_
     refine C_seq ?_
     refine C_region (l := [0, 1, 2]) rfl ?_
     refine Y_move ?_
     iterate 2 refine Y_assign ?_
     refine XD_end ?_
     refine K_then ?_
     refine Y_pk [7, 6] ?_
     refine C_ret ?_
     refine K_end (.inr rfl) (.tmp rfl (.tmp rfl .nil)) (fun w hw => ?_)
     obtain rfl : i = l_l.length := by omega
     obtain ⟨M7, i1, i2, i3⟩ := ho3.frz (hw.c)
     have h8 := AllE.healed2 (M := M1) (M' := M7) (r := r) hcs hql hn9 hss i3 (fun s hs => (k_ss s hs).mono i1) l_q (hm3.trans i1)
     refine ⟨_, M7, rfl, hm1.trans (hm3.trans i1), i2, ?_⟩
     simp only [Sl.val] at h8
     simp only [List.length_map]
     exact h8

end Go.Proofs.Ytbafnjniijodfaa
/-
  The law of healing.
-/
set_option linter.unusedSimpArgs false
set_option linter.unusedVariables false
set_option linter.unnecessarySimpa false
set_option maxRecDepth 8000
set_option maxHeartbeats 1000000
namespace Go.Proofs.Ytbafnjniijodfaa
open Go.Esp
theorem F.ok10 : okFn Try.prog 10 = true := by kernel_rfl
theorem F.ok12 : okFn Try.prog 12 = true := by kernel_rfl
theorem F.ok14 : okFn Try.prog 14 = true := by kernel_rfl
theorem F.ok8 : okFn Try.prog 8 = true := by kernel_rfl

theorem lawHeals_ok (M : Mem) (l : (Sl PeerV)) (r : Int) (all : (Sl (Sl HeldV))) (hl0 : SlK M PeerV.segs 21 l) (hall1 : SlK M (fun x => [Seg.one (Sl.val x)]) 1 all) (hall2 : ∀ y ∈ (all).l, SlK M HeldV.segs 24 y ∧ ∀ y1 ∈ (y).l, HeldV.ok M y1) : Esp.Fn Try.prog 3 [Sl.val l, .int .i64 r, Sl.val all] M (fun _ v => v = .bool true) := by
  obtain ⟨l_a, l_c, l_l⟩ := l
  obtain ⟨all_a, all_c, all_l⟩ := all
  have k_l : SlK M PeerV.segs 21 ⟨l_a, l_c, l_l⟩ := hl0
  have s_l : SlM M l_a (l_l.map PeerV.segs) 21 := k_l.h1
  have n_l : (l_l.map PeerV.segs).length = l_l.length := List.length_map ..
  have m_l : l_l.length ≤ 9223372036854775807 := k_l.h2
  have c_l : l_l.length ≤ l_c := k_l.h3
  have k_all : SlK M (fun x => [Seg.one (Sl.val x)]) 1 ⟨all_a, all_c, all_l⟩ := hall1
  have s_all : SlM M all_a (all_l.map (fun x => [Seg.one (Sl.val x)])) 1 := k_all.h1
  have n_all : (all_l.map (fun x => [Seg.one (Sl.val x)])).length = all_l.length := List.length_map ..
  have m_all : all_l.length ≤ 9223372036854775807 := k_all.h2
  have c_all : all_l.length ≤ all_c := k_all.h3
  obtain ⟨⟨R1, e1⟩, hR1⟩ : ∃ x, healR l_l r (plss all_l) = x := ⟨_, rfl⟩
  refine fn_enter Try.func3 rfl Try.ntmps3 rfl ?_; intro H
  refine C_seq ?_
  refine C_region (l := [0]) rfl ?_
  refine Y_assign ?_
  refine XD_end ?_
  refine K_then ?_
  iterate 2 refine C_seq ?_
  refine C_region (l := [0, 1, 2, 3, 4, 5, 6]) rfl ?_
  refine Y_move ?_
  refine Y_len_sl F.elem22 ?_
  refine Y_cmp ?_
  refine Y_move ?_
  refine XD_part 14 rfl (fun hc1 => ?_) (fun hc1 => ?_)
  ·replace hc1 := dT hc1
   iterate 2 refine Y_skip ?_
   refine Y_pick ?_
   refine XD_end ?_
   refine K_then ?_
   refine Y_pk [17, 6, 0, 1, 2] ?_
   refine C_true rfl ?_
   refine C_seq ?_
   refine C_region (l := [0]) rfl ?_
   refine Y_assign ?_
   refine XD_end ?_
   refine K_then ?_
   refine Y_pk [6, 0, 1, 2] ?_
   refine C_ret ?_
   refine K_ret ?_
   refine K_end (.inr rfl) (.tmp rfl .nil) (fun w hw => ?_)
   refine ⟨_, _, rfl, (by exact Mem.le.refl _), hw.c, ?_⟩
   clear hw
   rfl
  ·replace hc1 := dF hc1
   refine Y_move ?_
   refine X_fs rfl rfl F.ok8 rfl (Many_ok _ ⟨all_a, all_c, all_l⟩ (k_all.mono (by exact Mem.le.refl _)) (fun y hy => ⟨(hall2 y hy).1.mono (by exact Mem.le.refl _), fun h hh => ((hall2 y hy).2 h hh).mono (by exact Mem.le.refl _)⟩)) rfl ?_
   rintro _ ⟨bb, rfl⟩
   refine Y_pick ?_
   refine XD_end ?_
   refine K_then ?_
   refine Y_pk [17, 6, 0, 1, 2] ?_
   refine C_cond rfl (fun hc2 => ?_) (fun hc2 => ?_)
   ·skip
    refine C_seq ?_
    refine C_region (l := [0]) rfl ?_
    refine Y_assign ?_
    refine XD_end ?_
    refine K_then ?_
    refine Y_pk [6, 0, 1, 2] ?_
    refine C_ret ?_
    refine K_ret ?_
    refine K_end (.inr rfl) (.tmp rfl .nil) (fun w hw => ?_)
    refine ⟨_, _, rfl, (by exact Mem.le.refl _), hw.c, ?_⟩
    clear hw
    rfl
   ·skip
    refine C_skip ?_
    refine K_then ?_
    refine Y_pk [6, 0, 1, 2] ?_
    refine C_seq ?_
    refine C_region (l := [0, 1, 2, 3, 4, 5, 6, 7, 8]) rfl ?_
    iterate 3 refine Y_move ?_
    refine X_fn rfl rfl F.ok9 rfl (Heal_ok _ ⟨l_a, l_c, l_l⟩ r ⟨all_a, all_c, all_l⟩ (k_l.mono (by exact Mem.le.refl _)) (k_all.mono (by exact Mem.le.refl _)) (fun y hy => ⟨(hall2 y hy).1.mono (by exact Mem.le.refl _), fun h hh => ((hall2 y hy).2 h hh).mono (by exact Mem.le.refl _)⟩)) rfl ?_
    rintro _ M1 hm1 hv
    replace hv : AllE _ _ (healR l_l r (plss all_l)) := hv
    rw [hR1] at hv
    obtain ⟨⟨x1_a, x1_c, x1_l⟩, rfl, g1, k1, o1⟩ := hv
    simp only at g1 o1
    refine Y_move ?_
    iterate 2 refine Y_extract ?_
    iterate 2 refine Y_assign ?_
    refine XD_end ?_
    refine K_then ?_
    refine Y_pk [8, 7, 6, 0, 1, 2] ?_
    refine C_seq ?_
    refine C_region (l := [0, 1, 2, 3, 4, 5, 6, 7, 8]) rfl ?_
    iterate 3 refine Y_move ?_
    refine X_fn rfl rfl F.ok10 rfl (rHeal_ok _ ⟨l_a, l_c, l_l⟩ r ⟨all_a, all_c, all_l⟩ (k_l.mono (by assumption)) (k_all.mono (by assumption)) (fun y hy => ⟨(hall2 y hy).1.mono (by assumption), fun h hh => ((hall2 y hy).2 h hh).mono (by assumption)⟩)) rfl ?_
    rintro _ M2 hm2 hv
    replace hv : AllE _ _ (healR l_l r (plss all_l)) := hv
    rw [hR1] at hv
    obtain ⟨⟨x2_a, x2_c, x2_l⟩, rfl, g2, k2, o2⟩ := hv
    simp only at g2 o2
    refine Y_move ?_
    iterate 2 refine Y_extract ?_
    iterate 2 refine Y_assign ?_
    refine XD_end ?_
    refine K_then ?_
    refine Y_pk [10, 9, 8, 7, 6, 0, 1, 2] ?_
    refine C_seq ?_
    refine C_region (l := [0, 1, 2, 3, 4, 5, 6, 7, 8, 9, 10, 11, 12, 13, 14, 15, 16, 17, 18, 19, 20, 21, 22]) rfl ?_
    refine X_fn rfl rfl F.ok11 rfl (healed_ok _) rfl ?_
    rintro _ M9 hm9 rfl
    refine Y_move ?_
    refine XD_part 33 rfl (fun hc3 => ?_) (fun hc3 => ?_)
    ·skip
     simp only [AnswerV.eta, MarkV.eta, CellV.eta, HeldV.eta, PeerV.eta] at hc3
     iterate 2 refine Y_move ?_
     refine X_fs rfl rfl F.ok12 rfl (All_ok _ ⟨x1_a, x1_c, x1_l⟩ ⟨x2_a, x2_c, x2_l⟩ (k1.mono (by (repeat first | assumption | refine Mem.le.trans (by assumption) ?_))) (fun y hy => ⟨(o1 y hy).1.mono (by (repeat first | assumption | refine Mem.le.trans (by assumption) ?_)), fun h hh => ((o1 y hy).2 h hh).mono (by (repeat first | assumption | refine Mem.le.trans (by assumption) ?_))⟩) (k2.mono (by assumption)) (fun y hy => ⟨(o2 y hy).1.mono (by assumption), fun h hh => ((o2 y hy).2 h hh).mono (by assumption)⟩)) rfl ?_
     rintro _ hv
     rw [decide_eq_true (g1.trans g2.symm)] at hv
     subst hv
     refine Y_pick ?_
     refine Y_move ?_
     refine XD_part 38 rfl (fun hc4 => ?_) (fun hc4 => ?_)
     ·skip
      simp only [AnswerV.eta, MarkV.eta, CellV.eta, HeldV.eta, PeerV.eta] at hc4
      iterate 2 refine Y_move ?_
      refine Y_cmp ?_
      refine Y_pick ?_
      refine Y_move ?_
      refine XD_part 43 rfl (fun hc5 => ?_) (fun hc5 => ?_)
      ·replace hc5 := dT hc5
       simp only [AnswerV.eta, MarkV.eta, CellV.eta, HeldV.eta, PeerV.eta] at hc5
       iterate 3 refine Y_move ?_
       refine X_fn rfl rfl F.ok13 rfl (Whole_ok _ ⟨l_a, l_c, l_l⟩ r ⟨all_a, all_c, all_l⟩ (k_l.mono (by (repeat first | assumption | refine Mem.le.trans (by assumption) ?_))) (k_all.mono (by (repeat first | assumption | refine Mem.le.trans (by assumption) ?_))) (fun y hy => ⟨(hall2 y hy).1.mono (by (repeat first | assumption | refine Mem.le.trans (by assumption) ?_)), fun h hh => ((hall2 y hy).2 h hh).mono (by (repeat first | assumption | refine Mem.le.trans (by assumption) ?_))⟩)) rfl ?_
       rintro _ M10 hm10 rfl
       iterate 3 refine Y_move ?_
       refine X_fn rfl rfl F.ok14 rfl (rWhole_ok _ ⟨l_a, l_c, l_l⟩ r ⟨all_a, all_c, all_l⟩ (k_l.mono (by (repeat first | assumption | refine Mem.le.trans (by assumption) ?_))) (k_all.mono (by (repeat first | assumption | refine Mem.le.trans (by assumption) ?_))) (fun y hy => ⟨(hall2 y hy).1.mono (by (repeat first | assumption | refine Mem.le.trans (by assumption) ?_)), fun h hh => ((hall2 y hy).2 h hh).mono (by (repeat first | assumption | refine Mem.le.trans (by assumption) ?_))⟩)) rfl ?_
       rintro _ M11 hm11 rfl
       refine X_eqb rfl rfl rfl rfl rfl Try.underlying4 rfl ?_
       refine Y_pick ?_
       refine Y_assign ?_
       refine XD_end ?_
       refine K_then ?_
       refine Y_pk [6] ?_
       refine C_ret ?_
       refine K_end (.inr rfl) (.tmp rfl .nil) (fun w hw => ?_)
       refine ⟨_, _, rfl, (by (repeat first | assumption | refine Mem.le.trans (by assumption) ?_)), hw.c, ?_⟩
       clear hw
       (simp; rfl)
      ·replace hc5 := dF hc5
       simp only [AnswerV.eta, MarkV.eta, CellV.eta, HeldV.eta, PeerV.eta] at hc5
       (exfalso; simp [eqX] at hc5; done)
     ·skip
      (exfalso; simp [eqX] at hc4; done)
    ·skip
     (exfalso; simp [eqX] at hc3; done)

end Go.Proofs.Ytbafnjniijodfaa
/-
  What healing brings about, in plain Lean.
-/
set_option linter.unusedSimpArgs false
set_option linter.unusedVariables false
set_option linter.unnecessarySimpa false
namespace Go.Esp
/-! A cell merged with itself stays. -/
theorem ofM_mem : ∀ {l : List MarkV}, l.Pairwise (fun x y => x.client < y.client) → ∀ {x : MarkV}, x ∈ l → ofM l x.client = some x
  | y :: l, h, x, hx => by
    have h1 := List.pairwise_cons.1 h
    unfold ofM
    rw [List.find?_cons]
    rcases List.mem_cons.1 hx with rfl | hx
    · simp
    · have := h1.1 x hx
      rw [show decide (y.client = x.client) = false from decide_eq_false (by omega)]
      exact ofM_mem h1.2 hx
theorem mergeM_self {l : List MarkV} (h : MarksOk l) : mergeM l l = l := by
  have key : ∀ b : List MarkV, (∀ x ∈ b, x ∈ l) → b.foldl (addM l) l = l := by
    intro b
    induction b with
    | nil => intro _; rfl
    | cons x b ih =>
      intro hb
      have e : addM l l x = l := by
        unfold addM
        rw [ofM_mem h.2 (hb x (.head _))]
        simp
      rw [List.foldl_cons, e]
      exact ih fun y hy => hb y (.tail _ hy)
  exact key l fun x hx => hx
theorem merged_self {c : Cel} (h : IsCel c) : mergedT c c = c := by
  unfold mergedT mergeR
  rw [if_pos ⟨h, h⟩]
  unfold mergeC
  rw [if_neg (Int.lt_irrefl _), mergeM_self h.2]
/-! What lies at a key after blends. -/
theorem find_blend {s : List Hd} (hs : StOk s) (x : Hd) : findS (blendS mergedT s x) x.key = some (match findS s x.key with | some c => mergedT c x.cell | none => x.cell) := by
  unfold blendS
  rw [findS_with hs.2, if_pos rfl]
  cases findS s x.key <;> rfl
theorem fold_same {c : Cel} (hc : IsCel c) {q : Plc} : ∀ {L s : List Hd}, StOk s → (∀ x ∈ L, IsCel x.cell) → (∀ x ∈ L, x.key = q → x.cell = c) → findS s q = some c → findS (L.foldl (blendS mergedT) s) q = some c
  | [], s, _, _, _, h => h
  | x :: L, s, hs, hL, he, h => by
    rw [List.foldl_cons]
    refine fold_same hc (blendS_ok mergedT_keeps hs (hL x (.head _))) (fun y hy => hL y (.tail _ hy)) (fun y hy => he y (.tail _ hy)) ?_
    by_cases hq : q = x.key
    · subst hq
      rw [find_blend hs, h, he x (.head _) rfl]
      simp only [merged_self hc]
    · rw [findS_blend hs x hq]; exact h
theorem fold_first {c : Cel} (hc : IsCel c) {q : Plc} : ∀ {L s : List Hd}, StOk s → (∀ x ∈ L, IsCel x.cell) → (∀ x ∈ L, x.key = q → x.cell = c) → findS s q = none → (∃ x ∈ L, x.key = q) → findS (L.foldl (blendS mergedT) s) q = some c
  | [], s, _, _, _, _, ⟨x, hx, _⟩ => by cases hx
  | x :: L, s, hs, hL, he, h, ⟨y, hy, hyq⟩ => by
    rw [List.foldl_cons]
    have hs' := blendS_ok mergedT_keeps hs (hL x (.head _))
    by_cases hq : q = x.key
    · refine fold_same hc hs' (fun y hy => hL y (.tail _ hy)) (fun y hy => he y (.tail _ hy)) ?_
      subst hq
      rw [find_blend hs, h, he x (.head _) rfl]
    · refine fold_first hc hs' (fun y hy => hL y (.tail _ hy)) (fun y hy => he y (.tail _ hy)) (by rw [findS_blend hs x hq]; exact h) ?_
      rcases List.mem_cons.1 hy with rfl | hy
      · exact absurd hyq.symm hq
      · exact ⟨y, hy, hyq⟩
theorem st_nil : StOk [] := ⟨fun x hx => (by cases hx), .nil⟩
theorem ofS_find {all : List (List Hd)} (h : ∀ s ∈ all, ∀ x ∈ s, IsCel x.cell) {q : Plc} {c : Cel} (hc : ∀ s ∈ all, ∀ x ∈ s, x.key = q → x.cell = c) (he : ∃ s ∈ all, ∃ x ∈ s, x.key = q) : findS (ofS mergedT all) q = some c := by
  obtain ⟨s, hs, x, hx, hq⟩ := he
  have hcc : IsCel c := by rw [← hc s hs x hx hq]; exact h s hs x hx
  refine fold_first hcc st_nil (fun y hy => ?_) (fun y hy => ?_) rfl ⟨x, List.mem_flatten.2 ⟨s, hs, hx⟩, hq⟩
  · obtain ⟨t, ht, hyt⟩ := List.mem_flatten.1 hy; exact h t ht y hyt
  · obtain ⟨t, ht, hyt⟩ := List.mem_flatten.1 hy; exact hc t ht y hyt
theorem ofS_none {all : List (List Hd)} (h : ∀ s ∈ all, ∀ x ∈ s, IsCel x.cell) {q : Plc} (hn : ∀ s ∈ all, ∀ x ∈ s, x.key ≠ q) : findS (ofS mergedT all) q = none := by
  unfold ofS
  rw [findS_fold mergedT_keeps st_nil (fun y hy => by obtain ⟨t, ht, hyt⟩ := List.mem_flatten.1 hy; exact h t ht y hyt) (fun y hy => by obtain ⟨t, ht, hyt⟩ := List.mem_flatten.1 hy; exact hn t ht y hyt)]
  rfl
theorem findS_filter {S : List Hd} {p : Plc → Bool} {q : Plc} : findS (S.filter fun h => p h.key) q = if p q then findS S q else none := by
  induction S with
  | nil => simp [findS_nil]
  | cons h S ih =>
    rw [List.filter_cons, findS_cons]
    by_cases hp : p h.key = true
    · rw [if_pos hp, findS_cons, ih]
      by_cases e : h.key = q
      · subst e; rw [if_pos rfl, if_pos rfl, if_pos hp]
      · rw [if_neg e, if_neg e]
    · rw [if_neg hp, ih]
      by_cases e : h.key = q
      · subst e; rw [if_neg hp, if_neg hp]
      · rw [if_neg e]
/-! Healed ones. -/
def keptL (l : List PeerV) (r : Int) (S : List Hd) (i : Nat) : List Hd := S.filter fun h => keepsR l r (i : Int) h.key
theorem keptL_find {l : List PeerV} {r : Int} {S : List Hd} {i : Nat} {q : Plc} : findS (keptL l r S i) q = if keepsR l r (i : Int) q then findS S q else none := findS_filter (p := fun k => keepsR l r (i : Int) k)
theorem keptL_st {l : List PeerV} {r : Int} {S : List Hd} {i : Nat} (h : IsSt S) : IsSt (keptL l r S i) :=
  ⟨Nat.le_trans (List.length_filter_le ..) h.1, fun x hx => h.2.1 x (List.mem_filter.1 hx).1, h.2.2.sublist List.filter_sublist⟩
def healsL (l : List PeerV) (r : Int) (S : List Hd) : List (List Hd) := (List.range l.length).map (keptL l r S)
theorem healR_yes {l : List PeerV} {r : Int} {all A : List (List Hd)} (h : healR l r all = (A, 0)) : CircSt l r all ∧ IsSt (ofS mergedT all) ∧ A = healsL l r (ofS mergedT all) := by
  unfold healR at h
  split at h
  · rename_i hc
    split at h
    · cases h
    · rename_i hn
      cases h
      exact ⟨hc, ⟨Nat.not_lt.1 hn, ofS_ok mergedT_keeps fun s hs x hx => (hc.2.2.2 s hs).2.1 x hx⟩, rfl⟩
  · cases h
theorem healR_ok {l : List PeerV} {r : Int} {all : List (List Hd)} (hc : CircSt l r all) (hn : (ofS mergedT all).length ≤ 2000) : healR l r all = (healsL l r (ofS mergedT all), 0) := by
  unfold healR
  rw [if_pos hc, if_neg (by omega)]; rfl
/-- Rows that hold what some keep are all of it, if each key is kept by one of them. -/
theorem ofS_rows {l : List PeerV} {r : Int} {S : List Hd} (hS : StOk S) {K : List Nat} (hk : ∀ h ∈ S, ∃ i ∈ K, keepsR l r ((i : Nat) : Int) h.key = true) : ofS mergedT (K.map (keptL l r S)) = S := by
  have hcell : ∀ s ∈ K.map (keptL l r S), ∀ x ∈ s, IsCel x.cell := fun s hs x hx => by
    obtain ⟨i, _, rfl⟩ := List.mem_map.1 hs
    exact hS.1 x (List.mem_filter.1 hx).1
  have ho := ofS_ok mergedT_keeps hcell
  have hn := keys_nodup hS.2
  refine sorted_eq (perm_of_find (keys_nodup ho.2) hn fun q => ?_) ho.2 hS.2
  cases hf : findS S q with
  | none =>
    refine ofS_none hcell fun s hs x hx => ?_
    obtain ⟨i, _, rfl⟩ := List.mem_map.1 hs
    exact findS_none.1 hf x (List.mem_filter.1 hx).1
  | some c =>
    refine ofS_find hcell (fun s hs x hx hq => ?_) ?_
    · obtain ⟨i, _, rfl⟩ := List.mem_map.1 hs
      have := findS_mem hn (List.mem_filter.1 hx).1
      rw [hq, hf] at this
      exact (Option.some.inj this).symm
    · have hm := findS_some hf
      obtain ⟨i, hi, hki⟩ := hk _ hm
      exact ⟨_, List.mem_map_of_mem hi, _, List.mem_filter.2 ⟨hm, hki⟩, rfl⟩
theorem owner_keeps {l : List PeerV} {r : Int} (h : IsCircle l) (hr : 1 ≤ r ∧ r ≤ 8) (x : Plc) : keepsR l r ((ownerI l x : Nat) : Int) x = true := by
  obtain ⟨rn, rfl⟩ : ∃ n : Nat, r = n := ⟨r.toNat, by omega⟩
  unfold keepsR
  rw [copiesR_yes h (by omega) (by omega)]
  have ho : ownerI l x < l.length := ownerI_lt (by have := h.1; omega)
  refine decide_eq_true (List.mem_map.2 ⟨0, List.mem_range.2 (by have := h.1; omega), ?_⟩)
  rw [Nat.add_zero, Nat.mod_eq_of_lt ho]
theorem heals_len {l : List PeerV} {r : Int} {S : List Hd} : (healsL l r S).length = l.length := by simp [healsL]
theorem heals_at {l : List PeerV} {r : Int} {S : List Hd} {i : Nat} (hi : i < (healsL l r S).length) : (healsL l r S)[i] = keptL l r S i := by simp [healsL]
theorem heals_circ {l : List PeerV} {r : Int} {S : List Hd} (hc : IsCircle l) (hr : 1 ≤ r ∧ r ≤ 8) (hS : IsSt S) : CircSt l r (healsL l r S) :=
  ⟨hc, hr, heals_len, fun s hs => by obtain ⟨i, _, rfl⟩ := List.mem_map.1 hs; exact keptL_st hS⟩
theorem heals_whole {l : List PeerV} {r : Int} {S : List Hd} (hc : IsCircle l) (hr : 1 ≤ r ∧ r ≤ 8) (hS : IsSt S) : wholeR l r (healsL l r S) := by
  refine ⟨heals_circ hc hr hS, fun s hs h hh n hn => ?_⟩
  obtain ⟨i, _, rfl⟩ := List.mem_map.1 hs
  have hm := findS_mem (keys_nodup hS.2.2) (List.mem_filter.1 hh).1
  rw [heals_at hn, keptL_find, hm]
  by_cases hk : keepsR l r (n : Int) h.key = true
  · rw [if_pos hk]; exact ⟨by simp [hk], fun c hc => (Option.some.inj hc).symm⟩
  · rw [if_neg hk]; exact ⟨by simp at hk; simp [hk], fun c hc => by cases hc⟩
theorem heals_of {l : List PeerV} {r : Int} {S : List Hd} (hc : IsCircle l) (hr : 1 ≤ r ∧ r ≤ 8) (hS : StOk S) : ofS mergedT (healsL l r S) = S :=
  ofS_rows hS fun h _ => ⟨ownerI l h.key, List.mem_range.2 (ownerI_lt (by have := hc.1; omega)), owner_keeps hc hr h.key⟩
theorem whole_same {l : List PeerV} {r : Int} {all : List (List Hd)} (h : wholeR l r all) : healsL l r (ofS mergedT all) = all := by
  obtain ⟨hc, hw⟩ := h
  have hcell : ∀ s ∈ all, ∀ x ∈ s, IsCel x.cell := fun s hs x hx => (hc.2.2.2 s hs).2.1 x hx
  have hS := ofS_ok mergedT_keeps hcell
  refine List.ext_getElem (by rw [heals_len, hc.2.2.1]) fun i h1 h2 => ?_
  rw [heals_at h1]
  have hai := (hc.2.2.2 _ (List.getElem_mem h2)).2
  have hks : (keptL l r (ofS mergedT all) i).Pairwise (fun x y => LessP x.key y.key) := hS.2.sublist List.filter_sublist
  refine sorted_eq (perm_of_find (keys_nodup hks) (keys_nodup hai.2) fun q => ?_) hks hai.2
  rw [keptL_find]
  by_cases he : ∃ s ∈ all, ∃ x ∈ s, x.key = q
  · have he' := he
    obtain ⟨s, hs, x, hx, rfl⟩ := he
    have hf : findS (ofS mergedT all) x.key = some x.cell := by
      refine ofS_find hcell (fun t ht y hy hq => ?_) he'
      obtain ⟨m, hm, rfl⟩ := List.getElem_of_mem ht
      have h3 := findS_mem (keys_nodup (hc.2.2.2 _ ht).2.2) hy
      rw [hq] at h3
      exact (hw s hs x hx m hm).2 _ h3
    obtain ⟨g1, g2⟩ := hw s hs x hx i h2
    rw [hf]
    cases hfi : findS all[i] x.key with
    | none => rw [hfi] at g1; rw [← g1]; rfl
    | some c => rw [hfi] at g1; rw [← g1, g2 c hfi]; rfl
  · have hn : ∀ s ∈ all, ∀ x ∈ s, x.key ≠ q := fun s hs x hx e => he ⟨s, hs, x, hx, e⟩
    rw [ofS_none hcell hn, findS_none.2 (hn _ (List.getElem_mem h2))]
    split <;> rfl
/-- What is healed is whole, and healed again it stays; what is whole stays. -/
theorem healed_again {l : List PeerV} {r : Int} {all A : List (List Hd)} (h : healR l r all = (A, 0)) : wholeR l r A ∧ healR l r A = (A, 0) ∧ (wholeR l r all → A = all) := by
  obtain ⟨hc, hS, rfl⟩ := healR_yes h
  have ho := heals_of (r := r) hc.1 hc.2.1 hS.2
  refine ⟨heals_whole hc.1 hc.2.1 hS, ?_, whole_same⟩
  rw [healR_ok (heals_circ hc.1 hc.2.1 hS) (by rw [ho]; exact hS.1), ho]
/-! No key is lost, nor a version. -/
def same3 (a b : Cel) : Prop := a.version = b.version ∧ a.val = b.val ∧ a.has = b.has
theorem merged_ver {a b : Cel} (ha : IsCel a) (hb : IsCel b) : a.version ≤ (mergedT a b).version ∧ b.version ≤ (mergedT a b).version ∧ (same3 a (mergedT a b) ∨ same3 b (mergedT a b)) := by
  unfold mergedT mergeR
  rw [if_pos ⟨ha, hb⟩]
  unfold mergeC
  split
  · exact ⟨by show a.version ≤ b.version; omega, Int.le_refl _, .inr ⟨rfl, rfl, rfl⟩⟩
  · exact ⟨Int.le_refl _, by show b.version ≤ a.version; omega, .inl ⟨rfl, rfl, rfl⟩⟩
theorem fold_ver {q : Plc} : ∀ {L s : List Hd}, StOk s → (∀ x ∈ L, IsCel x.cell) → ((∃ x ∈ L, x.key = q) ∨ (findS s q).isSome = true) → ∃ c, findS (L.foldl (blendS mergedT) s) q = some c ∧ (∀ x ∈ L, x.key = q → x.cell.version ≤ c.version) ∧ (∀ c0, findS s q = some c0 → c0.version ≤ c.version) ∧ ((∃ x ∈ L, x.key = q ∧ same3 x.cell c) ∨ ∃ c0, findS s q = some c0 ∧ same3 c0 c)
  | [], s, hs, _, he => by
    rcases he with ⟨x, hx, _⟩ | he
    · cases hx
    · obtain ⟨c, hc⟩ := Option.isSome_iff_exists.1 he
      exact ⟨c, hc, fun x hx => by (cases hx), fun c0 h0 => by rw [hc] at h0; cases h0; exact Int.le_refl _, .inr ⟨c, hc, rfl, rfl, rfl⟩⟩
  | x :: L, s, hs, hL, he => by
    have hx := hL x (.head _)
    have hs' := blendS_ok mergedT_keeps hs hx
    rw [List.foldl_cons]
    by_cases hq : q = x.key
    · subst hq
      have hb := find_blend hs x
      obtain ⟨c, h1, h2, h3, h4⟩ := fold_ver (q := x.key) (L := L) hs' (fun y hy => hL y (.tail _ hy)) (.inr (by rw [hb]; rfl))
      have h5 := h3 _ hb
      refine ⟨c, h1, ?_, ?_, ?_⟩
      · intro y hy hyq
        rcases List.mem_cons.1 hy with rfl | hy
        · cases h0 : findS s y.key with
          | none => rw [h0] at h5; exact h5
          | some c0 =>
            rw [h0] at h5
            exact Int.le_trans (merged_ver (hs.1 _ (findS_some h0)) hx).2.1 h5
        · exact h2 y hy hyq
      · intro c0 h0
        rw [h0] at h5
        exact Int.le_trans (merged_ver (hs.1 _ (findS_some h0)) hx).1 h5
      · rcases h4 with ⟨y, hy, hyq, h6⟩ | ⟨c1, h6, h7⟩
        · exact .inl ⟨y, .tail _ hy, hyq, h6⟩
        · rw [hb] at h6
          cases h0 : findS s x.key with
          | none => rw [h0] at h6; cases h6; exact .inl ⟨x, .head _, rfl, h7⟩
          | some c0 =>
            rw [h0] at h6
            cases h6
            rcases (merged_ver (hs.1 _ (findS_some h0)) hx).2.2 with h8 | h8
            · exact .inr ⟨c0, rfl, h8.1.trans h7.1, h8.2.1.trans h7.2.1, h8.2.2.trans h7.2.2⟩
            · exact .inl ⟨x, .head _, rfl, h8.1.trans h7.1, h8.2.1.trans h7.2.1, h8.2.2.trans h7.2.2⟩
    · have hb := findS_blend (two := mergedT) hs x hq
      obtain ⟨c, h1, h2, h3, h4⟩ := fold_ver (q := q) (L := L) hs' (fun y hy => hL y (.tail _ hy)) (by
        rcases he with ⟨y, hy, hyq⟩ | he
        · rcases List.mem_cons.1 hy with rfl | hy
          · exact absurd hyq.symm hq
          · exact .inl ⟨y, hy, hyq⟩
        · exact .inr (by rw [hb]; exact he))
      refine ⟨c, h1, fun y hy hyq => ?_, fun c0 h0 => h3 c0 (by rw [hb]; exact h0), ?_⟩
      · rcases List.mem_cons.1 hy with rfl | hy
        · exact absurd hyq.symm hq
        · exact h2 y hy hyq
      · rcases h4 with ⟨y, hy, hyq, h6⟩ | ⟨c1, h6, h7⟩
        · exact .inl ⟨y, .tail _ hy, hyq, h6⟩
        · rw [hb] at h6; exact .inr ⟨c1, h6, h7⟩
theorem heal_keeps {l : List PeerV} {r : Int} {all A : List (List Hd)} (h : healR l r all = (A, 0)) {s : List Hd} {x : Hd} (hs : s ∈ all) (hx : x ∈ s) : IsCircle l ∧ ∃ ho : ownerI l x.key < A.length, ∃ c, findS (A[ownerI l x.key]) x.key = some c ∧ x.cell.version ≤ c.version ∧ ∃ (n : Nat) (hn : n < all.length) (d : Cel), findS all[n] x.key = some d ∧ same3 d c := by
  obtain ⟨hc, hS, rfl⟩ := healR_yes h
  have ho : ownerI l x.key < (healsL l r (ofS mergedT all)).length := by rw [heals_len]; exact ownerI_lt (by have := hc.1.1; omega)
  have hfl : ∀ y ∈ all.flatten, IsCel y.cell := fun y hy => by obtain ⟨t, ht, hyt⟩ := List.mem_flatten.1 hy; exact (hc.2.2.2 t ht).2.1 y hyt
  obtain ⟨c, h1, h2, _, h4⟩ := fold_ver (q := x.key) (L := all.flatten) st_nil hfl (.inl ⟨x, List.mem_flatten.2 ⟨s, hs, hx⟩, rfl⟩)
  refine ⟨hc.1, ho, c, ?_, h2 x (List.mem_flatten.2 ⟨s, hs, hx⟩) rfl, ?_⟩
  · rw [heals_at ho, keptL_find, owner_keeps hc.1 hc.2.1, if_pos rfl]; exact h1
  · rcases h4 with ⟨y, hy, hyq, h6⟩ | ⟨c0, h0, _⟩
    · obtain ⟨t, ht, hyt⟩ := List.mem_flatten.1 hy
      obtain ⟨n, hn, rfl⟩ := List.getElem_of_mem ht
      have h7 := findS_mem (keys_nodup (hc.2.2.2 _ ht).2.2) hyt
      rw [hyq] at h7
      exact ⟨n, hn, _, h7, h6⟩
    · cases h0
end Go.Esp
/-
  The law of whole ones.
-/
set_option linter.unusedSimpArgs false
set_option linter.unusedVariables false
set_option linter.unnecessarySimpa false
set_option maxRecDepth 8000
set_option maxHeartbeats 1000000
namespace Go.Proofs.Ytbafnjniijodfaa
open Go.Esp


theorem healR_no {l : List PeerV} {r : Int} {all A : List (List Hd)} {e : Int} (h : healR l r all = (A, e)) (he : e ≠ 0) : A = [] := by
  unfold healR at h
  split at h
  ·split at h
   ·cases h; rfl
   ·cases h; exact absurd rfl he
  ·cases h; rfl

theorem lawWhole_ok (M : Mem) (l : (Sl PeerV)) (r : Int) (all : (Sl (Sl HeldV))) (hl0 : SlK M PeerV.segs 21 l) (hall1 : SlK M (fun x => [Seg.one (Sl.val x)]) 1 all) (hall2 : ∀ y ∈ (all).l, SlK M HeldV.segs 24 y ∧ ∀ y1 ∈ (y).l, HeldV.ok M y1) : Esp.Fn Try.prog 4 [Sl.val l, .int .i64 r, Sl.val all] M (fun _ v => v = .bool true) := by
  obtain ⟨l_a, l_c, l_l⟩ := l
  obtain ⟨all_a, all_c, all_l⟩ := all
  have k_l : SlK M PeerV.segs 21 ⟨l_a, l_c, l_l⟩ := hl0
  have s_l : SlM M l_a (l_l.map PeerV.segs) 21 := k_l.h1
  have n_l : (l_l.map PeerV.segs).length = l_l.length := List.length_map ..
  have m_l : l_l.length ≤ 9223372036854775807 := k_l.h2
  have c_l : l_l.length ≤ l_c := k_l.h3
  have k_all : SlK M (fun x => [Seg.one (Sl.val x)]) 1 ⟨all_a, all_c, all_l⟩ := hall1
  have s_all : SlM M all_a (all_l.map (fun x => [Seg.one (Sl.val x)])) 1 := k_all.h1
  have n_all : (all_l.map (fun x => [Seg.one (Sl.val x)])).length = all_l.length := List.length_map ..
  have m_all : all_l.length ≤ 9223372036854775807 := k_all.h2
  have c_all : all_l.length ≤ all_c := k_all.h3
  obtain ⟨⟨R1, e1⟩, hR1⟩ : ∃ x, healR l_l r (plss all_l) = x := ⟨_, rfl⟩
  refine fn_enter Try.func4 rfl Try.ntmps4 rfl ?_; intro H
  refine C_seq ?_
  refine C_region (l := [0]) rfl ?_
  refine Y_assign ?_
  refine XD_end ?_
  refine K_then ?_
  iterate 2 refine C_seq ?_
  refine C_region (l := [0, 1, 2, 3, 4, 5, 6]) rfl ?_
  refine Y_move ?_
  refine Y_len_sl F.elem22 ?_
  refine Y_cmp ?_
  refine Y_move ?_
  refine XD_part 14 rfl (fun hc1 => ?_) (fun hc1 => ?_)
  ·replace hc1 := dT hc1
   iterate 2 refine Y_skip ?_
   refine Y_pick ?_
   refine XD_end ?_
   refine K_then ?_
   refine Y_pk [17, 6, 0, 1, 2] ?_
   refine C_true rfl ?_
   refine C_seq ?_
   refine C_region (l := [0]) rfl ?_
   refine Y_assign ?_
   refine XD_end ?_
   refine K_then ?_
   refine Y_pk [6, 0, 1, 2] ?_
   refine C_ret ?_
   refine K_ret ?_
   refine K_end (.inr rfl) (.tmp rfl .nil) (fun w hw => ?_)
   refine ⟨_, _, rfl, (by exact Mem.le.refl _), hw.c, ?_⟩
   clear hw
   rfl
  ·replace hc1 := dF hc1
   refine Y_move ?_
   refine X_fs rfl rfl F.ok8 rfl (Many_ok _ ⟨all_a, all_c, all_l⟩ (k_all.mono (by exact Mem.le.refl _)) (fun y hy => ⟨(hall2 y hy).1.mono (by exact Mem.le.refl _), fun h hh => ((hall2 y hy).2 h hh).mono (by exact Mem.le.refl _)⟩)) rfl ?_
   rintro _ ⟨bb, rfl⟩
   refine Y_pick ?_
   refine XD_end ?_
   refine K_then ?_
   refine Y_pk [17, 6, 0, 1, 2] ?_
   refine C_cond rfl (fun hc2 => ?_) (fun hc2 => ?_)
   ·skip
    refine C_seq ?_
    refine C_region (l := [0]) rfl ?_
    refine Y_assign ?_
    refine XD_end ?_
    refine K_then ?_
    refine Y_pk [6, 0, 1, 2] ?_
    refine C_ret ?_
    refine K_ret ?_
    refine K_end (.inr rfl) (.tmp rfl .nil) (fun w hw => ?_)
    refine ⟨_, _, rfl, (by exact Mem.le.refl _), hw.c, ?_⟩
    clear hw
    rfl
   ·skip
    refine C_skip ?_
    refine K_then ?_
    refine Y_pk [6, 0, 1, 2] ?_
    refine C_seq ?_
    refine C_region (l := [0, 1, 2, 3, 4, 5, 6, 7, 8]) rfl ?_
    iterate 3 refine Y_move ?_
    refine X_fn rfl rfl F.ok9 rfl (Heal_ok _ ⟨l_a, l_c, l_l⟩ r ⟨all_a, all_c, all_l⟩ (k_l.mono (by exact Mem.le.refl _)) (k_all.mono (by exact Mem.le.refl _)) (fun y hy => ⟨(hall2 y hy).1.mono (by exact Mem.le.refl _), fun h hh => ((hall2 y hy).2 h hh).mono (by exact Mem.le.refl _)⟩)) rfl ?_
    rintro _ M1 hm1 hv
    replace hv : AllE _ _ (healR l_l r (plss all_l)) := hv
    rw [hR1] at hv
    obtain ⟨⟨x1_a, x1_c, x1_l⟩, rfl, g1, k1, o1⟩ := hv
    simp only at g1 o1
    refine Y_move ?_
    iterate 2 refine Y_extract ?_
    iterate 2 refine Y_assign ?_
    refine XD_end ?_
    refine K_then ?_
    refine Y_pk [8, 7, 6, 0, 1, 2] ?_
    iterate 2 refine C_seq ?_
    refine C_region (l := [0, 1]) rfl ?_
    refine Y_move ?_
    refine Y_cmp ?_
    refine XD_end ?_
    refine K_then ?_
    refine Y_pk [26, 7, 6, 0, 1, 2] ?_
    refine C_cond rfl (fun hc3 => ?_) (fun hc3 => ?_)
    ·replace hc3 := nT hc3
     simp only [AnswerV.eta, MarkV.eta, CellV.eta, HeldV.eta, PeerV.eta] at hc3
     refine C_seq ?_
     have hx0 : x1_l.length = 0 := by rw [← plss_len, g1, healR_no hR1 (by assumption)]; rfl
     refine C_region (l := [0, 1, 2, 3, 4, 5, 6]) rfl ?_
     refine X_fn rfl rfl F.ok11 rfl (healed_ok _) rfl ?_
     rintro _ M9 hm9 rfl
     refine Y_move ?_
     refine XD_part 28 rfl (fun hc4 => ?_) (fun hc4 => ?_)
     ·skip
      simp only [AnswerV.eta, MarkV.eta, CellV.eta, HeldV.eta, PeerV.eta] at hc4
      refine Y_move ?_
      refine Y_len_sl F.elem23 ?_
      refine Y_cmp ?_
      refine Y_pick ?_
      refine Y_assign ?_
      refine XD_end ?_
      refine K_then ?_
      refine Y_pk [6, 7, 0, 1, 2] ?_
      refine C_ret ?_
      refine K_ret ?_
      refine K_end (.inr rfl) (.tmp rfl .nil) (fun w hw => ?_)
      refine ⟨_, _, rfl, (by (repeat first | assumption | refine Mem.le.trans (by assumption) ?_)), hw.c, ?_⟩
      clear hw
      exact congrArg Value.bool (decide_eq_true (by omega))
     ·skip
      (exfalso; simp [eqX] at hc4; done)
    ·replace hc3 := nF hc3
     simp only [AnswerV.eta, MarkV.eta, CellV.eta, HeldV.eta, PeerV.eta] at hc3
     refine C_skip ?_
     refine K_then ?_
     refine Y_pk [7, 6, 0, 1, 2] ?_
     refine C_seq ?_
     have he0 : e1 = 0 := by first | assumption | omega
     subst he0
     obtain ⟨hw1, hh1, hs1⟩ := healed_again hR1
     refine C_region (l := [0, 1, 2, 3, 4, 5, 6, 7, 8]) rfl ?_
     iterate 3 refine Y_move ?_
     refine X_fn rfl rfl F.ok9 rfl (Heal_ok _ ⟨l_a, l_c, l_l⟩ r ⟨x1_a, x1_c, x1_l⟩ (k_l.mono (by assumption)) (k1.mono (by exact Mem.le.refl _)) (fun y hy => ⟨(o1 y hy).1.mono (by exact Mem.le.refl _), fun h hh => ((o1 y hy).2 h hh).mono (by exact Mem.le.refl _)⟩)) rfl ?_
     rintro _ M2 hm2 hv
     replace hv : AllE _ _ (healR l_l r (plss x1_l)) := hv
     rw [g1, hh1] at hv
     obtain ⟨⟨x2_a, x2_c, x2_l⟩, rfl, g2, k2, o2⟩ := hv
     simp only at g2 o2
     refine Y_move ?_
     iterate 2 refine Y_extract ?_
     iterate 2 refine Y_assign ?_
     refine XD_end ?_
     refine K_then ?_
     refine Y_pk [10, 9, 7, 6, 0, 1, 2] ?_
     refine C_seq ?_
     refine C_region (l := [0, 1, 2, 3, 4, 5, 6, 7, 8, 9, 10, 11, 12, 13, 14, 15, 16, 17, 18, 19, 20, 21, 22, 23, 24, 25, 26, 27, 28]) rfl ?_
     refine X_fn rfl rfl F.ok11 rfl (healed_ok _) rfl ?_
     rintro _ M9 hm9 rfl
     refine Y_move ?_
     refine XD_part 41 rfl (fun hc5 => ?_) (fun hc5 => ?_)
     ·skip
      simp only [AnswerV.eta, MarkV.eta, CellV.eta, HeldV.eta, PeerV.eta] at hc5
      iterate 3 refine Y_move ?_
      refine X_fn rfl rfl F.ok13 rfl (Whole_ok _ ⟨l_a, l_c, l_l⟩ r ⟨x1_a, x1_c, x1_l⟩ (k_l.mono (by (repeat first | assumption | refine Mem.le.trans (by assumption) ?_))) (k1.mono (by (repeat first | assumption | refine Mem.le.trans (by assumption) ?_))) (fun y hy => ⟨(o1 y hy).1.mono (by (repeat first | assumption | refine Mem.le.trans (by assumption) ?_)), fun h hh => ((o1 y hy).2 h hh).mono (by (repeat first | assumption | refine Mem.le.trans (by assumption) ?_))⟩)) rfl ?_
      rintro _ M3 hm3 hv
      replace hv : _ = Value.bool (decide (wholeR l_l r (plss x1_l))) := hv
      rw [g1, decide_eq_true hw1] at hv
      subst hv
      refine Y_pick ?_
      refine Y_move ?_
      refine XD_part 47 rfl (fun hc6 => ?_) (fun hc6 => ?_)
      ·skip
       simp only [AnswerV.eta, MarkV.eta, CellV.eta, HeldV.eta, PeerV.eta] at hc6
       refine Y_move ?_
       refine Y_cmp ?_
       refine Y_pick ?_
       refine Y_move ?_
       refine XD_part 51 rfl (fun hc7 => ?_) (fun hc7 => ?_)
       ·replace hc7 := dT hc7
        simp only [AnswerV.eta, MarkV.eta, CellV.eta, HeldV.eta, PeerV.eta] at hc7
        iterate 2 refine Y_move ?_
        refine X_fs rfl rfl F.ok12 rfl (All_ok _ ⟨x1_a, x1_c, x1_l⟩ ⟨x2_a, x2_c, x2_l⟩ (k1.mono (by (repeat first | assumption | refine Mem.le.trans (by assumption) ?_))) (fun y hy => ⟨(o1 y hy).1.mono (by (repeat first | assumption | refine Mem.le.trans (by assumption) ?_)), fun h hh => ((o1 y hy).2 h hh).mono (by (repeat first | assumption | refine Mem.le.trans (by assumption) ?_))⟩) (k2.mono (by (repeat first | assumption | refine Mem.le.trans (by assumption) ?_))) (fun y hy => ⟨(o2 y hy).1.mono (by (repeat first | assumption | refine Mem.le.trans (by assumption) ?_)), fun h hh => ((o2 y hy).2 h hh).mono (by (repeat first | assumption | refine Mem.le.trans (by assumption) ?_))⟩)) rfl ?_
        rintro _ hv
        rw [decide_eq_true (g1.trans g2.symm)] at hv
        subst hv
        refine Y_pick ?_
        refine Y_move ?_
        refine XD_part 56 rfl (fun hc8 => ?_) (fun hc8 => ?_)
        ·skip
         simp only [AnswerV.eta, MarkV.eta, CellV.eta, HeldV.eta, PeerV.eta] at hc8
         iterate 3 refine Y_move ?_
         refine X_fn rfl rfl F.ok13 rfl (Whole_ok _ ⟨l_a, l_c, l_l⟩ r ⟨all_a, all_c, all_l⟩ (k_l.mono (by (repeat first | assumption | refine Mem.le.trans (by assumption) ?_))) (k_all.mono (by (repeat first | assumption | refine Mem.le.trans (by assumption) ?_))) (fun y hy => ⟨(hall2 y hy).1.mono (by (repeat first | assumption | refine Mem.le.trans (by assumption) ?_)), fun h hh => ((hall2 y hy).2 h hh).mono (by (repeat first | assumption | refine Mem.le.trans (by assumption) ?_))⟩)) rfl ?_
         rintro _ M4 hm4 rfl
         refine Y_not ?_
         refine Y_move ?_
         refine XD_part 62 rfl (fun hc9 => ?_) (fun hc9 => ?_)
         ·replace hc9 := nT hc9
          simp only [AnswerV.eta, MarkV.eta, CellV.eta, HeldV.eta, PeerV.eta] at hc9
          iterate 3 refine Y_skip ?_
          iterate 2 refine Y_pick ?_
          refine Y_assign ?_
          refine XD_end ?_
          refine K_then ?_
          refine Y_pk [6] ?_
          refine C_ret ?_
          refine K_end (.inr rfl) (.tmp rfl .nil) (fun w hw => ?_)
          refine ⟨_, _, rfl, (by (repeat first | assumption | refine Mem.le.trans (by assumption) ?_)), hw.c, ?_⟩
          clear hw
          rfl
         ·replace hc9 := nF hc9
          simp only [AnswerV.eta, MarkV.eta, CellV.eta, HeldV.eta, PeerV.eta] at hc9
          iterate 2 refine Y_move ?_
          refine X_fs rfl rfl F.ok12 rfl (All_ok _ ⟨x1_a, x1_c, x1_l⟩ ⟨all_a, all_c, all_l⟩ (k1.mono (by (repeat first | assumption | refine Mem.le.trans (by assumption) ?_))) (fun y hy => ⟨(o1 y hy).1.mono (by (repeat first | assumption | refine Mem.le.trans (by assumption) ?_)), fun h hh => ((o1 y hy).2 h hh).mono (by (repeat first | assumption | refine Mem.le.trans (by assumption) ?_))⟩) (k_all.mono (by (repeat first | assumption | refine Mem.le.trans (by assumption) ?_))) (fun y hy => ⟨(hall2 y hy).1.mono (by (repeat first | assumption | refine Mem.le.trans (by assumption) ?_)), fun h hh => ((hall2 y hy).2 h hh).mono (by (repeat first | assumption | refine Mem.le.trans (by assumption) ?_))⟩)) rfl ?_
          rintro _ hv
          have hwa : wholeR l_l r (plss all_l) := by first | assumption | (simp_all; done)
          rw [decide_eq_true (g1.trans (hs1 hwa))] at hv
          subst hv
          iterate 2 refine Y_pick ?_
          refine Y_assign ?_
          refine XD_end ?_
          refine K_then ?_
          refine Y_pk [6] ?_
          refine C_ret ?_
          refine K_end (.inr rfl) (.tmp rfl .nil) (fun w hw => ?_)
          refine ⟨_, _, rfl, (by (repeat first | assumption | refine Mem.le.trans (by assumption) ?_)), hw.c, ?_⟩
          clear hw
          rfl
        ·skip
         (exfalso; simp [eqX] at hc8; done)
       ·replace hc7 := dF hc7
        simp only [AnswerV.eta, MarkV.eta, CellV.eta, HeldV.eta, PeerV.eta] at hc7
        (exfalso; simp [eqX] at hc7; done)
      ·skip
       (exfalso; simp [eqX] at hc6; done)
     ·skip
      (exfalso; simp [eqX] at hc5; done)

end Go.Proofs.Ytbafnjniijodfaa
/-
  The law of keeping.
-/
set_option linter.unusedSimpArgs false
set_option linter.unusedVariables false
set_option linter.unnecessarySimpa false
set_option maxRecDepth 8000
set_option maxHeartbeats 1000000
namespace Go.Proofs.Ytbafnjniijodfaa
open Go.Esp
theorem F.ok27 : okFn Try.prog 27 = true := by kernel_rfl

theorem heal_keepsV {l : List PeerV} {r : Int} {A X : List (Sl HeldV)} (h : healR l r (plss A) = (plss X, 0)) {k j : Nat} (hk : k < A.length) {q : Sl HeldV} (hq : A[k] = q) (hj : j < q.l.length) : IsCircle l ∧ ∃ (o n0 : Nat) (c d : Cel) (ho : o < X.length) (hn : n0 < A.length), ownerI l q.l[j].key = o ∧ findS (pls X[o].l) q.l[j].key = some c ∧ q.l[j].cell.version ≤ c.version ∧ findS (pls A[n0].l) q.l[j].key = some d ∧ same3 d c := by
  subst hq
  obtain ⟨h0, h1, c, h2, h3, n, hn, d, h4, h5⟩ := heal_keeps h (s := pls A[k].l) (x := HeldV.pl A[k].l[j]) (List.mem_map_of_mem (f := fun s : Sl HeldV => pls s.l) (List.getElem_mem hk)) (List.mem_map_of_mem (f := HeldV.pl) (List.getElem_mem hj))
  rw [plss_len] at hn
  have ho : ownerI l A[k].l[j].key < X.length := by rw [plss_len] at h1; exact h1
  rw [plss_at hn] at h4
  exact ⟨h0, _, n, c, d, ho, hn, rfl, by rw [← plss_at ho]; exact h2, h3, h4, h5⟩

theorem lawKeeps_ok (M : Mem) (l : (Sl PeerV)) (r : Int) (all : (Sl (Sl HeldV))) (hl0 : SlK M PeerV.segs 21 l) (hall1 : SlK M (fun x => [Seg.one (Sl.val x)]) 1 all) (hall2 : ∀ y ∈ (all).l, SlK M HeldV.segs 24 y ∧ ∀ y1 ∈ (y).l, HeldV.ok M y1) : Esp.Fn Try.prog 6 [Sl.val l, .int .i64 r, Sl.val all] M (fun _ v => v = .bool true) := by
  obtain ⟨l_a, l_c, l_l⟩ := l
  obtain ⟨all_a, all_c, all_l⟩ := all
  have k_l : SlK M PeerV.segs 21 ⟨l_a, l_c, l_l⟩ := hl0
  have s_l : SlM M l_a (l_l.map PeerV.segs) 21 := k_l.h1
  have n_l : (l_l.map PeerV.segs).length = l_l.length := List.length_map ..
  have m_l : l_l.length ≤ 9223372036854775807 := k_l.h2
  have c_l : l_l.length ≤ l_c := k_l.h3
  have k_all : SlK M (fun x => [Seg.one (Sl.val x)]) 1 ⟨all_a, all_c, all_l⟩ := hall1
  have s_all : SlM M all_a (all_l.map (fun x => [Seg.one (Sl.val x)])) 1 := k_all.h1
  have n_all : (all_l.map (fun x => [Seg.one (Sl.val x)])).length = all_l.length := List.length_map ..
  have m_all : all_l.length ≤ 9223372036854775807 := k_all.h2
  have c_all : all_l.length ≤ all_c := k_all.h3
  obtain ⟨⟨R1, e1⟩, hR1⟩ : ∃ x, healR l_l r (plss all_l) = x := ⟨_, rfl⟩
  refine fn_enter Try.func6 rfl Try.ntmps6 rfl ?_; intro H
  refine C_seq ?_
  refine C_region (l := [0]) rfl ?_
  refine Y_assign ?_
  refine XD_end ?_
  refine K_then ?_
  iterate 2 refine C_seq ?_
  refine C_region (l := [0, 1, 2, 3, 4, 5, 6]) rfl ?_
  refine Y_move ?_
  refine Y_len_sl F.elem22 ?_
  refine Y_cmp ?_
  refine Y_move ?_
  refine XD_part 23 rfl (fun hc1 => ?_) (fun hc1 => ?_)
  ·replace hc1 := dT hc1
   iterate 2 refine Y_skip ?_
   refine Y_pick ?_
   refine XD_end ?_
   refine K_then ?_
   refine Y_pk [26, 6, 0, 1, 2] ?_
   refine C_true rfl ?_
   refine C_seq ?_
   refine C_region (l := [0]) rfl ?_
   refine Y_assign ?_
   refine XD_end ?_
   refine K_then ?_
   refine Y_pk [6, 0, 1, 2] ?_
   refine C_ret ?_
   refine K_ret ?_
   refine K_end (.inr rfl) (.tmp rfl .nil) (fun w hw => ?_)
   refine ⟨_, _, rfl, (by exact Mem.le.refl _), hw.c, ?_⟩
   clear hw
   rfl
  ·replace hc1 := dF hc1
   refine Y_move ?_
   refine X_fs rfl rfl F.ok8 rfl (Many_ok _ ⟨all_a, all_c, all_l⟩ (k_all.mono (by exact Mem.le.refl _)) (fun y hy => ⟨(hall2 y hy).1.mono (by exact Mem.le.refl _), fun h hh => ((hall2 y hy).2 h hh).mono (by exact Mem.le.refl _)⟩)) rfl ?_
   rintro _ ⟨bb, rfl⟩
   refine Y_pick ?_
   refine XD_end ?_
   refine K_then ?_
   refine Y_pk [26, 6, 0, 1, 2] ?_
   refine C_cond rfl (fun hc2 => ?_) (fun hc2 => ?_)
   ·skip
    refine C_seq ?_
    refine C_region (l := [0]) rfl ?_
    refine Y_assign ?_
    refine XD_end ?_
    refine K_then ?_
    refine Y_pk [6, 0, 1, 2] ?_
    refine C_ret ?_
    refine K_ret ?_
    refine K_end (.inr rfl) (.tmp rfl .nil) (fun w hw => ?_)
    refine ⟨_, _, rfl, (by exact Mem.le.refl _), hw.c, ?_⟩
    clear hw
    rfl
   ·skip
    refine C_skip ?_
    refine K_then ?_
    refine Y_pk [6, 0, 1, 2] ?_
    refine C_seq ?_
    refine C_region (l := [0, 1, 2, 3, 4, 5, 6, 7, 8]) rfl ?_
    iterate 3 refine Y_move ?_
    refine X_fn rfl rfl F.ok9 rfl (Heal_ok _ ⟨l_a, l_c, l_l⟩ r ⟨all_a, all_c, all_l⟩ (k_l.mono (by exact Mem.le.refl _)) (k_all.mono (by exact Mem.le.refl _)) (fun y hy => ⟨(hall2 y hy).1.mono (by exact Mem.le.refl _), fun h hh => ((hall2 y hy).2 h hh).mono (by exact Mem.le.refl _)⟩)) rfl ?_
    rintro _ M1 hm1 hv
    replace hv : AllE _ _ (healR l_l r (plss all_l)) := hv
    rw [hR1] at hv
    obtain ⟨⟨x1_a, x1_c, x1_l⟩, rfl, g1, k1, o1⟩ := hv
    simp only at g1 o1
    refine Y_move ?_
    iterate 2 refine Y_extract ?_
    iterate 2 refine Y_assign ?_
    refine XD_end ?_
    refine K_then ?_
    refine Y_pk [8, 7, 6, 0, 2] ?_
    iterate 2 refine C_seq ?_
    refine C_region (l := [0, 1]) rfl ?_
    refine Y_move ?_
    refine Y_cmp ?_
    refine XD_end ?_
    refine K_then ?_
    refine Y_pk [35, 7, 6, 0, 2] ?_
    refine C_cond rfl (fun hc3 => ?_) (fun hc3 => ?_)
    ·replace hc3 := nT hc3
     simp only [AnswerV.eta, MarkV.eta, CellV.eta, HeldV.eta, PeerV.eta] at hc3
     refine C_seq ?_
     refine C_region (l := [0, 1]) rfl ?_
     refine X_fn rfl rfl F.ok11 rfl (healed_ok _) rfl ?_
     rintro _ M9 hm9 rfl
     refine Y_assign ?_
     refine XD_end ?_
     refine K_then ?_
     refine Y_pk [6, 7, 0, 2] ?_
     refine C_ret ?_
     refine K_ret ?_
     refine K_end (.inr rfl) (.tmp rfl .nil) (fun w hw => ?_)
     refine ⟨_, _, rfl, (by (repeat first | assumption | refine Mem.le.trans (by assumption) ?_)), hw.c, ?_⟩
     clear hw
     rfl
    ·replace hc3 := nF hc3
     simp only [AnswerV.eta, MarkV.eta, CellV.eta, HeldV.eta, PeerV.eta] at hc3
     refine C_skip ?_
     refine K_then ?_
     refine Y_pk [7, 6, 0, 2] ?_
     iterate 2 refine C_seq ?_
     have he0 : e1 = 0 := by first | assumption | omega
     subst he0
     subst g1
     have s_all1 := s_all.mono hm1
     have s_x1 := k1.h1
     try simp only at s_x1
     have m_x1 : x1_l.length ≤ 9223372036854775807 := k1.h2
     have n_x1 : (x1_l.map fun x => ([Seg.one (Sl.val x)] : Segs)).length = x1_l.length := List.length_map ..
     refine C_region (l := [0]) rfl ?_
     refine Y_assign ?_
     refine XD_end ?_
     refine K_then ?_
     refine C_block ?_
     refine Y_pk [9, 7, 6, 0, 2] ?_
     refine C_loopS (.succ .zero) (fun (k : Nat) z => z = [(9, .int .i64 (k : Int))] ∧ k ≤ all_l.length) (fun k => all_l.length - k) (0) (⟨rfl, by omega⟩) ?_
     rintro k _ ⟨rfl, hk⟩
     iterate 2 refine C_seq ?_
     refine C_region (l := [0, 1, 2, 3]) rfl ?_
     iterate 2 refine Y_move ?_
     refine Y_len_sl F.elem23 ?_
     refine Y_cmp ?_
     refine XD_end ?_
     refine K_then ?_
     refine C_cond rfl (fun hc4 => ?_) (fun hc4 => ?_)
     ·replace hc4 := dT hc4
      refine C_skip ?_
      refine K_then ?_
      refine C_seq ?_
      refine C_block ?_
      refine C_seq ?_
      obtain ⟨⟨q_a, q_c, q_l⟩, hq⟩ : ∃ q, all_l[k]'(by omega) = q := ⟨_, rfl⟩
      have hqm : (⟨q_a, q_c, q_l⟩ : Sl HeldV) ∈ all_l := by rw [← hq]; exact List.getElem_mem (by omega)
      obtain ⟨k_q, l_q⟩ := hall2 _ hqm
      try simp only at l_q
      have s_q1 := k_q.h1.mono hm1
      try simp only at s_q1
      have m_q : q_l.length ≤ 9223372036854775807 := k_q.h2
      have n_q : (q_l.map HeldV.segs).length = q_l.length := List.length_map ..
      refine C_region (l := [0]) rfl ?_
      refine Y_assign ?_
      refine XD_end ?_
      refine K_then ?_
      refine C_block ?_
      refine Y_pk [10, 40, 39, 38, 37, 9, 7, 6, 0, 2] ?_
      refine C_loopS (.succ .zero) (fun (j : Nat) z => z = [(10, .int .i64 (j : Int))] ∧ j ≤ q_l.length) (fun j => q_l.length - j) (0) (⟨rfl, by omega⟩) ?_
      rintro j _ ⟨rfl, hj⟩
      iterate 2 refine C_seq ?_
      refine C_region (l := [0, 1, 2, 3, 4, 5, 6]) rfl ?_
      iterate 3 refine Y_move ?_
      refine X_indexAddr rfl rfl rfl rfl F.elem23 (by rfl) (by omega) (by exact SlM.plain (by assumption) (by (simp; omega))) rfl ?_
      refine X_load_el rfl rfl rfl (by assumption) (by exact row_map (by omega)) F.lay31 rfl rfl rfl ?_
      rw [hq]
      refine Y_len_sl F.elem31 ?_
      refine Y_cmp ?_
      refine XD_end ?_
      refine K_then ?_
      refine C_cond rfl (fun hc5 => ?_) (fun hc5 => ?_)
      ·replace hc5 := dT hc5
       refine C_skip ?_
       refine K_then ?_
       refine C_seq ?_
       refine C_block ?_
       refine C_seq ?_
       obtain ⟨hcl, o9, n0, c9, d0, ho9, hn0, hog, hf9, hv9, hd0, hs0⟩ := heal_keepsV hR1 (show k < all_l.length by omega) hq (show j < q_l.length by omega)
       try simp only at hog hf9 hv9 hd0
       obtain ⟨⟨y_a, y_c, y_l⟩, hy⟩ : ∃ y, x1_l[o9] = y := ⟨_, rfl⟩
       rw [hy] at hf9
       try simp only at hf9
       have hym : (⟨y_a, y_c, y_l⟩ : Sl HeldV) ∈ x1_l := by rw [← hy]; exact List.getElem_mem _
       obtain ⟨k_y, l_y⟩ := o1 _ hym
       try simp only at l_y
       refine C_region (l := [0, 1, 2, 3, 4, 5, 6, 7, 8, 9]) rfl ?_
       iterate 2 refine Y_move ?_
       refine X_indexAddr rfl rfl rfl rfl F.elem23 (by rfl) (by omega) (by exact SlM.plain (by assumption) (by (simp; omega))) rfl ?_
       refine X_load_el rfl rfl rfl (by assumption) (by exact row_map (by omega)) F.lay31 rfl rfl rfl ?_
       rw [hq]
       refine Y_move ?_
       refine X_indexAddr rfl rfl rfl rfl F.elem31 (by rfl) (by omega) (by exact SlM.plain (by assumption) (by (simp; omega))) rfl ?_
       refine X_fieldAddr_el rfl rfl rfl (by exact SlM.plain (by assumption) (by (simp; omega))) F.foff49_0 rfl ?_
       refine X_load_el rfl rfl rfl (by assumption) (by exact row_map (by omega)) F.lay33 rfl rfl rfl ?_
       refine Y_alloc F.zero33 ?_; intro b6
       refine Y_store F.lay33 ?_
       refine XD_end ?_
       refine K_then ?_
       refine C_seq ?_
       refine C_region (l := [0, 1, 2, 3, 4, 5, 6, 7]) rfl ?_
       refine Y_move ?_
       refine Y_load F.lay33 ?_
       refine X_fs rfl rfl F.ok27 rfl (Owner_ok _ ⟨l_a, l_c, l_l⟩ q_l[j].key (k_l.mono (by assumption))) rfl ?_
       rintro _ hv
       replace hv : _ = ofII (ownerR l_l q_l[j].key) := hv
       rw [show ownerR l_l q_l[j].key = (((o9 : Nat) : Int), 0) from by unfold ownerR; rw [if_pos hcl, hog]] at hv
       subst hv
       refine Y_move ?_
       iterate 2 refine Y_extract ?_
       iterate 2 refine Y_assign ?_
       refine XD_end ?_
       refine K_then ?_
       iterate 2 refine C_seq ?_
       refine C_region (l := [0, 1, 2, 3, 4, 5, 6, 7, 8, 9, 10, 11]) rfl ?_
       refine Y_move ?_
       refine Y_cmp ?_
       refine Y_move ?_
       refine XD_part 68 rfl (fun hc7 => ?_) (fun hc7 => ?_)
       ·replace hc7 := nT hc7
        simp only [AnswerV.eta, MarkV.eta, CellV.eta, HeldV.eta, PeerV.eta] at hc7
        (exfalso; simp [eqX] at hc7; done)
       ·replace hc7 := nF hc7
        simp only [AnswerV.eta, MarkV.eta, CellV.eta, HeldV.eta, PeerV.eta] at hc7
        refine Y_move ?_
        refine Y_cmp ?_
        refine Y_pick ?_
        refine Y_move ?_
        refine XD_part 72 rfl (fun hc8 => ?_) (fun hc8 => ?_)
        ·replace hc8 := dT hc8
         simp only [AnswerV.eta, MarkV.eta, CellV.eta, HeldV.eta, PeerV.eta] at hc8
         (exfalso; omega)
        ·replace hc8 := dF hc8
         simp only [AnswerV.eta, MarkV.eta, CellV.eta, HeldV.eta, PeerV.eta] at hc8
         iterate 2 refine Y_move ?_
         refine Y_len_sl F.elem23 ?_
         refine Y_cmp ?_
         refine Y_pick ?_
         refine XD_end ?_
         refine K_then ?_
         refine C_cond rfl (fun hc9 => ?_) (fun hc9 => ?_)
         ·replace hc9 := dT hc9
          simp only [AnswerV.eta, MarkV.eta, CellV.eta, HeldV.eta, PeerV.eta] at hc9
          (exfalso; omega)
         ·replace hc9 := dF hc9
          simp only [AnswerV.eta, MarkV.eta, CellV.eta, HeldV.eta, PeerV.eta] at hc9
          refine C_skip ?_
          refine K_then ?_
          refine C_seq ?_
          refine C_region_any (l := [0, 1, 2, 3, 4, 5, 6, 7, 8, 9, 10, 11]) #[0, 0, 3, 7, 0, 31, 63, 127, 127, 0, 767, 2047] _ rfl (by kernel_rfl) (by kernel_rfl) St.drawn (fun _ h => h) ?_
          iterate 2 refine Y_move ?_
          refine X_indexAddr rfl rfl rfl rfl F.elem23 (by rfl) (by omega) (by exact SlM.plain (by assumption) (by (simp; omega))) rfl ?_
          refine X_load_el rfl rfl rfl (by assumption) (by exact row_map (by omega)) F.lay31 rfl rfl rfl ?_
          rw [hy]
          refine Y_load F.lay33 ?_
          refine X_fs rfl rfl F.ok17 rfl (Find_ok _ ⟨y_a, y_c, y_l⟩ q_l[j].key k_y l_y) rfl ?_
          rintro _ hv
          obtain ⟨⟨xc, xb⟩, hx⟩ : ∃ r, findX y_l q_l[j].key = r := ⟨_, rfl⟩
          replace hv : _ = findXv (findX y_l q_l[j].key) := hv
          rw [hx] at hv
          subst hv
          have hfx := findX_S hx
          rw [hf9] at hfx
          obtain ⟨rfl, hxc⟩ : xb = true ∧ c9 = xc.pl := by
           cases xb
           ·cases hfx
           ·exact ⟨rfl, Option.some.inj hfx⟩
          obtain ⟨x_v, x_h, x_s, ⟨x_a, x_c, x_l⟩⟩ := xc
          subst hxc
          replace hv9 : q_l[j].cell.version ≤ x_v := hv9
          refine Y_move ?_
          iterate 2 refine Y_extract ?_
          refine Y_alloc F.zero37 ?_; intro b10
          refine Y_store F.lay37 ?_
          refine Y_assign ?_
          refine XD_end ?_
          refine K_then ?_
          iterate 2 refine C_seq ?_
          refine C_region_any (l := [0, 1, 2, 3, 4, 5, 6, 7, 8, 9, 10, 11, 12, 13, 14, 15]) #[0, 1, 3, 7, 15, 7, 7, 103, 231, 7, 999, 2023, 4071, 8167, 16383, 32767] _ rfl (by kernel_rfl) (by kernel_rfl) St.drawn (fun _ h => h) ?_
          refine Y_move ?_
          refine Y_not ?_
          refine Y_move ?_
          refine XD_part 89 rfl (fun hc11 => ?_) (fun hc11 => ?_)
          ·skip
           simp only [AnswerV.eta, MarkV.eta, CellV.eta, HeldV.eta, PeerV.eta] at hc11
           (exfalso; simp [eqX] at hc11; done)
          ·skip
           simp only [AnswerV.eta, MarkV.eta, CellV.eta, HeldV.eta, PeerV.eta] at hc11
           refine Y_fieldAddr F.foff37_0 ?_
           refine Y_load F.lay34 ?_
           iterate 2 refine Y_move ?_
           refine X_indexAddr rfl rfl rfl rfl F.elem23 (by rfl) (by omega) (by exact SlM.plain (by assumption) (by (simp; omega))) rfl ?_
           refine X_load_el rfl rfl rfl (by assumption) (by exact row_map (by omega)) F.lay31 rfl rfl rfl ?_
           rw [hq]
           refine Y_move ?_
           refine X_indexAddr rfl rfl rfl rfl F.elem31 (by rfl) (by omega) (by exact SlM.plain (by assumption) (by (simp; omega))) rfl ?_
           refine X_fieldAddr_el rfl rfl rfl (by exact SlM.plain (by assumption) (by (simp; omega))) F.foff49_1 rfl ?_
           refine X_fieldAddr_el rfl rfl rfl (by exact SlM.plain (by assumption) (by (simp; omega))) F.foff37_0 rfl ?_
           refine X_load_el rfl rfl rfl (by assumption) (by exact row_map (by omega)) F.lay34 rfl rfl rfl ?_
           refine Y_cmp ?_
           refine XD_is 101 rfl (congrArg Value.bool (decide_eq_false (Int.not_lt.2 hv9))) ?_
           refine Y_pick ?_
           refine XD_end ?_
           refine K_then ?_
           refine C_cond rfl (fun hc12 => ?_) (fun hc12 => ?_)
           ·skip
            (exfalso; simp [eqX] at hc12; done)
           ·skip
            simp only [AnswerV.eta, MarkV.eta, CellV.eta, HeldV.eta, PeerV.eta] at hc12
            refine C_skip ?_
            refine K_then ?_
            refine C_seq ?_
            refine C_region (l := [0]) rfl ?_
            refine Y_assign ?_
            refine XD_end ?_
            refine K_then ?_
            iterate 2 refine C_seq ?_
            refine C_region (l := [0]) rfl ?_
            refine Y_assign ?_
            refine XD_end ?_
            refine K_then ?_
            refine C_block ?_
            refine Y_pk [17, 16, 102, 101, 100, 99, 98, 97, 96, 95, 94, 93, 92, 91, 90, 89, 88, 87, 15, 14, 86, 85, 78, 84, 83, 82, 81, 80, 79, 77, 76, 75, 74, 73, 72, 71, 70, 69, 68, 67, 66, 13, 12, 65, 64, 60, 63, 62, 61, 11, 59, 58, 57, 56, 55, 54, 53, 52, 49, 48, 47, 46, 45, 44, 43, 10, 40, 39, 38, 37, 9, 7, 6, 0, 2] ?_
            refine C_loopS (.succ (.succ .zero)) (fun (n : Nat) z => ∃ b : Bool, z = [(17, .int .i64 (n : Int)), (16, .bool b)] ∧ n ≤ all_l.length ∧ (n0 < n → b = true)) (fun n => all_l.length - n) (0) (⟨false, rfl, by omega, fun h => by omega⟩) ?_
            rintro n _ ⟨b, rfl, hn, hb⟩
            iterate 2 refine C_seq ?_
            refine C_region (l := [0, 1, 2, 3]) rfl ?_
            iterate 2 refine Y_move ?_
            refine Y_len_sl F.elem23 ?_
            refine Y_cmp ?_
            refine XD_end ?_
            refine K_then ?_
            refine C_cond rfl (fun hc13 => ?_) (fun hc13 => ?_)
            ·replace hc13 := dT hc13
             refine C_skip ?_
             refine K_then ?_
             refine C_seq ?_
             refine C_block ?_
             refine C_seq ?_
             refine C_region_any (l := [0, 1, 2, 3, 4, 5, 6, 7, 8, 9, 10, 11]) #[0, 0, 3, 7, 0, 31, 63, 127, 127, 0, 767, 2047] _ rfl (by kernel_rfl) (by kernel_rfl) St.drawn (fun _ h => h) ?_
             iterate 2 refine Y_move ?_
             refine X_indexAddr rfl rfl rfl rfl F.elem23 (by rfl) (by omega) (by exact SlM.plain (by assumption) (by (simp; omega))) rfl ?_
             refine X_load_el rfl rfl rfl (by assumption) (by exact row_map (by omega)) F.lay31 rfl rfl rfl ?_
             obtain ⟨⟨t_a, t_c, t_l⟩, ht⟩ : ∃ q, all_l[n]'(by omega) = q := ⟨_, rfl⟩
             rw [ht]
             have htm : (⟨t_a, t_c, t_l⟩ : Sl HeldV) ∈ all_l := by rw [← ht]; exact List.getElem_mem (by omega)
             obtain ⟨k_t, l_t⟩ := hall2 _ htm
             try simp only at l_t
             have s_t1 := k_t.h1.mono hm1
             try simp only at s_t1
             have m_t : t_l.length ≤ 9223372036854775807 := k_t.h2
             have n_t : (t_l.map HeldV.segs).length = t_l.length := List.length_map ..
             refine Y_load F.lay33 ?_
             refine X_fs rfl rfl F.ok17 rfl (Find_ok _ ⟨t_a, t_c, t_l⟩ q_l[j].key (k_t.mono hm1) (fun y hy => (l_t y hy).mono hm1)) rfl ?_
             rintro _ hv
             obtain ⟨⟨dc, db⟩, hx2⟩ : ∃ r, findX t_l q_l[j].key = r := ⟨_, rfl⟩
             replace hv : _ = findXv (findX t_l q_l[j].key) := hv
             rw [hx2] at hv
             subst hv
             obtain ⟨d_v, d_h, d_s, ⟨d_a, d_c, d_l⟩⟩ := dc
             have hnn : n = n0 → db = true ∧ d_v = x_v ∧ d_s = x_s ∧ d_h = x_h := fun e => by
              subst e
              rw [ht] at hd0
              have h9 := findX_S hx2
              replace hd0 : findS (pls t_l) q_l[j].key = some d0 := hd0
              rw [hd0] at h9
              cases db
              ·cases h9
              ·have h8 := Option.some.inj h9
               rw [h8] at hs0
               exact ⟨rfl, hs0.1, hs0.2.1, hs0.2.2⟩
             refine Y_move ?_
             iterate 2 refine Y_extract ?_
             refine Y_alloc F.zero37 ?_; intro b14
             refine Y_store F.lay37 ?_
             refine Y_assign ?_
             refine XD_end ?_
             refine K_then ?_
             refine C_region (l := [0, 1, 2, 3, 4, 5, 6, 7, 8, 9, 10, 11, 12, 13, 14, 15, 16, 17, 18, 19, 20, 21, 22, 23, 24, 25]) rfl ?_
             iterate 2 refine Y_move ?_
             refine XD_part 119 rfl (fun hc15 => ?_) (fun hc15 => ?_)
             ·skip
              iterate 22 refine Y_skip ?_
              refine Y_pick ?_
              refine Y_assign ?_
              refine XD_end ?_
              refine K_out ?_
              refine K_then ?_
              refine C_region (l := [0, 1, 2]) rfl ?_
              refine Y_move ?_
              refine X_ari rfl rfl rfl rfl rfl (by exact wrap_in (by decide) (by omega)) rfl ?_
              refine Y_assign ?_
              refine XD_end ?_
              refine K_roundS (a' := [(17, _), (16, _)]) (n + 1) (.cons (k := 17) rfl (.cons (k := 16) rfl (.cons (k := 102) rfl (.cons (k := 101) rfl (.cons (k := 100) rfl (.cons (k := 99) rfl (.cons (k := 98) rfl (.cons (k := 97) rfl (.cons (k := 96) rfl (.cons (k := 95) rfl (.cons (k := 94) rfl (.cons (k := 93) rfl (.cons (k := 92) rfl (.cons (k := 91) rfl (.cons (k := 90) rfl (.cons (k := 89) rfl (.cons (k := 88) rfl (.cons (k := 87) rfl (.cons (k := 15) rfl (.cons (k := 14) rfl (.cons (k := 86) rfl (.cons (k := 85) rfl (.cons (k := 78) rfl (.cons (k := 84) rfl (.cons (k := 83) rfl (.cons (k := 82) rfl (.cons (k := 81) rfl (.cons (k := 80) rfl (.cons (k := 79) rfl (.cons (k := 77) rfl (.cons (k := 76) rfl (.cons (k := 75) rfl (.cons (k := 74) rfl (.cons (k := 73) rfl (.cons (k := 72) rfl (.cons (k := 71) rfl (.cons (k := 70) rfl (.cons (k := 69) rfl (.cons (k := 68) rfl (.cons (k := 67) rfl (.cons (k := 66) rfl (.cons (k := 13) rfl (.cons (k := 12) rfl (.cons (k := 65) rfl (.cons (k := 64) rfl (.cons (k := 60) rfl (.cons (k := 63) rfl (.cons (k := 62) rfl (.cons (k := 61) rfl (.cons (k := 11) rfl (.cons (k := 59) rfl (.cons (k := 58) rfl (.cons (k := 57) rfl (.cons (k := 56) rfl (.cons (k := 55) rfl (.cons (k := 54) rfl (.cons (k := 53) rfl (.cons (k := 52) rfl (.cons (k := 49) rfl (.cons (k := 48) rfl (.cons (k := 47) rfl (.cons (k := 46) rfl (.cons (k := 45) rfl (.cons (k := 44) rfl (.cons (k := 43) rfl (.cons (k := 10) rfl (.cons (k := 40) rfl (.cons (k := 39) rfl (.cons (k := 38) rfl (.cons (k := 37) rfl (.cons (k := 9) rfl (.cons (k := 7) rfl (.cons (k := 6) rfl (.cons (k := 0) rfl (.cons (k := 2) rfl (.nil)))))))))))))))))))))))))))))))))))))))))))))))))))))))))))))))))))))))))))) (fun w hw => by first | exact hw | exact hw.c) ?_ ?_
              ·refine ⟨_, rfl, by omega, fun h9 => ?_⟩
               rcases Nat.lt_or_ge n0 n with h8 | h8
               ·have h7 := hb h8
                subst h7
                rfl
               ·obtain ⟨h1, h2, h3, h4⟩ := hnn (by omega)
                subst h1 h2 h3 h4
                rfl
              ·omega
             ·skip
              iterate 2 refine Y_move ?_
              refine XD_part 121 rfl (fun hc16 => ?_) (fun hc16 => ?_)
              ·skip
               simp only [AnswerV.eta, MarkV.eta, CellV.eta, HeldV.eta, PeerV.eta] at hc16
               refine Y_fieldAddr F.foff37_0 ?_
               refine Y_load F.lay34 ?_
               refine Y_fieldAddr F.foff37_0 ?_
               refine Y_load F.lay34 ?_
               refine Y_cmp ?_
               refine Y_pick ?_
               refine Y_move ?_
               refine XD_part 128 rfl (fun hc17 => ?_) (fun hc17 => ?_)
               ·replace hc17 := dT hc17
                refine Y_fieldAddr F.foff37_2 ?_
                refine Y_load F.lay9 ?_
                refine Y_fieldAddr F.foff37_2 ?_
                refine Y_load F.lay9 ?_
                refine Y_str ?_
                refine Y_pick ?_
                refine Y_move ?_
                refine XD_part 135 rfl (fun hc18 => ?_) (fun hc18 => ?_)
                ·replace hc18 := dT hc18
                 refine Y_fieldAddr F.foff37_1 ?_
                 refine Y_load F.lay4 ?_
                 refine Y_fieldAddr F.foff37_1 ?_
                 refine Y_load F.lay4 ?_
                 refine X_eqb rfl rfl rfl rfl rfl Try.underlying4 rfl ?_
                 iterate 2 refine Y_pick ?_
                 refine Y_assign ?_
                 refine XD_end ?_
                 refine K_out ?_
                 refine K_then ?_
                 refine C_region (l := [0, 1, 2]) rfl ?_
                 refine Y_move ?_
                 refine X_ari rfl rfl rfl rfl rfl (by exact wrap_in (by decide) (by omega)) rfl ?_
                 refine Y_assign ?_
                 refine XD_end ?_
                 refine K_roundS (a' := [(17, _), (16, _)]) (n + 1) (.cons (k := 17) rfl (.cons (k := 16) rfl (.cons (k := 102) rfl (.cons (k := 101) rfl (.cons (k := 100) rfl (.cons (k := 99) rfl (.cons (k := 98) rfl (.cons (k := 97) rfl (.cons (k := 96) rfl (.cons (k := 95) rfl (.cons (k := 94) rfl (.cons (k := 93) rfl (.cons (k := 92) rfl (.cons (k := 91) rfl (.cons (k := 90) rfl (.cons (k := 89) rfl (.cons (k := 88) rfl (.cons (k := 87) rfl (.cons (k := 15) rfl (.cons (k := 14) rfl (.cons (k := 86) rfl (.cons (k := 85) rfl (.cons (k := 78) rfl (.cons (k := 84) rfl (.cons (k := 83) rfl (.cons (k := 82) rfl (.cons (k := 81) rfl (.cons (k := 80) rfl (.cons (k := 79) rfl (.cons (k := 77) rfl (.cons (k := 76) rfl (.cons (k := 75) rfl (.cons (k := 74) rfl (.cons (k := 73) rfl (.cons (k := 72) rfl (.cons (k := 71) rfl (.cons (k := 70) rfl (.cons (k := 69) rfl (.cons (k := 68) rfl (.cons (k := 67) rfl (.cons (k := 66) rfl (.cons (k := 13) rfl (.cons (k := 12) rfl (.cons (k := 65) rfl (.cons (k := 64) rfl (.cons (k := 60) rfl (.cons (k := 63) rfl (.cons (k := 62) rfl (.cons (k := 61) rfl (.cons (k := 11) rfl (.cons (k := 59) rfl (.cons (k := 58) rfl (.cons (k := 57) rfl (.cons (k := 56) rfl (.cons (k := 55) rfl (.cons (k := 54) rfl (.cons (k := 53) rfl (.cons (k := 52) rfl (.cons (k := 49) rfl (.cons (k := 48) rfl (.cons (k := 47) rfl (.cons (k := 46) rfl (.cons (k := 45) rfl (.cons (k := 44) rfl (.cons (k := 43) rfl (.cons (k := 10) rfl (.cons (k := 40) rfl (.cons (k := 39) rfl (.cons (k := 38) rfl (.cons (k := 37) rfl (.cons (k := 9) rfl (.cons (k := 7) rfl (.cons (k := 6) rfl (.cons (k := 0) rfl (.cons (k := 2) rfl (.nil)))))))))))))))))))))))))))))))))))))))))))))))))))))))))))))))))))))))))))) (fun w hw => by first | exact hw | exact hw.c) ?_ ?_
                 ·refine ⟨_, rfl, by omega, fun h9 => ?_⟩
                  rcases Nat.lt_or_ge n0 n with h8 | h8
                  ·have h7 := hb h8
                   subst h7
                   contradiction
                  ·obtain ⟨h1, h2, h3, h4⟩ := hnn (by omega)
                   subst h1 h2 h3 h4
                   (simp [eqX]; done)
                 ·omega
                ·replace hc18 := dF hc18
                 iterate 5 refine Y_skip ?_
                 iterate 2 refine Y_pick ?_
                 refine Y_assign ?_
                 refine XD_end ?_
                 refine K_out ?_
                 refine K_then ?_
                 refine C_region (l := [0, 1, 2]) rfl ?_
                 refine Y_move ?_
                 refine X_ari rfl rfl rfl rfl rfl (by exact wrap_in (by decide) (by omega)) rfl ?_
                 refine Y_assign ?_
                 refine XD_end ?_
                 refine K_roundS (a' := [(17, _), (16, _)]) (n + 1) (.cons (k := 17) rfl (.cons (k := 16) rfl (.cons (k := 102) rfl (.cons (k := 101) rfl (.cons (k := 100) rfl (.cons (k := 99) rfl (.cons (k := 98) rfl (.cons (k := 97) rfl (.cons (k := 96) rfl (.cons (k := 95) rfl (.cons (k := 94) rfl (.cons (k := 93) rfl (.cons (k := 92) rfl (.cons (k := 91) rfl (.cons (k := 90) rfl (.cons (k := 89) rfl (.cons (k := 88) rfl (.cons (k := 87) rfl (.cons (k := 15) rfl (.cons (k := 14) rfl (.cons (k := 86) rfl (.cons (k := 85) rfl (.cons (k := 78) rfl (.cons (k := 84) rfl (.cons (k := 83) rfl (.cons (k := 82) rfl (.cons (k := 81) rfl (.cons (k := 80) rfl (.cons (k := 79) rfl (.cons (k := 77) rfl (.cons (k := 76) rfl (.cons (k := 75) rfl (.cons (k := 74) rfl (.cons (k := 73) rfl (.cons (k := 72) rfl (.cons (k := 71) rfl (.cons (k := 70) rfl (.cons (k := 69) rfl (.cons (k := 68) rfl (.cons (k := 67) rfl (.cons (k := 66) rfl (.cons (k := 13) rfl (.cons (k := 12) rfl (.cons (k := 65) rfl (.cons (k := 64) rfl (.cons (k := 60) rfl (.cons (k := 63) rfl (.cons (k := 62) rfl (.cons (k := 61) rfl (.cons (k := 11) rfl (.cons (k := 59) rfl (.cons (k := 58) rfl (.cons (k := 57) rfl (.cons (k := 56) rfl (.cons (k := 55) rfl (.cons (k := 54) rfl (.cons (k := 53) rfl (.cons (k := 52) rfl (.cons (k := 49) rfl (.cons (k := 48) rfl (.cons (k := 47) rfl (.cons (k := 46) rfl (.cons (k := 45) rfl (.cons (k := 44) rfl (.cons (k := 43) rfl (.cons (k := 10) rfl (.cons (k := 40) rfl (.cons (k := 39) rfl (.cons (k := 38) rfl (.cons (k := 37) rfl (.cons (k := 9) rfl (.cons (k := 7) rfl (.cons (k := 6) rfl (.cons (k := 0) rfl (.cons (k := 2) rfl (.nil)))))))))))))))))))))))))))))))))))))))))))))))))))))))))))))))))))))))))))) (fun w hw => by first | exact hw | exact hw.c) ?_ ?_
                 ·refine ⟨_, rfl, by omega, fun h9 => ?_⟩
                  rcases Nat.lt_or_ge n0 n with h8 | h8
                  ·have h7 := hb h8
                   subst h7
                   contradiction
                  ·obtain ⟨h1, h2, h3, h4⟩ := hnn (by omega)
                   subst h1 h2 h3 h4
                   contradiction
                 ·omega
               ·replace hc17 := dF hc17
                iterate 5 refine Y_skip ?_
                refine Y_pick ?_
                refine Y_move ?_
                iterate 5 refine Y_skip ?_
                iterate 2 refine Y_pick ?_
                refine Y_assign ?_
                refine XD_end ?_
                refine K_out ?_
                refine K_then ?_
                refine C_region (l := [0, 1, 2]) rfl ?_
                refine Y_move ?_
                refine X_ari rfl rfl rfl rfl rfl (by exact wrap_in (by decide) (by omega)) rfl ?_
                refine Y_assign ?_
                refine XD_end ?_
                refine K_roundS (a' := [(17, _), (16, _)]) (n + 1) (.cons (k := 17) rfl (.cons (k := 16) rfl (.cons (k := 102) rfl (.cons (k := 101) rfl (.cons (k := 100) rfl (.cons (k := 99) rfl (.cons (k := 98) rfl (.cons (k := 97) rfl (.cons (k := 96) rfl (.cons (k := 95) rfl (.cons (k := 94) rfl (.cons (k := 93) rfl (.cons (k := 92) rfl (.cons (k := 91) rfl (.cons (k := 90) rfl (.cons (k := 89) rfl (.cons (k := 88) rfl (.cons (k := 87) rfl (.cons (k := 15) rfl (.cons (k := 14) rfl (.cons (k := 86) rfl (.cons (k := 85) rfl (.cons (k := 78) rfl (.cons (k := 84) rfl (.cons (k := 83) rfl (.cons (k := 82) rfl (.cons (k := 81) rfl (.cons (k := 80) rfl (.cons (k := 79) rfl (.cons (k := 77) rfl (.cons (k := 76) rfl (.cons (k := 75) rfl (.cons (k := 74) rfl (.cons (k := 73) rfl (.cons (k := 72) rfl (.cons (k := 71) rfl (.cons (k := 70) rfl (.cons (k := 69) rfl (.cons (k := 68) rfl (.cons (k := 67) rfl (.cons (k := 66) rfl (.cons (k := 13) rfl (.cons (k := 12) rfl (.cons (k := 65) rfl (.cons (k := 64) rfl (.cons (k := 60) rfl (.cons (k := 63) rfl (.cons (k := 62) rfl (.cons (k := 61) rfl (.cons (k := 11) rfl (.cons (k := 59) rfl (.cons (k := 58) rfl (.cons (k := 57) rfl (.cons (k := 56) rfl (.cons (k := 55) rfl (.cons (k := 54) rfl (.cons (k := 53) rfl (.cons (k := 52) rfl (.cons (k := 49) rfl (.cons (k := 48) rfl (.cons (k := 47) rfl (.cons (k := 46) rfl (.cons (k := 45) rfl (.cons (k := 44) rfl (.cons (k := 43) rfl (.cons (k := 10) rfl (.cons (k := 40) rfl (.cons (k := 39) rfl (.cons (k := 38) rfl (.cons (k := 37) rfl (.cons (k := 9) rfl (.cons (k := 7) rfl (.cons (k := 6) rfl (.cons (k := 0) rfl (.cons (k := 2) rfl (.nil)))))))))))))))))))))))))))))))))))))))))))))))))))))))))))))))))))))))))))) (fun w hw => by first | exact hw | exact hw.c) ?_ ?_
                ·refine ⟨_, rfl, by omega, fun h9 => ?_⟩
                 rcases Nat.lt_or_ge n0 n with h8 | h8
                 ·have h7 := hb h8
                  subst h7
                  contradiction
                 ·obtain ⟨h1, h2, h3, h4⟩ := hnn (by omega)
                  subst h1 h2 h3 h4
                  contradiction
                ·omega
              ·skip
               simp only [AnswerV.eta, MarkV.eta, CellV.eta, HeldV.eta, PeerV.eta] at hc16
               iterate 5 refine Y_skip ?_
               refine Y_pick ?_
               refine Y_move ?_
               iterate 5 refine Y_skip ?_
               refine Y_pick ?_
               refine Y_move ?_
               iterate 5 refine Y_skip ?_
               iterate 2 refine Y_pick ?_
               refine Y_assign ?_
               refine XD_end ?_
               refine K_out ?_
               refine K_then ?_
               refine C_region (l := [0, 1, 2]) rfl ?_
               refine Y_move ?_
               refine X_ari rfl rfl rfl rfl rfl (by exact wrap_in (by decide) (by omega)) rfl ?_
               refine Y_assign ?_
               refine XD_end ?_
               refine K_roundS (a' := [(17, _), (16, _)]) (n + 1) (.cons (k := 17) rfl (.cons (k := 16) rfl (.cons (k := 102) rfl (.cons (k := 101) rfl (.cons (k := 100) rfl (.cons (k := 99) rfl (.cons (k := 98) rfl (.cons (k := 97) rfl (.cons (k := 96) rfl (.cons (k := 95) rfl (.cons (k := 94) rfl (.cons (k := 93) rfl (.cons (k := 92) rfl (.cons (k := 91) rfl (.cons (k := 90) rfl (.cons (k := 89) rfl (.cons (k := 88) rfl (.cons (k := 87) rfl (.cons (k := 15) rfl (.cons (k := 14) rfl (.cons (k := 86) rfl (.cons (k := 85) rfl (.cons (k := 78) rfl (.cons (k := 84) rfl (.cons (k := 83) rfl (.cons (k := 82) rfl (.cons (k := 81) rfl (.cons (k := 80) rfl (.cons (k := 79) rfl (.cons (k := 77) rfl (.cons (k := 76) rfl (.cons (k := 75) rfl (.cons (k := 74) rfl (.cons (k := 73) rfl (.cons (k := 72) rfl (.cons (k := 71) rfl (.cons (k := 70) rfl (.cons (k := 69) rfl (.cons (k := 68) rfl (.cons (k := 67) rfl (.cons (k := 66) rfl (.cons (k := 13) rfl (.cons (k := 12) rfl (.cons (k := 65) rfl (.cons (k := 64) rfl (.cons (k := 60) rfl (.cons (k := 63) rfl (.cons (k := 62) rfl (.cons (k := 61) rfl (.cons (k := 11) rfl (.cons (k := 59) rfl (.cons (k := 58) rfl (.cons (k := 57) rfl (.cons (k := 56) rfl (.cons (k := 55) rfl (.cons (k := 54) rfl (.cons (k := 53) rfl (.cons (k := 52) rfl (.cons (k := 49) rfl (.cons (k := 48) rfl (.cons (k := 47) rfl (.cons (k := 46) rfl (.cons (k := 45) rfl (.cons (k := 44) rfl (.cons (k := 43) rfl (.cons (k := 10) rfl (.cons (k := 40) rfl (.cons (k := 39) rfl (.cons (k := 38) rfl (.cons (k := 37) rfl (.cons (k := 9) rfl (.cons (k := 7) rfl (.cons (k := 6) rfl (.cons (k := 0) rfl (.cons (k := 2) rfl (.nil)))))))))))))))))))))))))))))))))))))))))))))))))))))))))))))))))))))))))))) (fun w hw => by first | exact hw | exact hw.c) ?_ ?_
               ·refine ⟨_, rfl, by omega, fun h9 => ?_⟩
                rcases Nat.lt_or_ge n0 n with h8 | h8
                ·have h7 := hb h8
                 subst h7
                 contradiction
                ·obtain ⟨h1, h2, h3, h4⟩ := hnn (by omega)
                 subst h1 h2 h3 h4
                 contradiction
               ·omega
            ·replace hc13 := dF hc13
             refine C_exit ?_
             iterate 2 refine K_exit ?_
             refine K_hit ?_
             refine K_then ?_
             refine C_seq ?_
             have hbt := hb (by omega)
             subst hbt
             refine C_region (l := [0, 1]) rfl ?_
             refine Y_move ?_
             refine Y_not ?_
             refine XD_end ?_
             refine K_then ?_
             refine C_cond rfl (fun hc19 => ?_) (fun hc19 => ?_)
             ·skip
              (exfalso; simp [eqX] at hc19; done)
             ·skip
              refine C_skip ?_
              refine K_out ?_
              refine K_then ?_
              refine C_region (l := [0, 1, 2]) rfl ?_
              refine Y_move ?_
              refine X_ari rfl rfl rfl rfl rfl (by exact wrap_in (by decide) (by omega)) rfl ?_
              refine Y_assign ?_
              refine XD_end ?_
              refine K_roundS (a' := [(10, _)]) (j + 1) (.cons (k := 10) rfl (.cons (k := 40) rfl (.cons (k := 39) rfl (.cons (k := 38) rfl (.cons (k := 37) rfl (.cons (k := 9) rfl (.cons (k := 7) rfl (.cons (k := 6) rfl (.cons (k := 0) rfl (.cons (k := 2) rfl (.nil))))))))))) (fun w hw => by first | exact hw | exact hw.c) ?_ ?_
              ·exact ⟨rfl, by omega⟩
              ·omega
      ·replace hc5 := dF hc5
       refine C_exit ?_
       iterate 2 refine K_exit ?_
       refine K_hit ?_
       refine K_out ?_
       refine K_then ?_
       refine C_region (l := [0, 1, 2]) rfl ?_
       refine Y_move ?_
       refine X_ari rfl rfl rfl rfl rfl (by exact wrap_in (by decide) (by omega)) rfl ?_
       refine Y_assign ?_
       refine XD_end ?_
       refine K_roundS (a' := [(9, _)]) (k + 1) (.cons (k := 9) rfl (.cons (k := 7) rfl (.cons (k := 6) rfl (.cons (k := 0) rfl (.cons (k := 2) rfl (.nil)))))) (fun w hw => by first | exact hw | exact hw.c) ?_ ?_
       ·exact ⟨rfl, by omega⟩
       ·omega
     ·replace hc4 := dF hc4
      refine C_exit ?_
      iterate 2 refine K_exit ?_
      refine K_hit ?_
      refine K_then ?_
      refine Y_pk [6] ?_
      refine C_seq ?_
      refine C_region (l := [0, 1]) rfl ?_
      refine X_fn rfl rfl F.ok11 rfl (healed_ok _) rfl ?_
      rintro _ M9 hm9 rfl
      refine Y_assign ?_
      refine XD_end ?_
      refine K_then ?_
      refine Y_pk [6] ?_
      refine C_ret ?_
      refine K_end (.inr rfl) (.tmp rfl .nil) (fun w hw => ?_)
      refine ⟨_, _, rfl, (by (repeat first | assumption | refine Mem.le.trans (by assumption) ?_)), hw.c, ?_⟩
      clear hw
      rfl

end Go.Proofs.Ytbafnjniijodfaa
/-
  Who is left, in plain Lean.
-/
set_option linter.unusedSimpArgs false
set_option linter.unusedVariables false
set_option linter.unnecessarySimpa false
namespace Go.Esp
/-- Those of the first k of a row whose places are chosen. -/
def selF {α : Type} (p : Nat → Bool) (l : List α) (k : Nat) : List α := ((List.range k).filter p).filterMap fun i => l[i]?
theorem selF_zero {α : Type} {p : Nat → Bool} {l : List α} : selF p l 0 = [] := rfl
theorem selF_step {α : Type} {p : Nat → Bool} {l : List α} {k : Nat} (hk : k < l.length) : selF p l (k + 1) = selF p l k ++ if p k then [l[k]] else [] := by
  unfold selF
  rw [List.range_succ, List.filter_append, List.filterMap_append]
  congr 1
  by_cases h : p k = true
  · simp [h, hk]
  · simp [h]
theorem selF_sub {α : Type} {p : Nat → Bool} {l : List α} : ∀ {k : Nat}, k ≤ l.length → (selF p l k).Sublist (l.take k)
  | 0, _ => by simp [selF_zero]
  | k + 1, h => by
    rw [selF_step (by omega), List.take_add_one, List.getElem?_eq_getElem (by omega)]
    refine (selF_sub (by omega)).append ?_
    split
    · exact List.Sublist.refl _
    · exact List.nil_sublist _
theorem selF_mem {α : Type} {p : Nat → Bool} {l : List α} {k : Nat} (hk : k ≤ l.length) {x : α} (h : x ∈ selF p l k) : x ∈ l := List.mem_of_mem_take ((selF_sub hk).subset h)
theorem selF_map {α β : Type} {p : Nat → Bool} {f : α → β} {l : List α} {k : Nat} : (selF p l k).map f = selF p (l.map f) k := by
  unfold selF
  rw [List.map_filterMap]
  congr 1
  funext i
  simp
theorem selF_len {α β : Type} {p : Nat → Bool} {l : List α} {m : List β} : ∀ {k : Nat}, k ≤ l.length → k ≤ m.length → (selF p l k).length = (selF p m k).length
  | 0, _, _ => rfl
  | k + 1, h1, h2 => by
    rw [selF_step (l := l) (by omega), selF_step (l := m) (by omega), List.length_append, List.length_append, selF_len (k := k) (l := l) (m := m) (by omega) (by omega)]
    split <;> rfl
theorem selF_rows {β : Type} {p : Nat → Bool} {g : Nat → β} {n : Nat} : ∀ {k : Nat}, k ≤ n → selF p ((List.range n).map g) k = ((List.range k).filter p).map g
  | 0, _ => rfl
  | k + 1, h => by
    rw [selF_step (by simp; omega), selF_rows (by omega), List.range_succ, List.filter_append, List.map_append]
    congr 1
    by_cases hp : p k = true
    · simp [hp]
    · simp [hp]
theorem selF_circ {p : Nat → Bool} {l : List PeerV} (h : IsCircle l) (hn : (selF p l l.length).length ≠ 0) : IsCircle (selF p l l.length) := by
  have hs : (selF p l l.length).Sublist l := by have := selF_sub (p := p) (l := l) (Nat.le_refl _); rwa [List.take_length] at this
  have hl := hs.length_le
  exact ⟨⟨by omega, by have := h.1; omega⟩, fun q hq => h.2.1 q (hs.subset hq), h.2.2.1.sublist (hs.map _), h.2.2.2.sublist hs⟩
theorem nodup_le : ∀ {a b : List Int}, a.Nodup → (∀ x ∈ a, x ∈ b) → a.length ≤ b.length
  | [], b, _, _ => Nat.zero_le _
  | x :: a, b, hn, hs => by
    have h1 := List.nodup_cons.1 hn
    have hx := hs x (.head _)
    have h2 := nodup_le (a := a) (b := b.erase x) h1.2 fun y hy => (List.mem_erase_of_ne (fun e => h1.1 (by rw [← e]; exact hy))).2 (hs y (.tail _ hy))
    rw [List.length_erase_of_mem hx] at h2
    have h3 := List.length_pos_of_mem hx
    rw [List.length_cons]; omega
/-- Fewer than r are gone, and not all: one that has to keep a key is left. -/
theorem one_left {l : List PeerV} {r : Int} (h : IsCircle l) (hr : 1 ≤ r ∧ r ≤ 8) {gone : List Int} (hg : (gone.length : Int) < r) {i0 : Nat} (hi : i0 < l.length) (hi0 : (i0 : Int) ∉ gone) (x : Plc) : ∃ i : Nat, i < l.length ∧ (i : Int) ∉ gone ∧ keepsR l r (i : Int) x = true := by
  have hcop := copies_at h hr (x := x) rfl
  refine Classical.byContradiction fun hno => ?_
  have hsub : ∀ y ∈ (copiesR l x r).1, y ∈ gone := fun y hy => by
    obtain ⟨j, hj, rfl⟩ := List.getElem_of_mem hy
    obtain ⟨i, e, hil⟩ := hcop.2 j hj
    refine Classical.byContradiction fun hn => hno ⟨i, hil, by rw [← e]; exact hn, ?_⟩
    unfold keepsR
    exact decide_eq_true (by rw [← e]; exact hy)
  have hle := nodup_le hcop.1 hsub
  obtain ⟨rn, rfl⟩ : ∃ n : Nat, r = n := ⟨r.toNat, by omega⟩
  have ho : ownerI l x < l.length := ownerI_lt (by have := h.1; omega)
  rw [copiesR_yes h (by omega) (by omega)] at hle hsub
  simp only [List.length_map, List.length_range] at hle hsub
  rcases Nat.lt_or_ge l.length rn with h9 | h9
  · rw [Nat.min_eq_right (by omega)] at hsub
    refine hi0 (hsub _ (List.mem_map.2 ⟨if ownerI l x ≤ i0 then i0 - ownerI l x else i0 + l.length - ownerI l x, List.mem_range.2 ?_, ?_⟩))
    · split <;> omega
    · split
      · rw [mod_two (by omega), if_pos (by omega)]; congr 1; omega
      · rw [mod_two (by omega), if_neg (by omega)]; congr 1; omega
  · rw [Nat.min_eq_left h9] at hle; omega
theorem survive {l : List PeerV} {r : Int} {all X : List (Sl HeldV)} {gone : List Int} (h : healR l r (plss all) = (plss X, 0)) (hg : (gone.length : Int) < r) {p : Nat → Bool} (hp : ∀ i : Nat, p i = decide (¬ (i : Int) ∈ gone)) (hne : (selF p l l.length).length ≠ 0) {B : List (List Hd)} {e : Int} (hB : healR (selF p l l.length) r (plss (selF p X l.length)) = (B, e)) :
    e = 0 ∧ IsCircle (selF p l l.length) ∧ wholeR (selF p l l.length) r B ∧ ∀ (i : Nat) (hi : i < X.length) (q : Sl HeldV), X[i] = q → ∀ (j : Nat) (hj : j < q.l.length), ∃ (o : Nat) (ho : o < B.length), ownerI (selF p l l.length) q.l[j].key = o ∧ findS B[o] q.l[j].key = some q.l[j].cell.pl := by
  obtain ⟨hc, hS, hX⟩ := healR_yes h
  obtain ⟨S, hSe⟩ : ∃ S, ofS mergedT (plss all) = S := ⟨_, rfl⟩
  rw [hSe] at hS hX
  have hcr := selF_circ hc.1 hne
  have hxl : X.length = l.length := by have := congrArg List.length hX; rwa [plss_len, heals_len] at this
  have hrows : plss (selF p X l.length) = ((List.range l.length).filter p).map (keptL l r S) := by
    unfold plss
    rw [selF_map]
    show selF p (plss X) l.length = _
    rw [hX]
    exact selF_rows (Nat.le_refl _)
  have hi0 : ∃ i0 : Nat, i0 < l.length ∧ (i0 : Int) ∉ gone := by
    refine Classical.byContradiction fun hno => hne ?_
    have : (List.range l.length).filter p = [] := List.filter_eq_nil_iff.2 fun i hi hpi => hno ⟨i, List.mem_range.1 hi, by rw [hp] at hpi; simpa using hpi⟩
    unfold selF
    rw [this]; rfl
  obtain ⟨i0, hi1, hi2⟩ := hi0
  have ho : ofS mergedT (plss (selF p X l.length)) = S := by
    rw [hrows]
    refine ofS_rows hS.2 fun x hx => ?_
    obtain ⟨i, g1, g2, g3⟩ := one_left hc.1 hc.2.1 hg hi1 hi2 x.key
    exact ⟨i, List.mem_filter.2 ⟨List.mem_range.2 g1, by rw [hp]; simpa using g2⟩, g3⟩
  have hcs : CircSt (selF p l l.length) r (plss (selF p X l.length)) := by
    refine ⟨hcr, hc.2.1, ?_, fun s hs => ?_⟩
    · rw [plss_len]; exact selF_len (by omega) (Nat.le_refl _)
    · rw [hrows] at hs
      obtain ⟨i, _, rfl⟩ := List.mem_map.1 hs
      exact keptL_st hS
  rw [healR_ok hcs (by rw [ho]; exact hS.1), ho] at hB
  cases hB
  refine ⟨rfl, hcr, heals_whole hcr hc.2.1 hS, fun i hi q hq j hj => ?_⟩
  subst hq
  have hol : ownerI (selF p l l.length) X[i].l[j].key < (healsL (selF p l l.length) r S).length := by rw [heals_len]; exact ownerI_lt (by have := hcr.1; omega)
  refine ⟨_, hol, rfl, ?_⟩
  rw [heals_at hol, keptL_find, owner_keeps hcr hc.2.1, if_pos rfl]
  have hm : HeldV.pl X[i].l[j] ∈ S := by
    have e1 : pls X[i].l = keptL l r S i := by
      rw [← plss_at hi]
      have h1 : i < (healsL l r S).length := by rw [heals_len]; omega
      rw [← heals_at h1]
      congr 1
    have h2 : HeldV.pl X[i].l[j] ∈ pls X[i].l := List.mem_map_of_mem (List.getElem_mem hj)
    rw [e1] at h2
    exact (List.mem_filter.1 h2).1
  exact findS_mem (keys_nodup hS.2.2) hm
end Go.Esp
/-
  The law of those that are left.
-/
set_option linter.unusedSimpArgs false
set_option linter.unusedVariables false
set_option linter.unnecessarySimpa false
set_option maxRecDepth 8000
set_option maxHeartbeats 1000000
namespace Go.Proofs.Ytbafnjniijodfaa
open Go.Esp


theorem lawSurvives_ok (M : Mem) (l : (Sl PeerV)) (r : Int) (all : (Sl (Sl HeldV))) (gone : (Sl Int)) (hl0 : SlK M PeerV.segs 21 l) (hall1 : SlK M (fun x => [Seg.one (Sl.val x)]) 1 all) (hall2 : ∀ y ∈ (all).l, SlK M HeldV.segs 24 y ∧ ∀ y1 ∈ (y).l, HeldV.ok M y1) (hgone3 : SlK M (oneI .i64) 1 gone) : Esp.Fn Try.prog 7 [Sl.val l, .int .i64 r, Sl.val all, Sl.val gone] M (fun _ v => v = .bool true) := by
  obtain ⟨l_a, l_c, l_l⟩ := l
  obtain ⟨all_a, all_c, all_l⟩ := all
  obtain ⟨gone_a, gone_c, gone_l⟩ := gone
  have k_l : SlK M PeerV.segs 21 ⟨l_a, l_c, l_l⟩ := hl0
  have s_l : SlM M l_a (l_l.map PeerV.segs) 21 := k_l.h1
  have n_l : (l_l.map PeerV.segs).length = l_l.length := List.length_map ..
  have m_l : l_l.length ≤ 9223372036854775807 := k_l.h2
  have c_l : l_l.length ≤ l_c := k_l.h3
  have k_all : SlK M (fun x => [Seg.one (Sl.val x)]) 1 ⟨all_a, all_c, all_l⟩ := hall1
  have s_all : SlM M all_a (all_l.map (fun x => [Seg.one (Sl.val x)])) 1 := k_all.h1
  have n_all : (all_l.map (fun x => [Seg.one (Sl.val x)])).length = all_l.length := List.length_map ..
  have m_all : all_l.length ≤ 9223372036854775807 := k_all.h2
  have c_all : all_l.length ≤ all_c := k_all.h3
  have k_gone : SlK M (oneI .i64) 1 ⟨gone_a, gone_c, gone_l⟩ := hgone3
  have s_gone : SlM M gone_a (gone_l.map (oneI .i64)) 1 := k_gone.h1
  have n_gone : (gone_l.map (oneI .i64)).length = gone_l.length := List.length_map ..
  have m_gone : gone_l.length ≤ 9223372036854775807 := k_gone.h2
  have c_gone : gone_l.length ≤ gone_c := k_gone.h3
  obtain ⟨⟨R1, e1⟩, hR1⟩ : ∃ x, healR l_l r (plss all_l) = x := ⟨_, rfl⟩
  obtain ⟨p9, hp9⟩ : ∃ p : Nat → Bool, ∀ i : Nat, p i = decide (¬ (i : Int) ∈ gone_l) := ⟨_, fun _ => rfl⟩
  refine fn_enter Try.func7 rfl Try.ntmps7 rfl ?_; intro H
  refine C_seq ?_
  refine C_region (l := [0]) rfl ?_
  refine Y_assign ?_
  refine XD_end ?_
  refine K_then ?_
  iterate 2 refine C_seq ?_
  refine C_region (l := [0, 1, 2, 3, 4, 5, 6, 7, 8, 9, 10, 11, 12, 13, 14, 15, 16, 17]) rfl ?_
  refine Y_move ?_
  refine Y_len_sl F.elem22 ?_
  refine Y_cmp ?_
  refine Y_move ?_
  refine XD_part 27 rfl (fun hc1 => ?_) (fun hc1 => ?_)
  ·replace hc1 := dT hc1
   iterate 2 refine Y_skip ?_
   refine Y_pick ?_
   refine Y_move ?_
   iterate 4 refine Y_skip ?_
   refine Y_pick ?_
   refine Y_move ?_
   iterate 3 refine Y_skip ?_
   refine Y_pick ?_
   refine XD_end ?_
   refine K_then ?_
   refine Y_pk [41, 8, 0, 1, 2, 3] ?_
   refine C_true rfl ?_
   refine C_seq ?_
   refine C_region (l := [0, 1]) rfl ?_
   refine X_fn rfl rfl F.ok11 rfl (healed_ok _) rfl ?_
   rintro _ M9 hm9 rfl
   refine Y_assign ?_
   refine XD_end ?_
   refine K_then ?_
   refine Y_pk [8, 0, 1, 2, 3] ?_
   refine C_ret ?_
   refine K_ret ?_
   refine K_end (.inr rfl) (.tmp rfl .nil) (fun w hw => ?_)
   refine ⟨_, _, rfl, (by assumption), hw.c, ?_⟩
   clear hw
   rfl
  ·replace hc1 := dF hc1
   refine Y_move ?_
   refine X_fs rfl rfl F.ok8 rfl (Many_ok _ ⟨all_a, all_c, all_l⟩ (k_all.mono (by exact Mem.le.refl _)) (fun y hy => ⟨(hall2 y hy).1.mono (by exact Mem.le.refl _), fun h hh => ((hall2 y hy).2 h hh).mono (by exact Mem.le.refl _)⟩)) rfl ?_
   rintro _ ⟨bb, rfl⟩
   refine Y_pick ?_
   refine Y_move ?_
   refine XD_part 31 rfl (fun hc2 => ?_) (fun hc2 => ?_)
   ·skip
    iterate 4 refine Y_skip ?_
    refine Y_pick ?_
    refine Y_move ?_
    iterate 3 refine Y_skip ?_
    refine Y_pick ?_
    refine XD_end ?_
    refine K_then ?_
    refine Y_pk [41, 8, 0, 1, 2, 3] ?_
    refine C_true rfl ?_
    refine C_seq ?_
    refine C_region (l := [0, 1]) rfl ?_
    refine X_fn rfl rfl F.ok11 rfl (healed_ok _) rfl ?_
    rintro _ M9 hm9 rfl
    refine Y_assign ?_
    refine XD_end ?_
    refine K_then ?_
    refine Y_pk [8, 0, 1, 2, 3] ?_
    refine C_ret ?_
    refine K_ret ?_
    refine K_end (.inr rfl) (.tmp rfl .nil) (fun w hw => ?_)
    refine ⟨_, _, rfl, (by assumption), hw.c, ?_⟩
    clear hw
    rfl
   ·skip
    refine Y_move ?_
    refine Y_len_sl F.elem52 ?_
    refine Y_move ?_
    refine Y_cmp ?_
    refine Y_pick ?_
    refine Y_move ?_
    refine XD_part 37 rfl (fun hc3 => ?_) (fun hc3 => ?_)
    ·replace hc3 := dT hc3
     iterate 3 refine Y_skip ?_
     refine Y_pick ?_
     refine XD_end ?_
     refine K_then ?_
     refine Y_pk [41, 8, 0, 1, 2, 3] ?_
     refine C_true rfl ?_
     refine C_seq ?_
     refine C_region (l := [0, 1]) rfl ?_
     refine X_fn rfl rfl F.ok11 rfl (healed_ok _) rfl ?_
     rintro _ M9 hm9 rfl
     refine Y_assign ?_
     refine XD_end ?_
     refine K_then ?_
     refine Y_pk [8, 0, 1, 2, 3] ?_
     refine C_ret ?_
     refine K_ret ?_
     refine K_end (.inr rfl) (.tmp rfl .nil) (fun w hw => ?_)
     refine ⟨_, _, rfl, (by assumption), hw.c, ?_⟩
     clear hw
     rfl
    ·replace hc3 := dF hc3
     refine Y_move ?_
     refine Y_len_sl F.elem52 ?_
     refine Y_cmp ?_
     refine Y_pick ?_
     refine XD_end ?_
     refine K_then ?_
     refine Y_pk [41, 8, 0, 1, 2, 3] ?_
     refine C_cond rfl (fun hc4 => ?_) (fun hc4 => ?_)
     ·replace hc4 := dT hc4
      refine C_seq ?_
      refine C_region (l := [0, 1]) rfl ?_
      refine X_fn rfl rfl F.ok11 rfl (healed_ok _) rfl ?_
      rintro _ M9 hm9 rfl
      refine Y_assign ?_
      refine XD_end ?_
      refine K_then ?_
      refine Y_pk [8, 0, 1, 2, 3] ?_
      refine C_ret ?_
      refine K_ret ?_
      refine K_end (.inr rfl) (.tmp rfl .nil) (fun w hw => ?_)
      refine ⟨_, _, rfl, (by assumption), hw.c, ?_⟩
      clear hw
      rfl
     ·replace hc4 := dF hc4
      refine C_skip ?_
      refine K_then ?_
      refine Y_pk [8, 0, 1, 2, 3] ?_
      refine C_seq ?_
      refine C_region (l := [0, 1, 2, 3, 4, 5, 6, 7, 8]) rfl ?_
      iterate 3 refine Y_move ?_
      refine X_fn rfl rfl F.ok9 rfl (Heal_ok _ ⟨l_a, l_c, l_l⟩ r ⟨all_a, all_c, all_l⟩ (k_l.mono (by exact Mem.le.refl _)) (k_all.mono (by exact Mem.le.refl _)) (fun y hy => ⟨(hall2 y hy).1.mono (by exact Mem.le.refl _), fun h hh => ((hall2 y hy).2 h hh).mono (by exact Mem.le.refl _)⟩)) rfl ?_
      rintro _ M1 hm1 hv
      replace hv : AllE _ _ (healR l_l r (plss all_l)) := hv
      rw [hR1] at hv
      obtain ⟨⟨x1_a, x1_c, x1_l⟩, rfl, g1, k1, o1⟩ := hv
      simp only at g1 o1
      refine Y_move ?_
      iterate 2 refine Y_extract ?_
      iterate 2 refine Y_assign ?_
      refine XD_end ?_
      refine K_then ?_
      refine Y_pk [10, 9, 8, 0, 1, 3] ?_
      iterate 2 refine C_seq ?_
      refine C_region (l := [0, 1]) rfl ?_
      refine Y_move ?_
      refine Y_cmp ?_
      refine XD_end ?_
      refine K_then ?_
      refine Y_pk [51, 9, 8, 0, 1, 3] ?_
      refine C_cond rfl (fun hc5 => ?_) (fun hc5 => ?_)
      ·replace hc5 := nT hc5
       simp only [AnswerV.eta, MarkV.eta, CellV.eta, HeldV.eta, PeerV.eta] at hc5
       refine C_seq ?_
       refine C_region (l := [0, 1]) rfl ?_
       refine X_fn rfl rfl F.ok11 rfl (healed_ok _) rfl ?_
       rintro _ M9 hm9 rfl
       refine Y_assign ?_
       refine XD_end ?_
       refine K_then ?_
       refine Y_pk [8, 9, 0, 1, 3] ?_
       refine C_ret ?_
       refine K_ret ?_
       refine K_end (.inr rfl) (.tmp rfl .nil) (fun w hw => ?_)
       refine ⟨_, _, rfl, (by (repeat first | assumption | refine Mem.le.trans (by assumption) ?_)), hw.c, ?_⟩
       clear hw
       rfl
      ·replace hc5 := nF hc5
       simp only [AnswerV.eta, MarkV.eta, CellV.eta, HeldV.eta, PeerV.eta] at hc5
       refine C_skip ?_
       refine K_then ?_
       refine Y_pk [9, 8, 0, 1, 3] ?_
       refine C_seq ?_
       have he0 : e1 = 0 := by first | assumption | omega
       subst he0
       subst g1
       have s_l1 := s_l.mono hm1
       have s_gone1 := s_gone.mono hm1
       have s_x1 := k1.h1
       try simp only at s_x1
       have m_x1 : x1_l.length ≤ 9223372036854775807 := k1.h2
       have n_x1 : (x1_l.map fun x => ([Seg.one (Sl.val x)] : Segs)).length = x1_l.length := List.length_map ..
       have hyes := healR_yes hR1
       have hxl : x1_l.length = l_l.length := by have h9 := congrArg List.length hyes.2.2; rwa [plss_len, heals_len] at h9
       have hl16 := hyes.1.1.1.2
       have hgl : (gone_l.length : Int) < r := by omega
       refine C_region (l := [0]) rfl ?_
       refine Y_assign ?_
       refine XD_end ?_
       refine K_then ?_
       refine C_seq ?_
       refine C_region (l := [0]) rfl ?_
       refine Y_assign ?_
       refine XD_end ?_
       refine K_then ?_
       iterate 2 refine C_seq ?_
       refine C_region (l := [0]) rfl ?_
       refine Y_assign ?_
       refine XD_end ?_
       refine K_then ?_
       refine C_block ?_
       refine Y_pk [13, 11, 12, 9, 8, 0, 1, 3] ?_
       refine C_loopO (Hin := []) (.succ (.succ (.succ .zero))) (by repeat first | exact Rem.here _ | exact Rem.two | apply Rem.skip | apply Rem.over) (fun (i : Nat) M2 h2 z => ∃ v1 v2 hs1 hs2, M2 = M1 ∧ z = [(13, .int .i64 (i : Int)), (11, v1), (12, v2)] ∧ i ≤ l_l.length ∧ h2 = hs1 ++ hs2 ∧ OSl 54 21 v1 hs1 ((selF p9 l_l i).map PeerV.segs) ∧ OSl 31 1 v2 hs2 ((selF p9 x1_l i).map fun x : Sl HeldV => ([.one (Sl.val x)] : Segs))) (fun i => l_l.length - i) (0) (⟨_, _, [], [], rfl, rfl, by omega, rfl, OSl.nil, OSl.nil⟩) ?_
       rintro i M2 h2 z hm2 ⟨v1, v2, hs1, hs2, hM2, rfl, hi, rfl, ho1, ho2⟩
       subst M2
       obtain ⟨ad1, cp1, rfl⟩ := ho1.val
       obtain ⟨ad2, cp2, rfl⟩ := ho2.val
       have hml1 : ((selF p9 l_l i).map PeerV.segs).length = (selF p9 l_l i).length := List.length_map ..
       have hml2 : ((selF p9 x1_l i).map fun x : Sl HeldV => ([.one (Sl.val x)] : Segs)).length = (selF p9 x1_l i).length := List.length_map ..
       rw [hml1] at ho1 ⊢
       rw [hml2] at ho2 ⊢
       simp only [List.append_assoc]
       have hsl1 : (selF p9 l_l i).length ≤ 16 := Nat.le_trans (selF_sub hi).length_le (by rw [List.length_take]; omega)
       have hsl2 : (selF p9 x1_l i).length ≤ 16 := Nat.le_trans (selF_sub (by omega)).length_le (by rw [List.length_take]; omega)
       iterate 2 refine C_seq ?_
       refine C_region (l := [0, 1, 2, 3, 4, 5, 6, 7, 8, 9]) rfl ?_
       iterate 2 refine Y_move ?_
       refine Y_len_sl F.elem22 ?_
       refine Y_cmp ?_
       refine Y_move ?_
       refine XD_part 57 rfl (fun hc6 => ?_) (fun hc6 => ?_)
       ·replace hc6 := dT hc6
        iterate 2 refine Y_move ?_
        refine Y_len_sl F.elem23 ?_
        refine Y_cmp ?_
        refine Y_pick ?_
        refine XD_end ?_
        refine K_then ?_
        refine C_cond rfl (fun hc7 => ?_) (fun hc7 => ?_)
        ·replace hc7 := dT hc7
         refine C_skip ?_
         refine K_then ?_
         refine C_seq ?_
         refine C_block ?_
         refine C_seq ?_
         refine C_region (l := [0]) rfl ?_
         refine Y_assign ?_
         refine XD_end ?_
         refine K_then ?_
         iterate 2 refine C_seq ?_
         refine C_region (l := [0]) rfl ?_
         refine Y_assign ?_
         refine XD_end ?_
         refine K_then ?_
         refine C_block ?_
         refine Y_pk [15, 14, 62, 61, 60, 59, 58, 57, 56, 55, 54, 53, 13, 11, 12, 9, 8, 0, 1, 3] ?_
         refine C_loopS (.succ (.succ .zero)) (fun (j : Nat) z => ∃ b : Bool, z = [(15, .int .i64 (j : Int)), (14, .bool b)] ∧ j ≤ gone_l.length ∧ b = decide ((i : Int) ∈ gone_l.take j)) (fun j => gone_l.length - j) (0) (⟨false, rfl, by omega, by simp⟩) ?_
         rintro j _ ⟨b, rfl, hj, hb⟩
         iterate 2 refine C_seq ?_
         refine C_region (l := [0, 1, 2, 3]) rfl ?_
         iterate 2 refine Y_move ?_
         refine Y_len_sl F.elem52 ?_
         refine Y_cmp ?_
         refine XD_end ?_
         refine K_then ?_
         refine C_cond rfl (fun hc8 => ?_) (fun hc8 => ?_)
         ·replace hc8 := dT hc8
          refine C_skip ?_
          refine K_then ?_
          refine C_seq ?_
          refine C_block ?_
          refine C_region (l := [0, 1, 2, 3, 4, 5, 6, 7, 8, 9]) rfl ?_
          iterate 2 refine Y_move ?_
          refine XD_part 72 rfl (fun hc9 => ?_) (fun hc9 => ?_)
          ·skip
           iterate 6 refine Y_skip ?_
           refine Y_pick ?_
           refine Y_assign ?_
           refine XD_end ?_
           refine K_out ?_
           refine K_then ?_
           refine C_region (l := [0, 1, 2]) rfl ?_
           refine Y_move ?_
           refine X_ari rfl rfl rfl rfl rfl (by exact wrap_in (by decide) (by omega)) rfl ?_
           refine Y_assign ?_
           refine XD_end ?_
           refine K_roundS (a' := [(15, _), (14, _)]) (j + 1) (.cons (k := 15) rfl (.cons (k := 14) rfl (.cons (k := 62) rfl (.cons (k := 61) rfl (.cons (k := 60) rfl (.cons (k := 59) rfl (.cons (k := 58) rfl (.cons (k := 57) rfl (.cons (k := 56) rfl (.cons (k := 55) rfl (.cons (k := 54) rfl (.cons (k := 53) rfl (.cons (k := 13) rfl (.cons (k := 11) rfl (.cons (k := 12) rfl (.cons (k := 9) rfl (.cons (k := 8) rfl (.cons (k := 0) rfl (.cons (k := 1) rfl (.cons (k := 3) rfl (.nil))))))))))))))))))))) (fun w hw => by first | exact hw | exact hw.c) ?_ ?_
           ·refine ⟨_, rfl, by omega, ?_⟩
            rw [List.take_add_one, List.getElem?_eq_getElem (show j < gone_l.length by omega)]
            simp only [Option.toList_some, List.mem_append, List.mem_singleton]
            (simp_all; done)
           ·omega
          ·skip
           iterate 2 refine Y_move ?_
           refine X_indexAddr rfl rfl rfl rfl F.elem52 (by rfl) (by omega) (by exact SlM.plain (by assumption) (by (simp; omega))) rfl ?_
           refine X_load_el rfl rfl rfl (by assumption) (by exact row_map (by omega)) F.lay3 rfl rfl rfl ?_
           refine Y_move ?_
           refine Y_cmp ?_
           refine Y_pick ?_
           refine Y_assign ?_
           refine XD_end ?_
           refine K_out ?_
           refine K_then ?_
           refine C_region (l := [0, 1, 2]) rfl ?_
           refine Y_move ?_
           refine X_ari rfl rfl rfl rfl rfl (by exact wrap_in (by decide) (by omega)) rfl ?_
           refine Y_assign ?_
           refine XD_end ?_
           refine K_roundS (a' := [(15, _), (14, _)]) (j + 1) (.cons (k := 15) rfl (.cons (k := 14) rfl (.cons (k := 62) rfl (.cons (k := 61) rfl (.cons (k := 60) rfl (.cons (k := 59) rfl (.cons (k := 58) rfl (.cons (k := 57) rfl (.cons (k := 56) rfl (.cons (k := 55) rfl (.cons (k := 54) rfl (.cons (k := 53) rfl (.cons (k := 13) rfl (.cons (k := 11) rfl (.cons (k := 12) rfl (.cons (k := 9) rfl (.cons (k := 8) rfl (.cons (k := 0) rfl (.cons (k := 1) rfl (.cons (k := 3) rfl (.nil))))))))))))))))))))) (fun w hw => by first | exact hw | exact hw.c) ?_ ?_
           ·refine ⟨_, rfl, by omega, ?_⟩
            rw [List.take_add_one, List.getElem?_eq_getElem (show j < gone_l.length by omega)]
            simp only [Option.toList_some, List.mem_append, List.mem_singleton]
            (simp_all [eqX, eq_comm]; done)
           ·omega
         ·replace hc8 := dF hc8
          refine C_exit ?_
          iterate 2 refine K_exit ?_
          refine K_hit ?_
          refine K_then ?_
          refine C_seq ?_
          obtain rfl : j = gone_l.length := by omega
          rw [List.take_length] at hb
          refine C_region (l := [0, 1]) rfl ?_
          refine Y_move ?_
          refine Y_not ?_
          refine XD_end ?_
          refine K_then ?_
          refine C_cond rfl (fun hc10 => ?_) (fun hc10 => ?_)
          ·skip
           refine C_seq ?_
           refine C_region (l := [0, 1, 2, 3, 4, 5, 6, 7]) rfl ?_
           iterate 3 refine Y_move ?_
           refine X_indexAddr rfl rfl rfl rfl F.elem22 (by rfl) (by omega) (by exact SlM.plain (by assumption) (by (simp; omega))) rfl ?_
           refine X_load_el rfl rfl rfl (by assumption) (by exact row_map (by omega)) F.lay54 rfl rfl rfl ?_
           refine X_buildSliceF rfl rfl F.elem22 F.zero54 rfl rfl (.cons rfl (by constructor) .nil) rfl rfl (by simp only [List.map_cons, List.map_nil] <;> rfl) rfl ?_; intro b11 hob12
           refine X_append (m := 1000000) rfl rfl rfl rfl rfl F.elem22 F.zero54 (by exact agg_size rfl) rfl (by assumption) (by repeat first | exact Rem.here _ | exact Rem.two | apply Rem.skip | apply Rem.over) (Src.own hob12.lens (by (refine rows_one1 ?_; (repeat (first | exact flat_nil | refine flat_id ?_ | (refine flat_one ?_ ?_; rfl))); done)) rfl (by repeat first | exact List.Mem.head _ | refine List.Mem.tail _ ?_ | refine List.mem_append_right _ ?_)) (by (simp; omega)) (by decide) rfl ?_; intro v15 hs14 ho13; obtain ⟨adv15, cpv15, rfl⟩ := ho13.val
           refine Y_assign ?_
           refine XD_end ?_
           refine K_then ?_
           refine C_region (l := [0, 1, 2, 3, 4, 5, 6, 7]) rfl ?_
           iterate 3 refine Y_move ?_
           refine X_indexAddr rfl rfl rfl rfl F.elem23 (by rfl) (by omega) (by exact SlM.plain (by assumption) (by (simp; omega))) rfl ?_
           refine X_load_el rfl rfl rfl (by assumption) (by exact row_map (by omega)) F.lay31 rfl rfl rfl ?_
           refine X_buildSliceF rfl rfl F.elem23 F.zero31 rfl rfl (.cons rfl (by constructor) .nil) rfl rfl (by simp only [List.map_cons, List.map_nil] <;> rfl) rfl ?_; intro b16 hob17
           refine X_append (m := 1000000) rfl rfl rfl rfl rfl F.elem23 F.zero31 (by rfl) rfl (by assumption) (by repeat first | exact Rem.here _ | exact Rem.two | apply Rem.skip | apply Rem.over) (Src.own hob17.lens (by (refine rows_one1 ?_; (repeat (first | exact flat_nil | refine flat_id ?_ | (refine flat_one ?_ ?_; rfl))); done)) rfl (by repeat first | exact List.Mem.head _ | refine List.Mem.tail _ ?_ | refine List.mem_append_right _ ?_)) (by (simp; omega)) (by decide) rfl ?_; intro v20 hs19 ho18; obtain ⟨adv20, cpv20, rfl⟩ := ho18.val
           refine Y_assign ?_
           refine XD_end ?_
           refine K_out ?_
           refine K_then ?_
           refine C_region (l := [0, 1, 2]) rfl ?_
           refine Y_move ?_
           refine X_ari rfl rfl rfl rfl rfl (by exact wrap_in (by decide) (by omega)) rfl ?_
           refine Y_assign ?_
           refine XD_end ?_
           refine K_roundO (a' := [(13, _), (11, _), (12, _)]) (i + 1) ((hs14 ++ hs19)) (.cons (k := 13) rfl (.cons (k := 11) rfl (.cons (k := 12) rfl (.cons (k := 9) rfl (.cons (k := 8) rfl (.cons (k := 0) rfl (.cons (k := 1) rfl (.cons (k := 3) rfl (.nil))))))))) (by exact Mem.le.refl _) (fun w hw => by first | exact hw | exact hw.c) ?_ ?_
           ·refine ⟨_, _, _, _, rfl, rfl, by omega, rfl, ?_, ?_⟩
            ·rw [selF_step (by omega), show p9 i = true from by rw [hp9]; first | (simp_all; done) | exact decide_eq_true (by assumption)]
             simp only [if_true, List.map_append]
             exact ho13
            ·rw [selF_step (by omega), show p9 i = true from by rw [hp9]; first | (simp_all; done) | exact decide_eq_true (by assumption)]
             simp only [if_true, List.map_append]
             exact ho18
           ·omega
          ·skip
           refine C_skip ?_
           refine K_out ?_
           refine K_then ?_
           refine C_region (l := [0, 1, 2]) rfl ?_
           refine Y_move ?_
           refine X_ari rfl rfl rfl rfl rfl (by exact wrap_in (by decide) (by omega)) rfl ?_
           refine Y_assign ?_
           refine XD_end ?_
           refine K_roundO (a' := [(13, _), (11, _), (12, _)]) (i + 1) ((hs1 ++ hs2)) (.cons (k := 13) rfl (.cons (k := 11) rfl (.cons (k := 12) rfl (.cons (k := 9) rfl (.cons (k := 8) rfl (.cons (k := 0) rfl (.cons (k := 1) rfl (.cons (k := 3) rfl (.nil))))))))) (by exact Mem.le.refl _) (fun w hw => by first | exact hw | exact hw.c) ?_ ?_
           ·refine ⟨_, _, _, _, rfl, rfl, by omega, rfl, ?_, ?_⟩
            ·rw [selF_step (by omega), show p9 i = false from by rw [hp9]; first | (simp_all; done) | exact decide_eq_false (fun h9 => h9 (by assumption))]
             simp only [Bool.false_eq_true, if_false, List.append_nil]
             rw [← hml1] at ho1 ⊢
             exact ho1
            ·rw [selF_step (by omega), show p9 i = false from by rw [hp9]; first | (simp_all; done) | exact decide_eq_false (fun h9 => h9 (by assumption))]
             simp only [Bool.false_eq_true, if_false, List.append_nil]
             rw [← hml2] at ho2 ⊢
             exact ho2
           ·omega
        ·replace hc7 := dF hc7
         (exfalso; omega)
       ·replace hc6 := dF hc6
        iterate 4 refine Y_skip ?_
        refine Y_pick ?_
        refine XD_end ?_
        refine K_then ?_
        refine C_false rfl ?_
        refine C_exit ?_
        iterate 2 refine K_exit ?_
        refine K_hit ?_
        refine K_then ?_
        refine Y_pk [11, 12, 9, 8, 1] ?_
        iterate 2 refine C_seq ?_
        refine C_region (l := [0, 1, 2]) rfl ?_
        refine Y_move ?_
        refine Y_len_sl F.elem22 ?_
        refine Y_cmp ?_
        refine XD_end ?_
        refine K_then ?_
        refine Y_pk [98, 11, 12, 9, 8, 1] ?_
        refine C_cond rfl (fun hc21 => ?_) (fun hc21 => ?_)
        ·replace hc21 := dT hc21
         refine C_seq ?_
         refine C_region (l := [0, 1]) rfl ?_
         refine X_fn rfl rfl F.ok11 rfl (healed_ok _) rfl ?_
         rintro _ M9 hm9 rfl
         refine Y_assign ?_
         refine XD_end ?_
         refine K_then ?_
         refine Y_pk [8, 11, 12, 9, 1] ?_
         refine C_ret ?_
         refine K_ret ?_
         refine K_end (.inr rfl) (.tmp rfl .nil) (fun w hw => ?_)
         refine ⟨_, _, rfl, (by (repeat first | assumption | refine Mem.le.trans (by assumption) ?_)), hw.c, ?_⟩
         clear hw
         rfl
        ·replace hc21 := dF hc21
         refine C_skip ?_
         refine K_then ?_
         refine Y_pk [11, 12, 9, 8, 1] ?_
         refine C_seq ?_
         obtain rfl : i = l_l.length := by omega
         have hne9 : (selF p9 l_l l_l.length).length ≠ 0 := by omega
         refine C_frz ho1 (by repeat first | exact Rem.here _ | exact Rem.two | apply Rem.skip | apply Rem.over) (fun M2 hm2 k_r => ?_)
         refine C_frz ho2 (by repeat first | exact Rem.here _ | exact Rem.two | apply Rem.skip | apply Rem.over) (fun M3 hm3 k_k => ?_)
         refine C_region (l := [0, 1, 2, 3, 4, 5, 6, 7, 8]) rfl ?_
         iterate 3 refine Y_move ?_
         refine X_fn rfl rfl F.ok9 rfl (Heal_ok _ ⟨ad1, cp1, selF p9 l_l l_l.length⟩ r ⟨ad2, cp2, selF p9 x1_l l_l.length⟩ (k_r.mono hm3) k_k (fun s hs => ⟨(o1 s (selF_mem (by omega) hs)).1.mono (hm2.trans hm3), fun h hh => ((o1 s (selF_mem (by omega) hs)).2 h hh).mono (hm2.trans hm3)⟩)) rfl ?_
         rintro _ M4 hm4 hv
         replace hv : AllE _ _ (healR (selF p9 l_l l_l.length) r (plss (selF p9 x1_l l_l.length))) := hv
         obtain ⟨⟨B9, e2⟩, hB⟩ : ∃ x, healR (selF p9 l_l l_l.length) r (plss (selF p9 x1_l l_l.length)) = x := ⟨_, rfl⟩
         rw [hB] at hv
         obtain ⟨he2, hcr, hwr, hsv⟩ := survive hR1 hgl hp9 hne9 hB
         subst he2
         obtain ⟨⟨x2_a, x2_c, x2_l⟩, rfl, g2, k2, o2⟩ := hv
         simp only at g2 o2
         subst g2
         have s_x2 := k2.h1
         try simp only at s_x2
         have m_x2 : x2_l.length ≤ 9223372036854775807 := k2.h2
         have n_x2 : (x2_l.map fun x => ([Seg.one (Sl.val x)] : Segs)).length = x2_l.length := List.length_map ..
         have hmm4 := hm2.trans (hm3.trans hm4)
         have s_x14 := s_x1.mono hmm4
         refine Y_move ?_
         iterate 2 refine Y_extract ?_
         iterate 2 refine Y_assign ?_
         refine XD_end ?_
         refine K_then ?_
         refine Y_pk [17, 16, 11, 9, 8, 1] ?_
         iterate 2 refine C_seq ?_
         refine C_region (l := [0, 1]) rfl ?_
         refine Y_move ?_
         refine Y_cmp ?_
         refine XD_end ?_
         refine K_then ?_
         refine Y_pk [108, 16, 11, 9, 8, 1] ?_
         refine C_cond rfl (fun hc22 => ?_) (fun hc22 => ?_)
         ·replace hc22 := nT hc22
          simp only [AnswerV.eta, MarkV.eta, CellV.eta, HeldV.eta, PeerV.eta] at hc22
          (exfalso; simp [eqX] at hc22; done)
         ·replace hc22 := nF hc22
          simp only [AnswerV.eta, MarkV.eta, CellV.eta, HeldV.eta, PeerV.eta] at hc22
          refine C_skip ?_
          refine K_then ?_
          refine Y_pk [16, 11, 9, 8, 1] ?_
          iterate 2 refine C_seq ?_
          refine C_region (l := [0]) rfl ?_
          refine Y_assign ?_
          refine XD_end ?_
          refine K_then ?_
          refine C_block ?_
          refine Y_pk [18, 16, 11, 9, 8, 1] ?_
          refine C_loopS (.succ .zero) (fun (k : Nat) z => z = [(18, .int .i64 (k : Int))] ∧ k ≤ x1_l.length) (fun k => x1_l.length - k) (0) (⟨rfl, by omega⟩) ?_
          rintro k _ ⟨rfl, hk⟩
          iterate 2 refine C_seq ?_
          refine C_region (l := [0, 1, 2, 3]) rfl ?_
          iterate 2 refine Y_move ?_
          refine Y_len_sl F.elem23 ?_
          refine Y_cmp ?_
          refine XD_end ?_
          refine K_then ?_
          refine C_cond rfl (fun hc23 => ?_) (fun hc23 => ?_)
          ·replace hc23 := dT hc23
           refine C_skip ?_
           refine K_then ?_
           refine C_seq ?_
           refine C_block ?_
           refine C_seq ?_
           obtain ⟨⟨q_a, q_c, q_l⟩, hq⟩ : ∃ q, x1_l[k]'(by omega) = q := ⟨_, rfl⟩
           have hqm : (⟨q_a, q_c, q_l⟩ : Sl HeldV) ∈ x1_l := by rw [← hq]; exact List.getElem_mem (by omega)
           obtain ⟨k_q, l_q⟩ := o1 _ hqm
           try simp only at l_q
           have s_q1 := k_q.h1.mono hmm4
           try simp only at s_q1
           have m_q : q_l.length ≤ 9223372036854775807 := k_q.h2
           have n_q : (q_l.map HeldV.segs).length = q_l.length := List.length_map ..
           refine C_region (l := [0]) rfl ?_
           refine Y_assign ?_
           refine XD_end ?_
           refine K_then ?_
           refine C_block ?_
           refine Y_pk [19, 112, 111, 110, 109, 18, 16, 11, 9, 8, 1] ?_
           refine C_loopS (.succ .zero) (fun (j : Nat) z => z = [(19, .int .i64 (j : Int))] ∧ j ≤ q_l.length) (fun j => q_l.length - j) (0) (⟨rfl, by omega⟩) ?_
           rintro j _ ⟨rfl, hj⟩
           iterate 2 refine C_seq ?_
           refine C_region (l := [0, 1, 2, 3, 4, 5, 6]) rfl ?_
           iterate 3 refine Y_move ?_
           refine X_indexAddr rfl rfl rfl rfl F.elem23 (by rfl) (by omega) (by exact SlM.plain (by assumption) (by (simp; omega))) rfl ?_
           refine X_load_el rfl rfl rfl (by assumption) (by exact row_map (by omega)) F.lay31 rfl rfl rfl ?_
           rw [hq]
           refine Y_len_sl F.elem31 ?_
           refine Y_cmp ?_
           refine XD_end ?_
           refine K_then ?_
           refine C_cond rfl (fun hc24 => ?_) (fun hc24 => ?_)
           ·replace hc24 := dT hc24
            refine C_skip ?_
            refine K_then ?_
            refine C_seq ?_
            refine C_block ?_
            refine C_seq ?_
            obtain ⟨o9, ho9, hog, hf9⟩ := hsv k (show k < x1_l.length by omega) _ hq j (show j < q_l.length by omega)
            rw [plss_len] at ho9
            rw [plss_at ho9] at hf9
            replace hog : ownerI (selF p9 l_l l_l.length) q_l[j].key = o9 := hog
            replace hf9 : findS (pls x2_l[o9].l) q_l[j].key = some q_l[j].cell.pl := hf9
            obtain ⟨⟨y_a, y_c, y_l⟩, hy⟩ : ∃ y, x2_l[o9] = y := ⟨_, rfl⟩
            rw [hy] at hf9
            try simp only at hf9
            have hym : (⟨y_a, y_c, y_l⟩ : Sl HeldV) ∈ x2_l := by rw [← hy]; exact List.getElem_mem _
            obtain ⟨k_y, l_y⟩ := o2 _ hym
            try simp only at l_y
            refine C_region (l := [0, 1, 2, 3, 4, 5, 6, 7, 8, 9, 10, 11, 12, 13, 14]) rfl ?_
            iterate 3 refine Y_move ?_
            refine X_indexAddr rfl rfl rfl rfl F.elem23 (by rfl) (by omega) (by exact SlM.plain (by assumption) (by (simp; omega))) rfl ?_
            refine X_load_el rfl rfl rfl (by assumption) (by exact row_map (by omega)) F.lay31 rfl rfl rfl ?_
            rw [hq]
            refine Y_move ?_
            refine X_indexAddr rfl rfl rfl rfl F.elem31 (by rfl) (by omega) (by exact SlM.plain (by assumption) (by (simp; omega))) rfl ?_
            refine X_fieldAddr_el rfl rfl rfl (by exact SlM.plain (by assumption) (by (simp; omega))) F.foff49_0 rfl ?_
            refine X_load_el rfl rfl rfl (by assumption) (by exact row_map (by omega)) F.lay33 rfl rfl rfl ?_
            refine X_fs rfl rfl F.ok27 rfl (Owner_ok _ ⟨ad1, cp1, selF p9 l_l l_l.length⟩ q_l[j].key (k_r.mono (hm3.trans hm4))) rfl ?_
            rintro _ hv
            replace hv : _ = ofII (ownerR (selF p9 l_l l_l.length) q_l[j].key) := hv
            rw [show ownerR (selF p9 l_l l_l.length) q_l[j].key = (((o9 : Nat) : Int), 0) from by unfold ownerR; rw [if_pos hcr, hog]] at hv
            subst hv
            refine Y_move ?_
            iterate 2 refine Y_extract ?_
            iterate 2 refine Y_assign ?_
            refine XD_end ?_
            refine K_then ?_
            iterate 2 refine C_seq ?_
            refine C_region (l := [0, 1, 2, 3, 4, 5, 6, 7, 8, 9, 10, 11]) rfl ?_
            refine Y_move ?_
            refine Y_cmp ?_
            refine Y_move ?_
            refine XD_part 139 rfl (fun hc25 => ?_) (fun hc25 => ?_)
            ·replace hc25 := nT hc25
             simp only [AnswerV.eta, MarkV.eta, CellV.eta, HeldV.eta, PeerV.eta] at hc25
             (exfalso; simp [eqX] at hc25; done)
            ·replace hc25 := nF hc25
             simp only [AnswerV.eta, MarkV.eta, CellV.eta, HeldV.eta, PeerV.eta] at hc25
             refine Y_move ?_
             refine Y_cmp ?_
             refine Y_pick ?_
             refine Y_move ?_
             refine XD_part 143 rfl (fun hc26 => ?_) (fun hc26 => ?_)
             ·replace hc26 := dT hc26
              simp only [AnswerV.eta, MarkV.eta, CellV.eta, HeldV.eta, PeerV.eta] at hc26
              (exfalso; omega)
             ·replace hc26 := dF hc26
              simp only [AnswerV.eta, MarkV.eta, CellV.eta, HeldV.eta, PeerV.eta] at hc26
              iterate 2 refine Y_move ?_
              refine Y_len_sl F.elem23 ?_
              refine Y_cmp ?_
              refine Y_pick ?_
              refine XD_end ?_
              refine K_then ?_
              refine C_cond rfl (fun hc27 => ?_) (fun hc27 => ?_)
              ·replace hc27 := dT hc27
               simp only [AnswerV.eta, MarkV.eta, CellV.eta, HeldV.eta, PeerV.eta] at hc27
               (exfalso; omega)
              ·replace hc27 := dF hc27
               simp only [AnswerV.eta, MarkV.eta, CellV.eta, HeldV.eta, PeerV.eta] at hc27
               refine C_skip ?_
               refine K_then ?_
               refine C_seq ?_
               refine C_region_any (l := [0, 1, 2, 3, 4, 5, 6, 7, 8, 9, 10, 11, 12, 13, 14, 15, 16, 17, 18]) #[0, 0, 3, 7, 0, 0, 48, 112, 0, 496, 1008, 2032, 4095, 8191, 16383, 16383, 0, 98303, 262143] _ rfl (by kernel_rfl) (by kernel_rfl) St.drawn (fun _ h => h) ?_
               iterate 2 refine Y_move ?_
               refine X_indexAddr rfl rfl rfl rfl F.elem23 (by rfl) (by omega) (by exact SlM.plain (by assumption) (by (simp; omega))) rfl ?_
               refine X_load_el rfl rfl rfl (by assumption) (by exact row_map (by omega)) F.lay31 rfl rfl rfl ?_
               rw [hy]
               iterate 2 refine Y_move ?_
               refine X_indexAddr rfl rfl rfl rfl F.elem23 (by rfl) (by omega) (by exact SlM.plain (by assumption) (by (simp; omega))) rfl ?_
               refine X_load_el rfl rfl rfl (by assumption) (by exact row_map (by omega)) F.lay31 rfl rfl rfl ?_
               rw [hq]
               refine Y_move ?_
               refine X_indexAddr rfl rfl rfl rfl F.elem31 (by rfl) (by omega) (by exact SlM.plain (by assumption) (by (simp; omega))) rfl ?_
               refine X_fieldAddr_el rfl rfl rfl (by exact SlM.plain (by assumption) (by (simp; omega))) F.foff49_0 rfl ?_
               refine X_load_el rfl rfl rfl (by assumption) (by exact row_map (by omega)) F.lay33 rfl rfl rfl ?_
               refine X_fs rfl rfl F.ok17 rfl (Find_ok _ ⟨y_a, y_c, y_l⟩ q_l[j].key k_y l_y) rfl ?_
               rintro _ hv
               obtain ⟨⟨xc, xb⟩, hx⟩ : ∃ r, findX y_l q_l[j].key = r := ⟨_, rfl⟩
               replace hv : _ = findXv (findX y_l q_l[j].key) := hv
               rw [hx] at hv
               subst hv
               have hfx := findX_S hx
               rw [hf9] at hfx
               obtain ⟨rfl, hxc⟩ : xb = true ∧ q_l[j].cell.pl = xc.pl := by
                cases xb
                ·cases hfx
                ·exact ⟨rfl, Option.some.inj hfx⟩
               obtain ⟨y9, gg1, gg2, gg3⟩ := findX_mem (l := y_l) (k := q_l[j].key) (by rw [hx])
               rw [hx] at gg3
               simp only at gg3
               have okx := (l_y y9 gg1).h0
               rw [gg3] at okx
               obtain ⟨x_v, x_h, x_s, ⟨x_a, x_c, x_l⟩⟩ := xc
               refine Y_move ?_
               iterate 2 refine Y_extract ?_
               refine Y_alloc F.zero37 ?_; intro b28
               refine Y_store F.lay37 ?_
               refine Y_assign ?_
               refine XD_end ?_
               refine K_then ?_
               refine C_seq ?_
               refine C_region_any (l := [0, 1, 2, 3, 4, 5, 6, 7, 8, 9, 10, 11, 12, 13, 14]) #[0, 1, 3, 7, 7, 7, 55, 119, 7, 503, 1015, 2039, 4095, 8191, 16383] _ rfl (by kernel_rfl) (by kernel_rfl) St.drawn (fun _ h => h) ?_
               refine Y_move ?_
               refine Y_not ?_
               refine Y_move ?_
               refine XD_part 167 rfl (fun hc29 => ?_) (fun hc29 => ?_)
               ·skip
                simp only [AnswerV.eta, MarkV.eta, CellV.eta, HeldV.eta, PeerV.eta] at hc29
                (exfalso; simp [eqX] at hc29; done)
               ·skip
                simp only [AnswerV.eta, MarkV.eta, CellV.eta, HeldV.eta, PeerV.eta] at hc29
                refine Y_load F.lay37 ?_
                iterate 2 refine Y_move ?_
                refine X_indexAddr rfl rfl rfl rfl F.elem23 (by rfl) (by omega) (by exact SlM.plain (by assumption) (by (simp; omega))) rfl ?_
                refine X_load_el rfl rfl rfl (by assumption) (by exact row_map (by omega)) F.lay31 rfl rfl rfl ?_
                rw [hq]
                refine Y_move ?_
                refine X_indexAddr rfl rfl rfl rfl F.elem31 (by rfl) (by omega) (by exact SlM.plain (by assumption) (by (simp; omega))) rfl ?_
                refine X_fieldAddr_el rfl rfl rfl (by exact SlM.plain (by assumption) (by (simp; omega))) F.foff49_1 rfl ?_
                refine X_load_el rfl rfl rfl (by assumption) (by exact row_map (by omega)) F.lay37 rfl rfl rfl ?_
                refine X_fs rfl rfl F.ok25 rfl (SameC_ok _ ⟨x_v, x_h, x_s, ⟨x_a, x_c, x_l⟩⟩ q_l[j].cell okx ((l_q _ (List.getElem_mem (show j < q_l.length by omega))).h0.mono hmm4)) rfl ?_
                rintro _ hv
                rw [decide_eq_true hxc.symm] at hv
                subst hv
                refine Y_not ?_
                refine Y_pick ?_
                refine XD_end ?_
                refine K_then ?_
                refine C_cond rfl (fun hc30 => ?_) (fun hc30 => ?_)
                ·skip
                 (exfalso; simp [eqX] at hc30; done)
                ·skip
                 refine C_skip ?_
                 refine K_out ?_
                 refine K_then ?_
                 refine C_region (l := [0, 1, 2]) rfl ?_
                 refine Y_move ?_
                 refine X_ari rfl rfl rfl rfl rfl (by exact wrap_in (by decide) (by omega)) rfl ?_
                 refine Y_assign ?_
                 refine XD_end ?_
                 refine K_roundS (a' := [(19, _)]) (j + 1) (.cons (k := 19) rfl (.cons (k := 112) rfl (.cons (k := 111) rfl (.cons (k := 110) rfl (.cons (k := 109) rfl (.cons (k := 18) rfl (.cons (k := 16) rfl (.cons (k := 11) rfl (.cons (k := 9) rfl (.cons (k := 8) rfl (.cons (k := 1) rfl (.nil)))))))))))) (fun w hw => by first | exact hw | exact hw.c) ?_ ?_
                 ·exact ⟨rfl, by omega⟩
                 ·omega
           ·replace hc24 := dF hc24
            refine C_exit ?_
            iterate 2 refine K_exit ?_
            refine K_hit ?_
            refine K_out ?_
            refine K_then ?_
            refine C_region (l := [0, 1, 2]) rfl ?_
            refine Y_move ?_
            refine X_ari rfl rfl rfl rfl rfl (by exact wrap_in (by decide) (by omega)) rfl ?_
            refine Y_assign ?_
            refine XD_end ?_
            refine K_roundS (a' := [(18, _)]) (k + 1) (.cons (k := 18) rfl (.cons (k := 16) rfl (.cons (k := 11) rfl (.cons (k := 9) rfl (.cons (k := 8) rfl (.cons (k := 1) rfl (.nil))))))) (fun w hw => by first | exact hw | exact hw.c) ?_ ?_
            ·exact ⟨rfl, by omega⟩
            ·omega
          ·replace hc23 := dF hc23
           refine C_exit ?_
           iterate 2 refine K_exit ?_
           refine K_hit ?_
           refine K_then ?_
           refine Y_pk [16, 11, 8, 1] ?_
           refine C_seq ?_
           refine C_region (l := [0, 1, 2, 3, 4, 5, 6, 7]) rfl ?_
           refine X_fn rfl rfl F.ok11 rfl (healed_ok _) rfl ?_
           rintro _ M9 hm9 rfl
           refine Y_move ?_
           refine XD_part 181 rfl (fun hc31 => ?_) (fun hc31 => ?_)
           ·skip
            simp only [AnswerV.eta, MarkV.eta, CellV.eta, HeldV.eta, PeerV.eta] at hc31
            iterate 3 refine Y_move ?_
            refine X_fn rfl rfl F.ok13 rfl (Whole_ok _ ⟨ad1, cp1, selF p9 l_l l_l.length⟩ r ⟨x2_a, x2_c, x2_l⟩ (k_r.mono (by (repeat first | assumption | refine Mem.le.trans (by assumption) ?_))) (k2.mono (by assumption)) (fun y hy => ⟨(o2 y hy).1.mono (by assumption), fun h hh => ((o2 y hy).2 h hh).mono (by assumption)⟩)) rfl ?_
            rintro _ M10 hm10 hv
            replace hv : _ = Value.bool (decide (wholeR (selF p9 l_l l_l.length) r (plss x2_l))) := hv
            rw [decide_eq_true hwr] at hv
            subst hv
            refine Y_pick ?_
            refine Y_assign ?_
            refine XD_end ?_
            refine K_then ?_
            refine Y_pk [8] ?_
            refine C_ret ?_
            refine K_end (.inr rfl) (.tmp rfl .nil) (fun w hw => ?_)
            refine ⟨_, _, rfl, (by (repeat first | assumption | refine Mem.le.trans (by assumption) ?_)), hw.c, ?_⟩
            clear hw
            rfl
           ·skip
            (exfalso; simp [eqX] at hc31; done)

end Go.Proofs.Ytbafnjniijodfaa
