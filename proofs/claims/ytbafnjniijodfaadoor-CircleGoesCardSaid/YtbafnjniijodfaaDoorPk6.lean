/-
  Texts of this claim, one behind the other: T18, T19.
-/
import Derived.Test.YtbafnjniijodfaaDoorPk5
/-
  Circles: fingers.
-/
set_option linter.unusedSimpArgs false
set_option linter.unusedVariables false
set_option linter.unnecessarySimpa false
set_option maxRecDepth 8000
set_option maxHeartbeats 1000000
namespace Go.Proofs.YtbafnjniijodfaaDoor
open Go.Esp
theorem F.ok26 : okFn Tryd.prog 26 = true := by kernel_rfl

theorem lawFingers_ok (M : Mem) (l : (Sl PeerV)) (i : Int) (hl0 : SlK M PeerV.segs 21 l) (hM : M.dr = 0) : Esp.Fn Tryd.prog 7 [Sl.val l, .int .i64 i] M (fun _ v => v = .bool true) := by
  obtain ⟨l_a, l_c, l_l⟩ := l
  have k_l : SlK M PeerV.segs 21 ⟨l_a, l_c, l_l⟩ := hl0
  have s_l : SlM M l_a (l_l.map PeerV.segs) 21 := k_l.h1
  have n_l : (l_l.map PeerV.segs).length = l_l.length := List.length_map ..
  have m_l : l_l.length ≤ 9223372036854775807 := k_l.h2
  have c_l : l_l.length ≤ l_c := k_l.h3
  refine fn_enter Tryd.func7 rfl Tryd.ntmps7 rfl ?_; intro H
  refine C_seq ?_
  refine C_region (l := [0]) rfl ?_
  refine X_assign rfl rfl rfl rfl ?_
  refine XD_end ?_
  refine K_then ?_
  refine C_seq ?_
  refine C_seq ?_
  refine C_region (l := [0, 1, 2]) rfl ?_
  refine X_move rfl rfl rfl rfl ?_
  refine X_len_sl rfl rfl rfl rfl F.elem23 rfl ?_
  refine X_cmp rfl rfl rfl rfl rfl rfl ?_
  refine XD_end ?_
  refine K_then ?_
  refine C_pick (.cons (k := 15) rfl (.cons (k := 4) rfl (.cons (k := 0) rfl (.cons (k := 1) rfl .nil)))) ?_
  refine C_cond rfl (fun hc1 => ?_) (fun hc1 => ?_)
  · first | replace hc1 := dT hc1 | replace hc1 := dF hc1 | replace hc1 := nT hc1 | replace hc1 := nF hc1 | skip
    try simp only [PeerV.eta] at hc1
    first
    | (exfalso; omega)
    | (exfalso; simp [eqX] at hc1; done)
    | contradiction
    | skip
      refine C_seq ?_
      refine C_region (l := [0]) rfl ?_
      refine X_assign rfl rfl rfl rfl ?_
      refine XD_end ?_
      refine K_then ?_
      refine C_pick (.cons (k := 4) rfl (.cons (k := 0) rfl (.cons (k := 1) rfl .nil))) ?_
      refine C_ret ?_
      refine K_ret ?_
      refine K_end (.inr rfl) (.tmp rfl .nil) (fun w hw => ?_)
      refine ⟨_, _, rfl, (by first | exact Mem.le.refl _ | assumption | (repeat first | assumption | refine Mem.le.trans (by assumption) ?_)), hw.cnt (by intro zz; first | exact Nat.le_refl _ | (simp only [cnt_app, cnt_cons, cnt_nil, cat, List.append_eq, List.append_assoc, List.cons_append, List.nil_append, List.append_nil]; omega) | (simp only [cnt_app, cnt_cons, cnt_nil, cat, List.append_eq, List.append_assoc, List.cons_append, List.nil_append, List.append_nil, PeerV.segs]; omega)), ?_⟩
      clear hw
      first | rfl | exact congrArg Value.bool (decide_eq_true (by omega)) | (simp; done) | (simp; rfl) | (simp_all; done)
  · first | replace hc1 := dT hc1 | replace hc1 := dF hc1 | replace hc1 := nT hc1 | replace hc1 := nF hc1 | skip
    try simp only [PeerV.eta] at hc1
    first
    | (exfalso; omega)
    | (exfalso; simp [eqX] at hc1; done)
    | contradiction
    | skip
      refine C_skip ?_
      refine K_then ?_
      refine C_pick (.cons (k := 4) rfl (.cons (k := 0) rfl (.cons (k := 1) rfl .nil))) ?_
      refine C_seq ?_
      refine C_region (l := [0, 1, 2, 3, 4, 5, 6, 7]) rfl ?_
      refine X_move rfl rfl rfl rfl ?_
      refine X_move rfl rfl rfl rfl ?_
      refine X_fn rfl rfl F.ok20 rfl (Fingers_ok _ ⟨l_a, l_c, l_l⟩ i k_l) rfl ?_
      rintro _ M1 hm1 hv
      replace hv : IntsE _ _ (fingersR l_l i) := hv
      obtain ⟨⟨FL, fe⟩, hfe⟩ : ∃ x, fingersR l_l i = x := ⟨_, rfl⟩
      rw [hfe] at hv
      obtain ⟨⟨fa, fc, fl⟩, rfl, hf, k_f⟩ := hv
      simp only at hf
      subst hf
      have s_l1 := s_l.mono hm1
      have m_f : fl.length ≤ 9223372036854775807 := k_f.h2
      refine X_move rfl rfl rfl rfl ?_
      refine X_extract rfl rfl rfl rfl rfl ?_
      refine X_extract rfl rfl rfl rfl rfl ?_
      refine X_assign rfl rfl rfl rfl ?_
      refine X_assign rfl rfl rfl rfl ?_
      refine XD_end ?_
      refine K_then ?_
      refine C_pick (.cons (k := 6) rfl (.cons (k := 5) rfl (.cons (k := 4) rfl (.cons (k := 0) rfl (.cons (k := 1) rfl .nil))))) ?_
      refine C_seq ?_
      refine C_seq ?_
      refine C_region (l := [0, 1]) rfl ?_
      refine X_move rfl rfl rfl rfl ?_
      refine X_cmp rfl rfl rfl rfl rfl rfl ?_
      refine XD_end ?_
      refine K_then ?_
      refine C_pick (.cons (k := 23) rfl (.cons (k := 5) rfl (.cons (k := 4) rfl (.cons (k := 0) rfl (.cons (k := 1) rfl .nil))))) ?_
      refine C_cond rfl (fun hc2 => ?_) (fun hc2 => ?_)
      · first | replace hc2 := dT hc2 | replace hc2 := dF hc2 | replace hc2 := nT hc2 | replace hc2 := nF hc2 | skip
        try simp only [PeerV.eta] at hc2
        first
        | (exfalso; omega)
        | (exfalso; simp [eqX] at hc2; done)
        | contradiction
        | skip
          refine C_seq ?_
          have hnil : fl = [] := by
            unfold fingersR at hfe; split at hfe
            · cases hfe; exact absurd rfl (by assumption)
            · cases hfe; rfl
          subst hnil
          refine C_region (l := [0, 1, 2, 3, 4, 5, 6]) rfl ?_
          refine X_fn rfl rfl F.ok10 rfl (rounded_ok _ (Mem.le.loose (by first | exact Mem.le.refl _ | assumption | (repeat first | assumption | refine Mem.le.trans (by assumption) ?_)) hM)) rfl ?_
          rintro _ M9 hm9 rfl
          refine X_move rfl rfl rfl rfl ?_
          refine XD_part 25 rfl (fun hc3 => ?_) (fun hc3 => ?_)
          · first | replace hc3 := dT hc3 | replace hc3 := dF hc3 | replace hc3 := nT hc3 | replace hc3 := nF hc3 | skip
            try simp only [PeerV.eta] at hc3
            first
            | (exfalso; omega)
            | (exfalso; simp [eqX] at hc3; done)
            | contradiction
            | skip
              refine X_move rfl rfl rfl rfl ?_
              refine X_len_sl rfl rfl rfl rfl F.elem22 rfl ?_
              refine X_cmp rfl rfl rfl rfl rfl rfl ?_
              refine X_pick rfl rfl rfl rfl rfl ?_
              refine X_assign rfl rfl rfl rfl ?_
              refine XD_end ?_
              refine K_then ?_
              refine C_pick (.cons (k := 4) rfl (.cons (k := 5) rfl (.cons (k := 0) rfl (.cons (k := 1) rfl .nil)))) ?_
              refine C_ret ?_
              refine K_ret ?_
              refine K_end (.inr rfl) (.tmp rfl .nil) (fun w hw => ?_)
              refine ⟨_, _, rfl, (by first | exact Mem.le.refl _ | assumption | (repeat first | assumption | refine Mem.le.trans (by assumption) ?_)), hw.cnt (by intro zz; first | exact Nat.le_refl _ | (simp only [cnt_app, cnt_cons, cnt_nil, cat, List.append_eq, List.append_assoc, List.cons_append, List.nil_append, List.append_nil]; omega) | (simp only [cnt_app, cnt_cons, cnt_nil, cat, List.append_eq, List.append_assoc, List.cons_append, List.nil_append, List.append_nil, PeerV.segs]; omega)), ?_⟩
              clear hw
              first | rfl | exact congrArg Value.bool (decide_eq_true (by omega)) | (simp; done) | (simp; rfl) | (simp_all; done)
          · first | replace hc3 := dT hc3 | replace hc3 := dF hc3 | replace hc3 := nT hc3 | replace hc3 := nF hc3 | skip
            try simp only [PeerV.eta] at hc3
            first | (exfalso; omega) | (exfalso; simp [eqX] at hc3; done) | contradiction
      · first | replace hc2 := dT hc2 | replace hc2 := dF hc2 | replace hc2 := nT hc2 | replace hc2 := nF hc2 | skip
        try simp only [PeerV.eta] at hc2
        first
        | (exfalso; omega)
        | (exfalso; simp [eqX] at hc2; done)
        | contradiction
        | skip
          refine C_skip ?_
          refine K_then ?_
          refine C_pick (.cons (k := 5) rfl (.cons (k := 4) rfl (.cons (k := 0) rfl (.cons (k := 1) rfl .nil)))) ?_
          refine C_seq ?_
          refine C_seq ?_
          have hyes : IsCircle l_l ∧ 0 ≤ i ∧ i < l_l.length := by
            unfold fingersR at hfe; split at hfe
            · assumption
            · cases hfe; exfalso; omega
          obtain ⟨hc, hi0, hi1⟩ := hyes
          obtain ⟨n, rfl⟩ : ∃ n : Nat, i = n := ⟨i.toNat, by omega⟩
          have hn : n < l_l.length := by omega
          have hc1 := hc.1
          rw [fingersR_yes hc hn] at hfe
          obtain ⟨hfl, _⟩ := Prod.mk.inj hfe
          have nfl : fl.length = 160 := by rw [← hfl]; simp
          have s_f := k_f.h1
          simp only at s_f
          have n_f : (fl.map (oneI .i64)).length = fl.length := List.length_map ..
          refine C_region (l := [0, 1, 2, 3, 4, 5, 6, 7, 8, 9, 10, 11, 12]) rfl ?_
          refine X_move rfl rfl rfl rfl ?_
          refine X_len_sl rfl rfl rfl rfl F.elem22 rfl ?_
          refine X_cmp rfl rfl rfl rfl rfl rfl ?_
          refine X_move rfl rfl rfl rfl ?_
          refine XD_part 33 rfl (fun hc4 => ?_) (fun hc4 => ?_)
          · first | replace hc4 := dT hc4 | replace hc4 := dF hc4 | replace hc4 := nT hc4 | replace hc4 := nF hc4 | skip
            try simp only [PeerV.eta] at hc4
            first | (exfalso; omega) | (exfalso; simp [eqX] at hc4; done) | contradiction
          · first | replace hc4 := dT hc4 | replace hc4 := dF hc4 | replace hc4 := nT hc4 | replace hc4 := nF hc4 | skip
            try simp only [PeerV.eta] at hc4
            first
            | (exfalso; omega)
            | (exfalso; simp [eqX] at hc4; done)
            | contradiction
            | skip
              refine X_move rfl rfl rfl rfl ?_
              refine X_cmp rfl rfl rfl rfl rfl rfl ?_
              refine X_pick rfl rfl rfl rfl rfl ?_
              refine X_move rfl rfl rfl rfl ?_
              refine XD_part 37 rfl (fun hc5 => ?_) (fun hc5 => ?_)
              · first | replace hc5 := dT hc5 | replace hc5 := dF hc5 | replace hc5 := nT hc5 | replace hc5 := nF hc5 | skip
                try simp only [PeerV.eta] at hc5
                first | (exfalso; omega) | (exfalso; simp [eqX] at hc5; done) | contradiction
              · first | replace hc5 := dT hc5 | replace hc5 := dF hc5 | replace hc5 := nT hc5 | replace hc5 := nF hc5 | skip
                try simp only [PeerV.eta] at hc5
                first
                | (exfalso; omega)
                | (exfalso; simp [eqX] at hc5; done)
                | contradiction
                | skip
                  refine X_move rfl rfl rfl rfl ?_
                  refine X_move rfl rfl rfl rfl ?_
                  refine X_len_sl rfl rfl rfl rfl F.elem23 rfl ?_
                  refine X_cmp rfl rfl rfl rfl rfl rfl ?_
                  refine X_pick rfl rfl rfl rfl rfl ?_
                  refine XD_end ?_
                  refine K_then ?_
                  refine C_pick (.cons (k := 42) rfl (.cons (k := 5) rfl (.cons (k := 4) rfl (.cons (k := 0) rfl (.cons (k := 1) rfl .nil))))) ?_
                  refine C_cond rfl (fun hc6 => ?_) (fun hc6 => ?_)
                  · first | replace hc6 := dT hc6 | replace hc6 := dF hc6 | replace hc6 := nT hc6 | replace hc6 := nF hc6 | skip
                    try simp only [PeerV.eta] at hc6
                    first | (exfalso; omega) | (exfalso; simp [eqX] at hc6; done) | contradiction
                  · first | replace hc6 := dT hc6 | replace hc6 := dF hc6 | replace hc6 := nT hc6 | replace hc6 := nF hc6 | skip
                    try simp only [PeerV.eta] at hc6
                    first
                    | (exfalso; omega)
                    | (exfalso; simp [eqX] at hc6; done)
                    | contradiction
                    | skip
                      refine C_skip ?_
                      refine K_then ?_
                      refine C_pick (.cons (k := 5) rfl (.cons (k := 4) rfl (.cons (k := 0) rfl (.cons (k := 1) rfl .nil)))) ?_
                      refine C_seq ?_
                      refine C_seq ?_
                      refine C_region (l := [0]) rfl ?_
                      refine X_assign rfl rfl rfl rfl ?_
                      refine XD_end ?_
                      refine K_then ?_
                      refine C_block ?_
                      refine C_pick (.cons (k := 7) rfl (.cons (k := 5) rfl (.cons (k := 4) rfl (.cons (k := 0) rfl (.cons (k := 1) rfl .nil))))) ?_
                      refine C_loopO (Hin := []) (.succ .zero) (by repeat first | exact Rem.here _ | exact Rem.two | apply Rem.skip | apply Rem.over) (fun (k : Nat) M5 h5 z => M5 = M1 ∧ h5 = [] ∧ z = [(7, .int .i64 (k : Int))] ∧ k ≤ 160) (fun k => 160 - k) (0) (⟨rfl, rfl, rfl, by omega⟩) ?_
                      rintro k M5 h5 z hm5 ⟨hM5, rfl, rfl, hk⟩
                      subst M5
                      refine C_seq ?_
                      refine C_seq ?_
                      refine C_region (l := [0, 1, 2, 3]) rfl ?_
                      refine X_move rfl rfl rfl rfl ?_
                      refine X_move rfl rfl rfl rfl ?_
                      refine X_len_sl rfl rfl rfl rfl F.elem22 rfl ?_
                      refine X_cmp rfl rfl rfl rfl rfl rfl ?_
                      refine XD_end ?_
                      refine K_then ?_
                      refine C_cond rfl (fun hc7 => ?_) (fun hc7 => ?_)
                      · first | replace hc7 := dT hc7 | replace hc7 := dF hc7 | replace hc7 := nT hc7 | replace hc7 := nF hc7 | skip
                        try simp only [PeerV.eta] at hc7
                        first
                        | (exfalso; omega)
                        | (exfalso; simp [eqX] at hc7; done)
                        | contradiction
                        | skip
                          refine C_skip ?_
                          refine K_then ?_
                          refine C_seq ?_
                          refine C_block ?_
                          refine C_seq ?_
                          refine C_region (l := [0, 1, 2, 3, 4, 5, 6, 7]) rfl ?_
                          refine X_move rfl rfl rfl rfl ?_
                          refine X_fs rfl rfl F.ok24 rfl (Power_ok_in _ k (by omega)) rfl ?_
                          rintro _ rfl
                          refine X_move rfl rfl rfl rfl ?_
                          refine X_extract rfl rfl rfl rfl rfl ?_
                          refine X_extract rfl rfl rfl rfl rfl ?_
                          refine X_alloc rfl rfl F.zero32 (by constructor) rfl ?_; intro b8
                          refine X_store rfl rfl rfl rfl (by constructor) (by first | ((try simp only [cat, List.cons_append, List.nil_append, List.append_nil]); (repeat (first | exact flat_nil | refine flat_id ?_ | (refine flat_one ?_ ?_; rfl))); done) | exact PeerV.flat _ | exact PeerV.flat ⟨_, _⟩ | exact stFlat _ | exact phS_flat _ | exact phR_flat | (simp [flat, cat, Segs.cells, Seg.cells, Value.oneCell']; done)) (by repeat first | exact Upd.head | apply Upd.tail | apply Upd.over) F.lay32 rfl rfl ?_
                          refine X_assign rfl rfl rfl rfl ?_
                          refine XD_end ?_
                          refine K_then ?_
                          refine C_seq ?_
                          refine C_seq ?_
                          obtain ⟨o9, hog⟩ : ∃ o, ownerI l_l (l_l[n].id + powP k) = o := ⟨_, rfl⟩
                          have ho9 : o9 < l_l.length := by rw [← hog]; exact ownerI_lt (by omega)
                          have hfk : fl[k]'(by omega) = ((o9 : Nat) : Int) := by simp only [← hfl, List.getElem_map, List.getElem_range, fingerAt, hog]
                          refine C_region (l := [0, 1, 2, 3, 4, 5, 6, 7, 8, 9, 10, 11, 12, 13, 14, 15, 16, 17]) rfl ?_
                          refine X_move rfl rfl rfl rfl ?_
                          refine X_move rfl rfl rfl rfl ?_
                          refine X_indexAddr rfl rfl rfl rfl F.elem22 (by first | rfl | exact (Int.toNat_of_nonneg (by omega)).symm) (by first | omega | (simp; done) | (simp; omega)) (by first | exact ⟨_, _, rfl⟩ | assumption | exact SlM.plain (by assumption) (by first | (simp; done) | (simp; omega)) | exact RdS.plain (by assumption) (by first | (simp; done) | (simp; omega)) | exact OSl.plain (by assumption) (by first | (simp; done) | (simp; omega))) rfl ?_
                          first | refine X_load rfl rfl rfl (by repeat first | exact List.Mem.head _ | refine List.Mem.tail _ ?_ | refine List.mem_append_right _ ?_) F.lay3 rfl rfl rfl ?_ | refine X_load_el rfl rfl rfl (by first | assumption | exact SlM.mono (by assumption) (by assumption)) (by first | exact row_map (by omega) | exact List.getElem?_eq_getElem (by omega) | exact rfl | exact row_map (by first | (simp; done) | (simp; omega))) F.lay3 rfl rfl rfl ?_ | refine X_load_rd rfl rfl rfl (by assumption) (by first | exact row_map (by omega) | exact List.getElem?_eq_getElem (by omega) | exact rfl | exact row_map (by first | (simp; done) | (simp; omega))) F.lay3 rfl rfl rfl ?_ | refine X_load_mem rfl rfl rfl (by first | assumption | exact Mem.get_of (by assumption) (by repeat first | assumption | refine Mem.le.trans (by assumption) ?_)) F.lay3 rfl rfl rfl ?_ | refine X_load_osl rfl rfl rfl (by assumption) (by repeat first | exact Rem.here _ | exact Rem.two | apply Rem.skip | apply Rem.over) (by first | exact row_map (by omega) | exact List.getElem?_eq_getElem (by omega) | exact rfl | exact row_map (by first | (simp; done) | (simp; omega))) F.lay3 rfl rfl rfl ?_ | refine X_load_cell rfl rfl rfl (by repeat first | exact List.Mem.head _ | refine List.Mem.tail _ ?_ | refine List.mem_append_right _ ?_) F.lay3 (by first | exact id_at (by first | omega | decide) | exact arr_at (by first | omega | decide)) rfl ?_
                          refine XD_is 57 rfl (congrArg (Value.int .i64) hfk) ?_
                          refine X_cmp rfl rfl rfl rfl rfl rfl ?_
                          refine X_move rfl rfl rfl rfl ?_
                          refine XD_part 59 rfl (fun hc9 => ?_) (fun hc9 => ?_)
                          · first | replace hc9 := dT hc9 | replace hc9 := dF hc9 | replace hc9 := nT hc9 | replace hc9 := nF hc9 | skip
                            try simp only [PeerV.eta] at hc9
                            first | (exfalso; omega) | (exfalso; simp [eqX] at hc9; done) | contradiction
                          · first | replace hc9 := dT hc9 | replace hc9 := dF hc9 | replace hc9 := nT hc9 | replace hc9 := nF hc9 | skip
                            try simp only [PeerV.eta] at hc9
                            first
                            | (exfalso; omega)
                            | (exfalso; simp [eqX] at hc9; done)
                            | contradiction
                            | skip
                              refine X_move rfl rfl rfl rfl ?_
                              refine X_move rfl rfl rfl rfl ?_
                              refine X_indexAddr rfl rfl rfl rfl F.elem22 (by first | rfl | exact (Int.toNat_of_nonneg (by omega)).symm) (by first | omega | (simp; done) | (simp; omega)) (by first | exact ⟨_, _, rfl⟩ | assumption | exact SlM.plain (by assumption) (by first | (simp; done) | (simp; omega)) | exact RdS.plain (by assumption) (by first | (simp; done) | (simp; omega)) | exact OSl.plain (by assumption) (by first | (simp; done) | (simp; omega))) rfl ?_
                              first | refine X_load rfl rfl rfl (by repeat first | exact List.Mem.head _ | refine List.Mem.tail _ ?_ | refine List.mem_append_right _ ?_) F.lay3 rfl rfl rfl ?_ | refine X_load_el rfl rfl rfl (by first | assumption | exact SlM.mono (by assumption) (by assumption)) (by first | exact row_map (by omega) | exact List.getElem?_eq_getElem (by omega) | exact rfl | exact row_map (by first | (simp; done) | (simp; omega))) F.lay3 rfl rfl rfl ?_ | refine X_load_rd rfl rfl rfl (by assumption) (by first | exact row_map (by omega) | exact List.getElem?_eq_getElem (by omega) | exact rfl | exact row_map (by first | (simp; done) | (simp; omega))) F.lay3 rfl rfl rfl ?_ | refine X_load_mem rfl rfl rfl (by first | assumption | exact Mem.get_of (by assumption) (by repeat first | assumption | refine Mem.le.trans (by assumption) ?_)) F.lay3 rfl rfl rfl ?_ | refine X_load_osl rfl rfl rfl (by assumption) (by repeat first | exact Rem.here _ | exact Rem.two | apply Rem.skip | apply Rem.over) (by first | exact row_map (by omega) | exact List.getElem?_eq_getElem (by omega) | exact rfl | exact row_map (by first | (simp; done) | (simp; omega))) F.lay3 rfl rfl rfl ?_ | refine X_load_cell rfl rfl rfl (by repeat first | exact List.Mem.head _ | refine List.Mem.tail _ ?_ | refine List.mem_append_right _ ?_) F.lay3 (by first | exact id_at (by first | omega | decide) | exact arr_at (by first | omega | decide)) rfl ?_
                              refine XD_is 63 rfl (congrArg (Value.int .i64) hfk) ?_
                              refine X_move rfl rfl rfl rfl ?_
                              refine X_len_sl rfl rfl rfl rfl F.elem23 rfl ?_
                              refine X_cmp rfl rfl rfl rfl rfl rfl ?_
                              refine X_pick rfl rfl rfl rfl rfl ?_
                              refine X_move rfl rfl rfl rfl ?_
                              refine XD_part 68 rfl (fun hc10 => ?_) (fun hc10 => ?_)
                              · first | replace hc10 := dT hc10 | replace hc10 := dF hc10 | replace hc10 := nT hc10 | replace hc10 := nF hc10 | skip
                                try simp only [PeerV.eta] at hc10
                                first | (exfalso; omega) | (exfalso; simp [eqX] at hc10; done) | contradiction
                              · first | replace hc10 := dT hc10 | replace hc10 := dF hc10 | replace hc10 := nT hc10 | replace hc10 := nF hc10 | skip
                                try simp only [PeerV.eta] at hc10
                                first
                                | (exfalso; omega)
                                | (exfalso; simp [eqX] at hc10; done)
                                | contradiction
                                | skip
                                  refine X_move rfl rfl rfl rfl ?_
                                  refine X_cmp rfl rfl rfl rfl rfl rfl ?_
                                  refine X_pick rfl rfl rfl rfl rfl ?_
                                  refine XD_end ?_
                                  refine K_then ?_
                                  refine C_cond rfl (fun hc11 => ?_) (fun hc11 => ?_)
                                  · first | replace hc11 := dT hc11 | replace hc11 := dF hc11 | replace hc11 := nT hc11 | replace hc11 := nF hc11 | skip
                                    try simp only [PeerV.eta] at hc11
                                    first | (exfalso; omega) | (exfalso; simp [eqX] at hc11; done) | contradiction
                                  · first | replace hc11 := dT hc11 | replace hc11 := dF hc11 | replace hc11 := nT hc11 | replace hc11 := nF hc11 | skip
                                    try simp only [PeerV.eta] at hc11
                                    first
                                    | (exfalso; omega)
                                    | (exfalso; simp [eqX] at hc11; done)
                                    | contradiction
                                    | skip
                                      refine C_skip ?_
                                      refine K_then ?_
                                      refine C_seq ?_
                                      refine C_region_any (l := [0, 1, 2, 3, 4, 5, 6, 7, 8]) #[0, 0, 3, 7, 15, 0, 63, 0, 255] _ rfl (by kernel_rfl) (by kernel_rfl) St.drawn (fun _ h => h) ?_
                                      refine X_move rfl rfl rfl rfl ?_
                                      refine X_move rfl rfl rfl rfl ?_
                                      refine X_indexAddr rfl rfl rfl rfl F.elem23 (by first | rfl | exact (Int.toNat_of_nonneg (by omega)).symm) (by first | omega | (simp; done) | (simp; omega)) (by first | exact ⟨_, _, rfl⟩ | assumption | exact SlM.plain (by assumption) (by first | (simp; done) | (simp; omega)) | exact RdS.plain (by assumption) (by first | (simp; done) | (simp; omega)) | exact OSl.plain (by assumption) (by first | (simp; done) | (simp; omega))) rfl ?_
                                      first | refine X_fieldAddr rfl rfl rfl F.foff38_1 rfl ?_ | refine X_fieldAddr_el rfl rfl rfl (by first | exact ⟨_, _, rfl⟩ | assumption | exact SlM.plain (by assumption) (by first | (simp; done) | (simp; omega)) | exact RdS.plain (by assumption) (by first | (simp; done) | (simp; omega)) | exact OSl.plain (by assumption) (by first | (simp; done) | (simp; omega))) F.foff38_1 rfl ?_
                                      first | refine X_load rfl rfl rfl (by repeat first | exact List.Mem.head _ | refine List.Mem.tail _ ?_ | refine List.mem_append_right _ ?_) F.lay32 rfl rfl rfl ?_ | refine X_load_el rfl rfl rfl (by first | assumption | exact SlM.mono (by assumption) (by assumption)) (by first | exact row_map (by omega) | exact List.getElem?_eq_getElem (by omega) | exact rfl | exact row_map (by first | (simp; done) | (simp; omega))) F.lay32 rfl rfl rfl ?_ | refine X_load_rd rfl rfl rfl (by assumption) (by first | exact row_map (by omega) | exact List.getElem?_eq_getElem (by omega) | exact rfl | exact row_map (by first | (simp; done) | (simp; omega))) F.lay32 rfl rfl rfl ?_ | refine X_load_mem rfl rfl rfl (by first | assumption | exact Mem.get_of (by assumption) (by repeat first | assumption | refine Mem.le.trans (by assumption) ?_)) F.lay32 rfl rfl rfl ?_ | refine X_load_osl rfl rfl rfl (by assumption) (by repeat first | exact Rem.here _ | exact Rem.two | apply Rem.skip | apply Rem.over) (by first | exact row_map (by omega) | exact List.getElem?_eq_getElem (by omega) | exact rfl | exact row_map (by first | (simp; done) | (simp; omega))) F.lay32 rfl rfl rfl ?_
                                      first | refine X_load rfl rfl rfl (by repeat first | exact List.Mem.head _ | refine List.Mem.tail _ ?_ | refine List.mem_append_right _ ?_) F.lay32 rfl rfl rfl ?_ | refine X_load_el rfl rfl rfl (by first | assumption | exact SlM.mono (by assumption) (by assumption)) (by first | exact row_map (by omega) | exact List.getElem?_eq_getElem (by omega) | exact rfl | exact row_map (by first | (simp; done) | (simp; omega))) F.lay32 rfl rfl rfl ?_ | refine X_load_rd rfl rfl rfl (by assumption) (by first | exact row_map (by omega) | exact List.getElem?_eq_getElem (by omega) | exact rfl | exact row_map (by first | (simp; done) | (simp; omega))) F.lay32 rfl rfl rfl ?_ | refine X_load_mem rfl rfl rfl (by first | assumption | exact Mem.get_of (by assumption) (by repeat first | assumption | refine Mem.le.trans (by assumption) ?_)) F.lay32 rfl rfl rfl ?_ | refine X_load_osl rfl rfl rfl (by assumption) (by repeat first | exact Rem.here _ | exact Rem.two | apply Rem.skip | apply Rem.over) (by first | exact row_map (by omega) | exact List.getElem?_eq_getElem (by omega) | exact rfl | exact row_map (by first | (simp; done) | (simp; omega))) F.lay32 rfl rfl rfl ?_
                                      refine X_fs rfl rfl F.ok25 rfl (Plus_ok _ _ _) rfl ?_
                                      rintro _ rfl
                                      refine X_alloc rfl rfl F.zero32 (by constructor) rfl ?_; intro b12
                                      refine X_store rfl rfl rfl rfl (by constructor) (by first | ((try simp only [cat, List.cons_append, List.nil_append, List.append_nil]); (repeat (first | exact flat_nil | refine flat_id ?_ | (refine flat_one ?_ ?_; rfl))); done) | exact PeerV.flat _ | exact PeerV.flat ⟨_, _⟩ | exact stFlat _ | exact phS_flat _ | exact phR_flat | (simp [flat, cat, Segs.cells, Seg.cells, Value.oneCell']; done)) (by repeat first | exact Upd.head | apply Upd.tail | apply Upd.over) F.lay32 rfl rfl ?_
                                      refine XD_end ?_
                                      refine K_then ?_
                                      refine C_seq ?_
                                      refine C_region_any (l := [0, 1, 2, 3, 4, 5, 6, 7, 8, 9, 10, 11]) #[0, 0, 0, 6, 14, 31, 63, 127, 0, 511, 0, 2047] _ rfl (by kernel_rfl) (by kernel_rfl) St.drawn (fun _ h => h) ?_
                                      refine X_move rfl rfl rfl rfl ?_
                                      refine X_move rfl rfl rfl rfl ?_
                                      refine X_move rfl rfl rfl rfl ?_
                                      refine X_indexAddr rfl rfl rfl rfl F.elem22 (by first | rfl | exact (Int.toNat_of_nonneg (by omega)).symm) (by first | omega | (simp; done) | (simp; omega)) (by first | exact ⟨_, _, rfl⟩ | assumption | exact SlM.plain (by assumption) (by first | (simp; done) | (simp; omega)) | exact RdS.plain (by assumption) (by first | (simp; done) | (simp; omega)) | exact OSl.plain (by assumption) (by first | (simp; done) | (simp; omega))) rfl ?_
                                      first | refine X_load rfl rfl rfl (by repeat first | exact List.Mem.head _ | refine List.Mem.tail _ ?_ | refine List.mem_append_right _ ?_) F.lay3 rfl rfl rfl ?_ | refine X_load_el rfl rfl rfl (by first | assumption | exact SlM.mono (by assumption) (by assumption)) (by first | exact row_map (by omega) | exact List.getElem?_eq_getElem (by omega) | exact rfl | exact row_map (by first | (simp; done) | (simp; omega))) F.lay3 rfl rfl rfl ?_ | refine X_load_rd rfl rfl rfl (by assumption) (by first | exact row_map (by omega) | exact List.getElem?_eq_getElem (by omega) | exact rfl | exact row_map (by first | (simp; done) | (simp; omega))) F.lay3 rfl rfl rfl ?_ | refine X_load_mem rfl rfl rfl (by first | assumption | exact Mem.get_of (by assumption) (by repeat first | assumption | refine Mem.le.trans (by assumption) ?_)) F.lay3 rfl rfl rfl ?_ | refine X_load_osl rfl rfl rfl (by assumption) (by repeat first | exact Rem.here _ | exact Rem.two | apply Rem.skip | apply Rem.over) (by first | exact row_map (by omega) | exact List.getElem?_eq_getElem (by omega) | exact rfl | exact row_map (by first | (simp; done) | (simp; omega))) F.lay3 rfl rfl rfl ?_ | refine X_load_cell rfl rfl rfl (by repeat first | exact List.Mem.head _ | refine List.Mem.tail _ ?_ | refine List.mem_append_right _ ?_) F.lay3 (by first | exact id_at (by first | omega | decide) | exact arr_at (by first | omega | decide)) rfl ?_
                                      refine XD_is 83 rfl (congrArg (Value.int .i64) hfk) ?_
                                      refine X_indexAddr rfl rfl rfl rfl F.elem23 (by first | rfl | exact (Int.toNat_of_nonneg (by omega)).symm) (by first | omega | (simp; done) | (simp; omega)) (by first | exact ⟨_, _, rfl⟩ | assumption | exact SlM.plain (by assumption) (by first | (simp; done) | (simp; omega)) | exact RdS.plain (by assumption) (by first | (simp; done) | (simp; omega)) | exact OSl.plain (by assumption) (by first | (simp; done) | (simp; omega))) rfl ?_
                                      first | refine X_fieldAddr rfl rfl rfl F.foff38_1 rfl ?_ | refine X_fieldAddr_el rfl rfl rfl (by first | exact ⟨_, _, rfl⟩ | assumption | exact SlM.plain (by assumption) (by first | (simp; done) | (simp; omega)) | exact RdS.plain (by assumption) (by first | (simp; done) | (simp; omega)) | exact OSl.plain (by assumption) (by first | (simp; done) | (simp; omega))) F.foff38_1 rfl ?_
                                      first | refine X_load rfl rfl rfl (by repeat first | exact List.Mem.head _ | refine List.Mem.tail _ ?_ | refine List.mem_append_right _ ?_) F.lay32 rfl rfl rfl ?_ | refine X_load_el rfl rfl rfl (by first | assumption | exact SlM.mono (by assumption) (by assumption)) (by first | exact row_map (by omega) | exact List.getElem?_eq_getElem (by omega) | exact rfl | exact row_map (by first | (simp; done) | (simp; omega))) F.lay32 rfl rfl rfl ?_ | refine X_load_rd rfl rfl rfl (by assumption) (by first | exact row_map (by omega) | exact List.getElem?_eq_getElem (by omega) | exact rfl | exact row_map (by first | (simp; done) | (simp; omega))) F.lay32 rfl rfl rfl ?_ | refine X_load_mem rfl rfl rfl (by first | assumption | exact Mem.get_of (by assumption) (by repeat first | assumption | refine Mem.le.trans (by assumption) ?_)) F.lay32 rfl rfl rfl ?_ | refine X_load_osl rfl rfl rfl (by assumption) (by repeat first | exact Rem.here _ | exact Rem.two | apply Rem.skip | apply Rem.over) (by first | exact row_map (by omega) | exact List.getElem?_eq_getElem (by omega) | exact rfl | exact row_map (by first | (simp; done) | (simp; omega))) F.lay32 rfl rfl rfl ?_
                                      first | refine X_load rfl rfl rfl (by repeat first | exact List.Mem.head _ | refine List.Mem.tail _ ?_ | refine List.mem_append_right _ ?_) F.lay32 rfl rfl rfl ?_ | refine X_load_el rfl rfl rfl (by first | assumption | exact SlM.mono (by assumption) (by assumption)) (by first | exact row_map (by omega) | exact List.getElem?_eq_getElem (by omega) | exact rfl | exact row_map (by first | (simp; done) | (simp; omega))) F.lay32 rfl rfl rfl ?_ | refine X_load_rd rfl rfl rfl (by assumption) (by first | exact row_map (by omega) | exact List.getElem?_eq_getElem (by omega) | exact rfl | exact row_map (by first | (simp; done) | (simp; omega))) F.lay32 rfl rfl rfl ?_ | refine X_load_mem rfl rfl rfl (by first | assumption | exact Mem.get_of (by assumption) (by repeat first | assumption | refine Mem.le.trans (by assumption) ?_)) F.lay32 rfl rfl rfl ?_ | refine X_load_osl rfl rfl rfl (by assumption) (by repeat first | exact Rem.here _ | exact Rem.two | apply Rem.skip | apply Rem.over) (by first | exact row_map (by omega) | exact List.getElem?_eq_getElem (by omega) | exact rfl | exact row_map (by first | (simp; done) | (simp; omega))) F.lay32 rfl rfl rfl ?_
                                      refine X_fs rfl rfl F.ok26 rfl (Minus_ok _ _ _) rfl ?_
                                      rintro _ rfl
                                      refine X_alloc rfl rfl F.zero32 (by constructor) rfl ?_; intro b13
                                      refine X_store rfl rfl rfl rfl (by constructor) (by first | ((try simp only [cat, List.cons_append, List.nil_append, List.append_nil]); (repeat (first | exact flat_nil | refine flat_id ?_ | (refine flat_one ?_ ?_; rfl))); done) | exact PeerV.flat _ | exact PeerV.flat ⟨_, _⟩ | exact stFlat _ | exact phS_flat _ | exact phR_flat | (simp [flat, cat, Segs.cells, Seg.cells, Value.oneCell']; done)) (by repeat first | exact Upd.head | apply Upd.tail | apply Upd.over) F.lay32 rfl rfl ?_
                                      refine XD_end ?_
                                      refine K_then ?_
                                      refine C_seq ?_
                                      refine C_region (l := [0]) rfl ?_
                                      refine X_assign rfl rfl rfl rfl ?_
                                      refine XD_end ?_
                                      refine K_then ?_
                                      refine C_block ?_
                                      refine C_pick (.cons (k := 12) rfl (.cons (k := 11) rfl (.cons (k := 88) rfl (.cons (k := 87) rfl (.cons (k := 86) rfl (.cons (k := 85) rfl (.cons (k := 84) rfl (.cons (k := 83) rfl (.cons (k := 82) rfl (.cons (k := 81) rfl (.cons (k := 80) rfl (.cons (k := 79) rfl (.cons (k := 10) rfl (.cons (k := 78) rfl (.cons (k := 77) rfl (.cons (k := 76) rfl (.cons (k := 75) rfl (.cons (k := 74) rfl (.cons (k := 73) rfl (.cons (k := 72) rfl (.cons (k := 71) rfl (.cons (k := 70) rfl (.cons (k := 69) rfl (.cons (k := 68) rfl (.cons (k := 67) rfl (.cons (k := 66) rfl (.cons (k := 65) rfl (.cons (k := 64) rfl (.cons (k := 63) rfl (.cons (k := 62) rfl (.cons (k := 61) rfl (.cons (k := 60) rfl (.cons (k := 59) rfl (.cons (k := 58) rfl (.cons (k := 57) rfl (.cons (k := 56) rfl (.cons (k := 55) rfl (.cons (k := 54) rfl (.cons (k := 9) rfl (.cons (k := 8) rfl (.cons (k := 53) rfl (.cons (k := 52) rfl (.cons (k := 49) rfl (.cons (k := 51) rfl (.cons (k := 50) rfl (.cons (k := 46) rfl (.cons (k := 45) rfl (.cons (k := 44) rfl (.cons (k := 43) rfl (.cons (k := 7) rfl (.cons (k := 5) rfl (.cons (k := 4) rfl (.cons (k := 0) rfl (.cons (k := 1) rfl .nil)))))))))))))))))))))))))))))))))))))))))))))))))))))) ?_
                                      refine C_loopS (.succ .zero) (fun (j : Nat) z => z = [(12, .int .i64 (j : Int))] ∧ j ≤ l_l.length) (fun j => l_l.length - j) (0) (⟨rfl, by omega⟩) ?_
                                      rintro j _ ⟨rfl, hj⟩
                                      refine C_seq ?_
                                      refine C_seq ?_
                                      refine C_region (l := [0, 1, 2, 3]) rfl ?_
                                      refine X_move rfl rfl rfl rfl ?_
                                      refine X_move rfl rfl rfl rfl ?_
                                      refine X_len_sl rfl rfl rfl rfl F.elem23 rfl ?_
                                      refine X_cmp rfl rfl rfl rfl rfl rfl ?_
                                      refine XD_end ?_
                                      refine K_then ?_
                                      refine C_cond rfl (fun hc14 => ?_) (fun hc14 => ?_)
                                      · first | replace hc14 := dT hc14 | replace hc14 := dF hc14 | replace hc14 := nT hc14 | replace hc14 := nF hc14 | skip
                                        try simp only [PeerV.eta] at hc14
                                        first
                                        | (exfalso; omega)
                                        | (exfalso; simp [eqX] at hc14; done)
                                        | contradiction
                                        | skip
                                          refine C_skip ?_
                                          refine K_then ?_
                                          refine C_seq ?_
                                          refine C_block ?_
                                          refine C_seq ?_
                                          refine C_region_any (l := [0, 1, 2, 3, 4, 5, 6, 7, 8]) #[0, 0, 3, 7, 15, 0, 63, 0, 255] _ rfl (by kernel_rfl) (by kernel_rfl) St.drawn (fun _ h => h) ?_
                                          refine X_move rfl rfl rfl rfl ?_
                                          refine X_move rfl rfl rfl rfl ?_
                                          refine X_indexAddr rfl rfl rfl rfl F.elem23 (by first | rfl | exact (Int.toNat_of_nonneg (by omega)).symm) (by first | omega | (simp; done) | (simp; omega)) (by first | exact ⟨_, _, rfl⟩ | assumption | exact SlM.plain (by assumption) (by first | (simp; done) | (simp; omega)) | exact RdS.plain (by assumption) (by first | (simp; done) | (simp; omega)) | exact OSl.plain (by assumption) (by first | (simp; done) | (simp; omega))) rfl ?_
                                          first | refine X_fieldAddr rfl rfl rfl F.foff38_1 rfl ?_ | refine X_fieldAddr_el rfl rfl rfl (by first | exact ⟨_, _, rfl⟩ | assumption | exact SlM.plain (by assumption) (by first | (simp; done) | (simp; omega)) | exact RdS.plain (by assumption) (by first | (simp; done) | (simp; omega)) | exact OSl.plain (by assumption) (by first | (simp; done) | (simp; omega))) F.foff38_1 rfl ?_
                                          first | refine X_load rfl rfl rfl (by repeat first | exact List.Mem.head _ | refine List.Mem.tail _ ?_ | refine List.mem_append_right _ ?_) F.lay32 rfl rfl rfl ?_ | refine X_load_el rfl rfl rfl (by first | assumption | exact SlM.mono (by assumption) (by assumption)) (by first | exact row_map (by omega) | exact List.getElem?_eq_getElem (by omega) | exact rfl | exact row_map (by first | (simp; done) | (simp; omega))) F.lay32 rfl rfl rfl ?_ | refine X_load_rd rfl rfl rfl (by assumption) (by first | exact row_map (by omega) | exact List.getElem?_eq_getElem (by omega) | exact rfl | exact row_map (by first | (simp; done) | (simp; omega))) F.lay32 rfl rfl rfl ?_ | refine X_load_mem rfl rfl rfl (by first | assumption | exact Mem.get_of (by assumption) (by repeat first | assumption | refine Mem.le.trans (by assumption) ?_)) F.lay32 rfl rfl rfl ?_ | refine X_load_osl rfl rfl rfl (by assumption) (by repeat first | exact Rem.here _ | exact Rem.two | apply Rem.skip | apply Rem.over) (by first | exact row_map (by omega) | exact List.getElem?_eq_getElem (by omega) | exact rfl | exact row_map (by first | (simp; done) | (simp; omega))) F.lay32 rfl rfl rfl ?_
                                          first | refine X_load rfl rfl rfl (by repeat first | exact List.Mem.head _ | refine List.Mem.tail _ ?_ | refine List.mem_append_right _ ?_) F.lay32 rfl rfl rfl ?_ | refine X_load_el rfl rfl rfl (by first | assumption | exact SlM.mono (by assumption) (by assumption)) (by first | exact row_map (by omega) | exact List.getElem?_eq_getElem (by omega) | exact rfl | exact row_map (by first | (simp; done) | (simp; omega))) F.lay32 rfl rfl rfl ?_ | refine X_load_rd rfl rfl rfl (by assumption) (by first | exact row_map (by omega) | exact List.getElem?_eq_getElem (by omega) | exact rfl | exact row_map (by first | (simp; done) | (simp; omega))) F.lay32 rfl rfl rfl ?_ | refine X_load_mem rfl rfl rfl (by first | assumption | exact Mem.get_of (by assumption) (by repeat first | assumption | refine Mem.le.trans (by assumption) ?_)) F.lay32 rfl rfl rfl ?_ | refine X_load_osl rfl rfl rfl (by assumption) (by repeat first | exact Rem.here _ | exact Rem.two | apply Rem.skip | apply Rem.over) (by first | exact row_map (by omega) | exact List.getElem?_eq_getElem (by omega) | exact rfl | exact row_map (by first | (simp; done) | (simp; omega))) F.lay32 rfl rfl rfl ?_
                                          refine X_fs rfl rfl F.ok26 rfl (Minus_ok _ _ _) rfl ?_
                                          rintro _ rfl
                                          first | refine X_load rfl rfl rfl (by repeat first | exact List.Mem.head _ | refine List.Mem.tail _ ?_ | refine List.mem_append_right _ ?_) F.lay32 rfl rfl rfl ?_ | refine X_load_el rfl rfl rfl (by first | assumption | exact SlM.mono (by assumption) (by assumption)) (by first | exact row_map (by omega) | exact List.getElem?_eq_getElem (by omega) | exact rfl | exact row_map (by first | (simp; done) | (simp; omega))) F.lay32 rfl rfl rfl ?_ | refine X_load_rd rfl rfl rfl (by assumption) (by first | exact row_map (by omega) | exact List.getElem?_eq_getElem (by omega) | exact rfl | exact row_map (by first | (simp; done) | (simp; omega))) F.lay32 rfl rfl rfl ?_ | refine X_load_mem rfl rfl rfl (by first | assumption | exact Mem.get_of (by assumption) (by repeat first | assumption | refine Mem.le.trans (by assumption) ?_)) F.lay32 rfl rfl rfl ?_ | refine X_load_osl rfl rfl rfl (by assumption) (by repeat first | exact Rem.here _ | exact Rem.two | apply Rem.skip | apply Rem.over) (by first | exact row_map (by omega) | exact List.getElem?_eq_getElem (by omega) | exact rfl | exact row_map (by first | (simp; done) | (simp; omega))) F.lay32 rfl rfl rfl ?_
                                          refine X_fs rfl rfl F.ok27 rfl (Less_ok _ _ _) rfl ?_
                                          rintro _ rfl
                                          refine XD_is 103 rfl (congrArg Value.bool (decide_eq_false (Nat.not_lt.2 (owner_min hc.2 ho9 hog (j := j) (by omega))))) ?_
                                          refine XD_end ?_
                                          refine K_then ?_
                                          refine C_cond rfl (fun hc15 => ?_) (fun hc15 => ?_)
                                          · first | replace hc15 := dT hc15 | replace hc15 := dF hc15 | replace hc15 := nT hc15 | replace hc15 := nF hc15 | skip
                                            try simp only [PeerV.eta] at hc15
                                            first | (exfalso; omega) | (exfalso; simp [eqX] at hc15; done) | contradiction
                                          · first | replace hc15 := dT hc15 | replace hc15 := dF hc15 | replace hc15 := nT hc15 | replace hc15 := nF hc15 | skip
                                            try simp only [PeerV.eta] at hc15
                                            first
                                            | (exfalso; omega)
                                            | (exfalso; simp [eqX] at hc15; done)
                                            | contradiction
                                            | skip
                                              refine C_skip ?_
                                              refine K_out ?_
                                              refine K_then ?_
                                              refine C_region (l := [0, 1, 2]) rfl ?_
                                              refine X_move rfl rfl rfl rfl ?_
                                              refine X_ari rfl rfl rfl rfl rfl (by first | exact wrap_in (by decide) (by omega) | exact wrap_u64_in (by decide) (by omega) | exact wrap_u8_in (by decide) (by omega) | exact wrap_u32_in (by decide) (by omega) | exact wrap_u64 _ | exact wrap_u8 _ | exact wrap_u32 _ | exact rfl) rfl ?_
                                              refine X_assign rfl rfl rfl rfl ?_
                                              refine XD_end ?_
                                              refine K_roundS (a' := [(12, _)]) (j + 1) (.cons (k := 12) rfl (.cons (k := 11) rfl (.cons (k := 88) rfl (.cons (k := 87) rfl (.cons (k := 86) rfl (.cons (k := 85) rfl (.cons (k := 84) rfl (.cons (k := 83) rfl (.cons (k := 82) rfl (.cons (k := 81) rfl (.cons (k := 80) rfl (.cons (k := 79) rfl (.cons (k := 10) rfl (.cons (k := 78) rfl (.cons (k := 77) rfl (.cons (k := 76) rfl (.cons (k := 75) rfl (.cons (k := 74) rfl (.cons (k := 73) rfl (.cons (k := 72) rfl (.cons (k := 71) rfl (.cons (k := 70) rfl (.cons (k := 69) rfl (.cons (k := 68) rfl (.cons (k := 67) rfl (.cons (k := 66) rfl (.cons (k := 65) rfl (.cons (k := 64) rfl (.cons (k := 63) rfl (.cons (k := 62) rfl (.cons (k := 61) rfl (.cons (k := 60) rfl (.cons (k := 59) rfl (.cons (k := 58) rfl (.cons (k := 57) rfl (.cons (k := 56) rfl (.cons (k := 55) rfl (.cons (k := 54) rfl (.cons (k := 9) rfl (.cons (k := 8) rfl (.cons (k := 53) rfl (.cons (k := 52) rfl (.cons (k := 49) rfl (.cons (k := 51) rfl (.cons (k := 50) rfl (.cons (k := 46) rfl (.cons (k := 45) rfl (.cons (k := 44) rfl (.cons (k := 43) rfl (.cons (k := 7) rfl (.cons (k := 5) rfl (.cons (k := 4) rfl (.cons (k := 0) rfl (.cons (k := 1) rfl (.nil))))))))))))))))))))))))))))))))))))))))))))))))))))))) (fun w hw => by first | exact hw | exact hw.cnt (by intro zz; first | exact Nat.le_refl _ | (simp only [cnt_app, cnt_cons, cnt_nil, cat, List.append_eq, List.append_assoc, List.cons_append, List.nil_append, List.append_nil]; omega) | (simp only [cnt_app, cnt_cons, cnt_nil, cat, List.append_eq, List.append_assoc, List.cons_append, List.nil_append, List.append_nil, PeerV.segs]; omega))) ?_ ?_
                                              · exact ⟨rfl, by omega⟩
                                              · omega
                                      · first | replace hc14 := dT hc14 | replace hc14 := dF hc14 | replace hc14 := nT hc14 | replace hc14 := nF hc14 | skip
                                        try simp only [PeerV.eta] at hc14
                                        first
                                        | (exfalso; omega)
                                        | (exfalso; simp [eqX] at hc14; done)
                                        | contradiction
                                        | skip
                                          refine C_exit ?_
                                          refine K_exit ?_
                                          refine K_exit ?_
                                          refine K_hit ?_
                                          refine K_out ?_
                                          refine K_then ?_
                                          refine C_region (l := [0, 1, 2]) rfl ?_
                                          refine X_move rfl rfl rfl rfl ?_
                                          refine X_ari rfl rfl rfl rfl rfl (by first | exact wrap_in (by decide) (by omega) | exact wrap_u64_in (by decide) (by omega) | exact wrap_u8_in (by decide) (by omega) | exact wrap_u32_in (by decide) (by omega) | exact wrap_u64 _ | exact wrap_u8 _ | exact wrap_u32 _ | exact rfl) rfl ?_
                                          refine X_assign rfl rfl rfl rfl ?_
                                          refine XD_end ?_
                                          refine K_roundO (a' := [(7, _)]) (k + 1) ([]) (.cons (k := 7) rfl (.cons (k := 5) rfl (.cons (k := 4) rfl (.cons (k := 0) rfl (.cons (k := 1) rfl (.nil)))))) (by first | exact Mem.le.refl _ | assumption | (repeat first | assumption | refine Mem.le.trans (by assumption) ?_)) (fun w hw => by first | exact hw | exact hw.cnt (by intro zz; first | exact Nat.le_refl _ | (simp only [cnt_app, cnt_cons, cnt_nil, cat, List.append_eq, List.append_assoc, List.cons_append, List.nil_append, List.append_nil]; omega) | (simp only [cnt_app, cnt_cons, cnt_nil, cat, List.append_eq, List.append_assoc, List.cons_append, List.nil_append, List.append_nil, PeerV.segs]; omega))) ?_ ?_
                                          · exact ⟨rfl, rfl, rfl, by omega⟩
                                          · omega
                      · first | replace hc7 := dT hc7 | replace hc7 := dF hc7 | replace hc7 := nT hc7 | replace hc7 := nF hc7 | skip
                        try simp only [PeerV.eta] at hc7
                        first
                        | (exfalso; omega)
                        | (exfalso; simp [eqX] at hc7; done)
                        | contradiction
                        | skip
                          refine C_exit ?_
                          refine K_exit ?_
                          refine K_exit ?_
                          refine K_hit ?_
                          refine K_then ?_
                          refine C_pick (.cons (k := 4) rfl .nil) ?_
                          refine C_seq ?_
                          refine C_region (l := [0, 1]) rfl ?_
                          refine X_fn rfl rfl F.ok10 rfl (rounded_ok _ (Mem.le.loose (by first | exact Mem.le.refl _ | assumption | (repeat first | assumption | refine Mem.le.trans (by assumption) ?_)) hM)) rfl ?_
                          rintro _ M9 hm9 rfl
                          refine X_assign rfl rfl rfl rfl ?_
                          refine XD_end ?_
                          refine K_then ?_
                          refine C_pick (.cons (k := 4) rfl .nil) ?_
                          refine C_ret ?_
                          refine K_end (.inr rfl) (.tmp rfl .nil) (fun w hw => ?_)
                          refine ⟨_, _, rfl, (by first | exact Mem.le.refl _ | assumption | (repeat first | assumption | refine Mem.le.trans (by assumption) ?_)), hw.cnt (by intro zz; first | exact Nat.le_refl _ | (simp only [cnt_app, cnt_cons, cnt_nil, cat, List.append_eq, List.append_assoc, List.cons_append, List.nil_append, List.append_nil]; omega) | (simp only [cnt_app, cnt_cons, cnt_nil, cat, List.append_eq, List.append_assoc, List.cons_append, List.nil_append, List.append_nil, PeerV.segs]; omega)), ?_⟩
                          clear hw
                          first | rfl | exact congrArg Value.bool (decide_eq_true (by omega)) | (simp; done) | (simp; rfl) | (simp_all; done)

end Go.Proofs.YtbafnjniijodfaaDoor
/-
  Circles: one goes.
-/
set_option linter.unusedSimpArgs false
set_option linter.unusedVariables false
set_option linter.unnecessarySimpa false
set_option maxRecDepth 8000
set_option maxHeartbeats 1000000
namespace Go.Proofs.YtbafnjniijodfaaDoor
open Go.Esp


theorem lawGoes_ok (M : Mem) (l : (Sl PeerV)) (i : Int) (id : Plc) (hl0 : SlK M PeerV.segs 21 l) (hM : M.dr = 0) : Esp.Fn Tryd.prog 4 [Sl.val l, .int .i64 i, aggV [idSeg id]] M (fun _ v => v = .bool true) := by
  obtain ⟨l_a, l_c, l_l⟩ := l
  have k_l : SlK M PeerV.segs 21 ⟨l_a, l_c, l_l⟩ := hl0
  have s_l : SlM M l_a (l_l.map PeerV.segs) 21 := k_l.h1
  have n_l : (l_l.map PeerV.segs).length = l_l.length := List.length_map ..
  have m_l : l_l.length ≤ 9223372036854775807 := k_l.h2
  have c_l : l_l.length ≤ l_c := k_l.h3
  refine fn_enter Tryd.func4 rfl Tryd.ntmps4 rfl ?_; intro H
  refine C_seq ?_
  refine C_region (l := [0, 1]) rfl ?_
  refine X_box rfl rfl rfl (by constructor) rfl ?_; intro b1
  refine X_assign rfl rfl rfl rfl ?_
  refine XD_end ?_
  refine K_then ?_
  refine C_pick (.cons (k := 6) rfl (.cons (k := 5) rfl (.cons (k := 0) rfl (.cons (k := 1) rfl .nil)))) ?_
  refine C_seq ?_
  refine C_seq ?_
  refine C_region (l := [0, 1, 2]) rfl ?_
  refine X_move rfl rfl rfl rfl ?_
  refine X_len_sl rfl rfl rfl rfl F.elem23 rfl ?_
  refine X_cmp rfl rfl rfl rfl rfl rfl ?_
  refine XD_end ?_
  refine K_then ?_
  refine C_pick (.cons (k := 17) rfl (.cons (k := 6) rfl (.cons (k := 5) rfl (.cons (k := 0) rfl (.cons (k := 1) rfl .nil))))) ?_
  refine C_cond rfl (fun hc2 => ?_) (fun hc2 => ?_)
  · first | replace hc2 := dT hc2 | replace hc2 := dF hc2 | replace hc2 := nT hc2 | replace hc2 := nF hc2 | skip
    try simp only [PeerV.eta] at hc2
    first
    | (exfalso; omega)
    | (exfalso; simp [eqX] at hc2; done)
    | contradiction
    | skip
      refine C_seq ?_
      refine C_region (l := [0]) rfl ?_
      refine X_assign rfl rfl rfl rfl ?_
      refine XD_end ?_
      refine K_then ?_
      refine C_pick (.cons (k := 6) rfl (.cons (k := 5) rfl (.cons (k := 0) rfl (.cons (k := 1) rfl .nil)))) ?_
      refine C_ret ?_
      refine K_ret ?_
      refine K_end (.inr rfl) (.tmp rfl .nil) (fun w hw => ?_)
      refine ⟨_, _, rfl, (by first | exact Mem.le.refl _ | assumption | (repeat first | assumption | refine Mem.le.trans (by assumption) ?_)), hw.cnt (by intro zz; first | exact Nat.le_refl _ | (simp only [cnt_app, cnt_cons, cnt_nil, cat, List.append_eq, List.append_assoc, List.cons_append, List.nil_append, List.append_nil]; omega) | (simp only [cnt_app, cnt_cons, cnt_nil, cat, List.append_eq, List.append_assoc, List.cons_append, List.nil_append, List.append_nil, PeerV.segs]; omega)), ?_⟩
      clear hw
      first | rfl | exact congrArg Value.bool (decide_eq_true (by omega)) | (simp; done) | (simp; rfl) | (simp_all; done)
  · first | replace hc2 := dT hc2 | replace hc2 := dF hc2 | replace hc2 := nT hc2 | replace hc2 := nF hc2 | skip
    try simp only [PeerV.eta] at hc2
    first
    | (exfalso; omega)
    | (exfalso; simp [eqX] at hc2; done)
    | contradiction
    | skip
      refine C_skip ?_
      refine K_then ?_
      refine C_pick (.cons (k := 6) rfl (.cons (k := 5) rfl (.cons (k := 0) rfl (.cons (k := 1) rfl .nil)))) ?_
      refine C_seq ?_
      refine C_region (l := [0, 1, 2, 3, 4, 5, 6, 7]) rfl ?_
      refine X_move rfl rfl rfl rfl ?_
      first | refine X_load rfl rfl rfl (by repeat first | exact List.Mem.head _ | refine List.Mem.tail _ ?_ | refine List.mem_append_right _ ?_) F.lay32 rfl rfl rfl ?_ | refine X_load_el rfl rfl rfl (by first | assumption | exact SlM.mono (by assumption) (by assumption)) (by first | exact row_map (by omega) | exact List.getElem?_eq_getElem (by omega) | exact rfl | exact row_map (by first | (simp; done) | (simp; omega))) F.lay32 rfl rfl rfl ?_ | refine X_load_rd rfl rfl rfl (by assumption) (by first | exact row_map (by omega) | exact List.getElem?_eq_getElem (by omega) | exact rfl | exact row_map (by first | (simp; done) | (simp; omega))) F.lay32 rfl rfl rfl ?_ | refine X_load_mem rfl rfl rfl (by first | assumption | exact Mem.get_of (by assumption) (by repeat first | assumption | refine Mem.le.trans (by assumption) ?_)) F.lay32 rfl rfl rfl ?_ | refine X_load_osl rfl rfl rfl (by assumption) (by repeat first | exact Rem.here _ | exact Rem.two | apply Rem.skip | apply Rem.over) (by first | exact row_map (by omega) | exact List.getElem?_eq_getElem (by omega) | exact rfl | exact row_map (by first | (simp; done) | (simp; omega))) F.lay32 rfl rfl rfl ?_
      refine X_fs rfl rfl F.ok14 rfl (Owner_ok _ ⟨l_a, l_c, l_l⟩ id (k_l.mono (by first | exact Mem.le.refl _ | assumption | (repeat first | assumption | refine Mem.le.trans (by assumption) ?_)))) rfl ?_
      rintro _ hv
      obtain ⟨⟨ow, co⟩, howe⟩ : ∃ x, ownerR l_l id = x := ⟨_, rfl⟩
      replace hv : _ = ofII (ownerR l_l id) := hv
      rw [howe] at hv
      subst hv
      refine X_move rfl rfl rfl rfl ?_
      refine X_extract rfl rfl rfl rfl rfl ?_
      refine X_extract rfl rfl rfl rfl rfl ?_
      refine X_assign rfl rfl rfl rfl ?_
      refine X_assign rfl rfl rfl rfl ?_
      refine XD_end ?_
      refine K_then ?_
      refine C_pick (.cons (k := 8) rfl (.cons (k := 7) rfl (.cons (k := 6) rfl (.cons (k := 5) rfl (.cons (k := 0) rfl (.cons (k := 1) rfl .nil)))))) ?_
      refine C_seq ?_
      refine C_seq ?_
      refine C_region (l := [0, 1, 2, 3, 4, 5, 6, 7, 8, 9, 10, 11, 12, 13, 14, 15, 16]) rfl ?_
      refine X_move rfl rfl rfl rfl ?_
      refine X_cmp rfl rfl rfl rfl rfl rfl ?_
      refine X_move rfl rfl rfl rfl ?_
      refine XD_part 26 rfl (fun hc3 => ?_) (fun hc3 => ?_)
      · first | replace hc3 := dT hc3 | replace hc3 := dF hc3 | replace hc3 := nT hc3 | replace hc3 := nF hc3 | skip
        try simp only [PeerV.eta] at hc3
        first
        | (exfalso; omega)
        | (exfalso; simp [eqX] at hc3; done)
        | contradiction
        | skip
          refine X_skip rfl rfl rfl ?_
          refine X_skip rfl rfl rfl ?_
          refine X_skip rfl rfl rfl ?_
          refine X_pick rfl rfl rfl rfl rfl ?_
          refine X_move rfl rfl rfl rfl ?_
          refine X_skip rfl rfl rfl ?_
          refine X_skip rfl rfl rfl ?_
          refine X_pick rfl rfl rfl rfl rfl ?_
          refine X_move rfl rfl rfl rfl ?_
          refine X_skip rfl rfl rfl ?_
          refine X_skip rfl rfl rfl ?_
          refine X_skip rfl rfl rfl ?_
          refine X_skip rfl rfl rfl ?_
          refine X_pick rfl rfl rfl rfl rfl ?_
          refine XD_end ?_
          refine K_then ?_
          refine C_pick (.cons (k := 40) rfl (.cons (k := 7) rfl (.cons (k := 6) rfl (.cons (k := 5) rfl (.cons (k := 0) rfl (.cons (k := 1) rfl .nil)))))) ?_
          refine C_true rfl ?_
          refine C_seq ?_
          refine C_region (l := [0, 1]) rfl ?_
          refine X_fn rfl rfl F.ok10 rfl (rounded_ok _ (Mem.le.loose (by first | exact Mem.le.refl _ | assumption | (repeat first | assumption | refine Mem.le.trans (by assumption) ?_)) hM)) rfl ?_
          rintro _ M9 hm9 rfl
          refine X_assign rfl rfl rfl rfl ?_
          refine XD_end ?_
          refine K_then ?_
          refine C_pick (.cons (k := 6) rfl (.cons (k := 7) rfl (.cons (k := 5) rfl (.cons (k := 0) rfl (.cons (k := 1) rfl .nil))))) ?_
          refine C_ret ?_
          refine K_ret ?_
          refine K_end (.inr rfl) (.tmp rfl .nil) (fun w hw => ?_)
          refine ⟨_, _, rfl, (by first | exact Mem.le.refl _ | assumption | (repeat first | assumption | refine Mem.le.trans (by assumption) ?_)), hw.cnt (by intro zz; first | exact Nat.le_refl _ | (simp only [cnt_app, cnt_cons, cnt_nil, cat, List.append_eq, List.append_assoc, List.cons_append, List.nil_append, List.append_nil]; omega) | (simp only [cnt_app, cnt_cons, cnt_nil, cat, List.append_eq, List.append_assoc, List.cons_append, List.nil_append, List.append_nil, PeerV.segs]; omega)), ?_⟩
          clear hw
          first | rfl | exact congrArg Value.bool (decide_eq_true (by omega)) | (simp; done) | (simp; rfl) | (simp_all; done)
      · first | replace hc3 := dT hc3 | replace hc3 := dF hc3 | replace hc3 := nT hc3 | replace hc3 := nF hc3 | skip
        try simp only [PeerV.eta] at hc3
        first
        | (exfalso; omega)
        | (exfalso; simp [eqX] at hc3; done)
        | contradiction
        | skip
          refine X_move rfl rfl rfl rfl ?_
          refine X_len_sl rfl rfl rfl rfl F.elem23 rfl ?_
          refine X_cmp rfl rfl rfl rfl rfl rfl ?_
          refine X_pick rfl rfl rfl rfl rfl ?_
          refine X_move rfl rfl rfl rfl ?_
          refine XD_part 31 rfl (fun hc4 => ?_) (fun hc4 => ?_)
          · first | replace hc4 := dT hc4 | replace hc4 := dF hc4 | replace hc4 := nT hc4 | replace hc4 := nF hc4 | skip
            try simp only [PeerV.eta] at hc4
            first
            | (exfalso; omega)
            | (exfalso; simp [eqX] at hc4; done)
            | contradiction
            | skip
              refine X_skip rfl rfl rfl ?_
              refine X_skip rfl rfl rfl ?_
              refine X_pick rfl rfl rfl rfl rfl ?_
              refine X_move rfl rfl rfl rfl ?_
              refine X_skip rfl rfl rfl ?_
              refine X_skip rfl rfl rfl ?_
              refine X_skip rfl rfl rfl ?_
              refine X_skip rfl rfl rfl ?_
              refine X_pick rfl rfl rfl rfl rfl ?_
              refine XD_end ?_
              refine K_then ?_
              refine C_pick (.cons (k := 40) rfl (.cons (k := 7) rfl (.cons (k := 6) rfl (.cons (k := 5) rfl (.cons (k := 0) rfl (.cons (k := 1) rfl .nil)))))) ?_
              refine C_true rfl ?_
              refine C_seq ?_
              refine C_region (l := [0, 1]) rfl ?_
              refine X_fn rfl rfl F.ok10 rfl (rounded_ok _ (Mem.le.loose (by first | exact Mem.le.refl _ | assumption | (repeat first | assumption | refine Mem.le.trans (by assumption) ?_)) hM)) rfl ?_
              rintro _ M9 hm9 rfl
              refine X_assign rfl rfl rfl rfl ?_
              refine XD_end ?_
              refine K_then ?_
              refine C_pick (.cons (k := 6) rfl (.cons (k := 7) rfl (.cons (k := 5) rfl (.cons (k := 0) rfl (.cons (k := 1) rfl .nil))))) ?_
              refine C_ret ?_
              refine K_ret ?_
              refine K_end (.inr rfl) (.tmp rfl .nil) (fun w hw => ?_)
              refine ⟨_, _, rfl, (by first | exact Mem.le.refl _ | assumption | (repeat first | assumption | refine Mem.le.trans (by assumption) ?_)), hw.cnt (by intro zz; first | exact Nat.le_refl _ | (simp only [cnt_app, cnt_cons, cnt_nil, cat, List.append_eq, List.append_assoc, List.cons_append, List.nil_append, List.append_nil]; omega) | (simp only [cnt_app, cnt_cons, cnt_nil, cat, List.append_eq, List.append_assoc, List.cons_append, List.nil_append, List.append_nil, PeerV.segs]; omega)), ?_⟩
              clear hw
              first | rfl | exact congrArg Value.bool (decide_eq_true (by omega)) | (simp; done) | (simp; rfl) | (simp_all; done)
          · first | replace hc4 := dT hc4 | replace hc4 := dF hc4 | replace hc4 := nT hc4 | replace hc4 := nF hc4 | skip
            try simp only [PeerV.eta] at hc4
            first
            | (exfalso; omega)
            | (exfalso; simp [eqX] at hc4; done)
            | contradiction
            | skip
              refine X_move rfl rfl rfl rfl ?_
              refine X_cmp rfl rfl rfl rfl rfl rfl ?_
              refine X_pick rfl rfl rfl rfl rfl ?_
              refine X_move rfl rfl rfl rfl ?_
              refine XD_part 35 rfl (fun hc5 => ?_) (fun hc5 => ?_)
              · first | replace hc5 := dT hc5 | replace hc5 := dF hc5 | replace hc5 := nT hc5 | replace hc5 := nF hc5 | skip
                try simp only [PeerV.eta] at hc5
                first
                | (exfalso; omega)
                | (exfalso; simp [eqX] at hc5; done)
                | contradiction
                | skip
                  refine X_skip rfl rfl rfl ?_
                  refine X_skip rfl rfl rfl ?_
                  refine X_skip rfl rfl rfl ?_
                  refine X_skip rfl rfl rfl ?_
                  refine X_pick rfl rfl rfl rfl rfl ?_
                  refine XD_end ?_
                  refine K_then ?_
                  refine C_pick (.cons (k := 40) rfl (.cons (k := 7) rfl (.cons (k := 6) rfl (.cons (k := 5) rfl (.cons (k := 0) rfl (.cons (k := 1) rfl .nil)))))) ?_
                  refine C_true rfl ?_
                  refine C_seq ?_
                  refine C_region (l := [0, 1]) rfl ?_
                  refine X_fn rfl rfl F.ok10 rfl (rounded_ok _ (Mem.le.loose (by first | exact Mem.le.refl _ | assumption | (repeat first | assumption | refine Mem.le.trans (by assumption) ?_)) hM)) rfl ?_
                  rintro _ M9 hm9 rfl
                  refine X_assign rfl rfl rfl rfl ?_
                  refine XD_end ?_
                  refine K_then ?_
                  refine C_pick (.cons (k := 6) rfl (.cons (k := 7) rfl (.cons (k := 5) rfl (.cons (k := 0) rfl (.cons (k := 1) rfl .nil))))) ?_
                  refine C_ret ?_
                  refine K_ret ?_
                  refine K_end (.inr rfl) (.tmp rfl .nil) (fun w hw => ?_)
                  refine ⟨_, _, rfl, (by first | exact Mem.le.refl _ | assumption | (repeat first | assumption | refine Mem.le.trans (by assumption) ?_)), hw.cnt (by intro zz; first | exact Nat.le_refl _ | (simp only [cnt_app, cnt_cons, cnt_nil, cat, List.append_eq, List.append_assoc, List.cons_append, List.nil_append, List.append_nil]; omega) | (simp only [cnt_app, cnt_cons, cnt_nil, cat, List.append_eq, List.append_assoc, List.cons_append, List.nil_append, List.append_nil, PeerV.segs]; omega)), ?_⟩
                  clear hw
                  first | rfl | exact congrArg Value.bool (decide_eq_true (by omega)) | (simp; done) | (simp; rfl) | (simp_all; done)
              · first | replace hc5 := dT hc5 | replace hc5 := dF hc5 | replace hc5 := nT hc5 | replace hc5 := nF hc5 | skip
                try simp only [PeerV.eta] at hc5
                first
                | (exfalso; omega)
                | (exfalso; simp [eqX] at hc5; done)
                | contradiction
                | skip
                  refine X_move rfl rfl rfl rfl ?_
                  refine X_move rfl rfl rfl rfl ?_
                  refine X_len_sl rfl rfl rfl rfl F.elem23 rfl ?_
                  refine X_cmp rfl rfl rfl rfl rfl rfl ?_
                  refine X_pick rfl rfl rfl rfl rfl ?_
                  refine XD_end ?_
                  refine K_then ?_
                  refine C_pick (.cons (k := 40) rfl (.cons (k := 7) rfl (.cons (k := 6) rfl (.cons (k := 5) rfl (.cons (k := 0) rfl (.cons (k := 1) rfl .nil)))))) ?_
                  refine C_cond rfl (fun hc6 => ?_) (fun hc6 => ?_)
                  · first | replace hc6 := dT hc6 | replace hc6 := dF hc6 | replace hc6 := nT hc6 | replace hc6 := nF hc6 | skip
                    try simp only [PeerV.eta] at hc6
                    first
                    | (exfalso; omega)
                    | (exfalso; simp [eqX] at hc6; done)
                    | contradiction
                    | skip
                      refine C_seq ?_
                      refine C_region (l := [0, 1]) rfl ?_
                      refine X_fn rfl rfl F.ok10 rfl (rounded_ok _ (Mem.le.loose (by first | exact Mem.le.refl _ | assumption | (repeat first | assumption | refine Mem.le.trans (by assumption) ?_)) hM)) rfl ?_
                      rintro _ M9 hm9 rfl
                      refine X_assign rfl rfl rfl rfl ?_
                      refine XD_end ?_
                      refine K_then ?_
                      refine C_pick (.cons (k := 6) rfl (.cons (k := 7) rfl (.cons (k := 5) rfl (.cons (k := 0) rfl (.cons (k := 1) rfl .nil))))) ?_
                      refine C_ret ?_
                      refine K_ret ?_
                      refine K_end (.inr rfl) (.tmp rfl .nil) (fun w hw => ?_)
                      refine ⟨_, _, rfl, (by first | exact Mem.le.refl _ | assumption | (repeat first | assumption | refine Mem.le.trans (by assumption) ?_)), hw.cnt (by intro zz; first | exact Nat.le_refl _ | (simp only [cnt_app, cnt_cons, cnt_nil, cat, List.append_eq, List.append_assoc, List.cons_append, List.nil_append, List.append_nil]; omega) | (simp only [cnt_app, cnt_cons, cnt_nil, cat, List.append_eq, List.append_assoc, List.cons_append, List.nil_append, List.append_nil, PeerV.segs]; omega)), ?_⟩
                      clear hw
                      first | rfl | exact congrArg Value.bool (decide_eq_true (by omega)) | (simp; done) | (simp; rfl) | (simp_all; done)
                  · first | replace hc6 := dT hc6 | replace hc6 := dF hc6 | replace hc6 := nT hc6 | replace hc6 := nF hc6 | skip
                    try simp only [PeerV.eta] at hc6
                    first
                    | (exfalso; omega)
                    | (exfalso; simp [eqX] at hc6; done)
                    | contradiction
                    | skip
                      refine C_skip ?_
                      refine K_then ?_
                      refine C_pick (.cons (k := 7) rfl (.cons (k := 6) rfl (.cons (k := 5) rfl (.cons (k := 0) rfl (.cons (k := 1) rfl .nil))))) ?_
                      refine C_seq ?_
                      have hc : IsCircle l_l := by
                        unfold ownerR at howe; split at howe
                        · assumption
                        · cases howe; exfalso; omega
                      have hc1 := hc.1
                      obtain ⟨o9, hog⟩ : ∃ o, ownerI l_l id = o := ⟨_, rfl⟩
                      have ho9 : o9 < l_l.length := by rw [← hog]; exact ownerI_lt (by omega)
                      rw [show ownerR l_l id = (((o9 : Nat) : Int), 0) by unfold ownerR; rw [if_pos hc, hog]] at howe
                      obtain ⟨rfl, rfl⟩ : ((o9 : Nat) : Int) = ow ∧ (0 : Int) = co := ⟨congrArg Prod.fst howe, congrArg Prod.snd howe⟩
                      obtain ⟨n, rfl⟩ : ∃ n : Nat, i = n := ⟨i.toNat, by omega⟩
                      have hn : n < l_l.length := by omega
                      have hl2 : 2 ≤ l_l.length := by omega
                      have hsl := sansI_len (l := l_l) hn
                      have k_tk := k_l.take n (by omega)
                      have k_dr := k_l.drop (n + 1) (by omega)
                      obtain ⟨w9, hw9⟩ : ∃ q, (o9 + 1) % l_l.length = q := ⟨_, rfl⟩
                      have hwl : w9 < l_l.length := by rw [← hw9]; exact Nat.mod_lt _ (by omega)
                      obtain ⟨q9, hq9⟩ : ∃ q, ownerI (sansI l_l n) id = q := ⟨_, rfl⟩
                      have hql : q9 < (sansI l_l n).length := by rw [← hq9]; exact ownerI_lt (by omega)
                      have hgo := goes_to hc hl2 hn hog ho9 hwl hw9 hq9 hql
                      have hcs := sansI_circ hc hl2 hn
                      refine C_region (l := [0]) rfl ?_
                      refine X_assign rfl rfl rfl rfl ?_
                      refine XD_end ?_
                      refine K_then ?_
                      refine C_seq ?_
                      refine C_region (l := [0, 1, 2, 3, 4, 5]) rfl ?_
                      refine X_move rfl rfl rfl rfl ?_
                      refine X_move rfl rfl rfl rfl ?_
                      refine X_move rfl rfl rfl rfl ?_
                      refine X_slice rfl rfl rfl .none (.some (k := n) rfl rfl) .none F.elem23 (by simp only [Option.getD_none]; omega) (by simp only [Option.getD_some, Option.getD_none]; omega) (by simp only [Option.getD_some, Option.getD_none]; omega) (by simp) (pieceV_take (l := l_l) (k := n) (by omega)) rfl ?_
                      refine X_appendK (m := 1000000) rfl rfl rfl rfl rfl F.elem23 F.zero38 (by first | rfl | exact agg_size rfl) rfl (by first | assumption | exact OSl.nil) (by repeat first | exact Rem.here _ | exact Rem.two | apply Rem.skip | apply Rem.over) (k_tk.h1) PeerV.flat (by first | omega | (simp; done) | (simp; omega)) (by decide) rfl ?_; intro v9 hs8 ho7; obtain ⟨adv9, cpv9, rfl⟩ := ho7.val
                      refine X_assign rfl rfl rfl rfl ?_
                      refine XD_end ?_
                      refine K_then ?_
                      refine C_pick (.cons (k := 9) rfl (.cons (k := 7) rfl (.cons (k := 6) rfl (.cons (k := 5) rfl (.cons (k := 0) rfl (.cons (k := 1) rfl .nil)))))) ?_
                      refine C_seq ?_
                      refine C_region (l := [0, 1, 2, 3, 4, 5, 6]) rfl ?_
                      refine X_move rfl rfl rfl rfl ?_
                      refine X_move rfl rfl rfl rfl ?_
                      refine X_move rfl rfl rfl rfl ?_
                      refine X_ari rfl rfl rfl rfl rfl (by first | exact wrap_in (by decide) (by omega) | exact wrap_u64_in (by decide) (by omega) | exact wrap_u8_in (by decide) (by omega) | exact wrap_u32_in (by decide) (by omega) | exact wrap_u64 _ | exact wrap_u8 _ | exact wrap_u32 _ | exact rfl) rfl ?_
                      refine X_slice rfl rfl rfl (.some (k := n + 1) rfl (by omega)) .none .none F.elem23 (by simp only [Option.getD_none]; omega) (by simp only [Option.getD_some, Option.getD_none]; omega) (by simp only [Option.getD_some, Option.getD_none]; omega) (by simp) (pieceV_drop (l := l_l) (k := n + 1)) rfl ?_
                      refine X_appendK (m := 1000000) rfl rfl rfl rfl rfl F.elem23 F.zero38 (by first | rfl | exact agg_size rfl) rfl (by first | assumption | exact OSl.nil) (by repeat first | exact Rem.here _ | exact Rem.two | apply Rem.skip | apply Rem.over) (k_dr.h1) PeerV.flat (by first | omega | (simp; done) | (simp; omega)) (by decide) rfl ?_; intro v12 hs11 ho10; obtain ⟨adv12, cpv12, rfl⟩ := ho10.val
                      refine X_assign rfl rfl rfl rfl ?_
                      refine XD_end ?_
                      refine K_then ?_
                      refine C_pick (.cons (k := 9) rfl (.cons (k := 7) rfl (.cons (k := 6) rfl (.cons (k := 5) rfl (.cons (k := 0) rfl (.cons (k := 1) rfl .nil)))))) ?_
                      refine C_seq ?_
                      replace ho10 : OSl 38 21 (.slice adv12 (sansI l_l n).length cpv12) hs11 ((sansI l_l n).map PeerV.segs) := by
                        have h9 := ho10
                        simp only [List.nil_append, List.length_append, List.length_map] at h9
                        unfold sansI
                        simpa only [List.map_append, List.length_append] using h9
                      have e9 : (([] : List Segs) ++ (l_l.take n).map PeerV.segs ++ (l_l.drop (n + 1)).map PeerV.segs).length = (sansI l_l n).length := by unfold sansI; simp
                      rw [e9]
                      refine C_frz ho10 (by repeat first | exact Rem.here _ | exact Rem.two | apply Rem.skip | apply Rem.over) (fun M3 hm3 k_s => ?_)
                      have s_s := k_s.h1
                      simp only at s_s
                      have n_s : ((sansI l_l n).map PeerV.segs).length = (sansI l_l n).length := List.length_map ..
                      refine C_region (l := [0, 1, 2, 3, 4, 5, 6, 7]) rfl ?_
                      refine X_move rfl rfl rfl rfl ?_
                      first | refine X_load rfl rfl rfl (by repeat first | exact List.Mem.head _ | refine List.Mem.tail _ ?_ | refine List.mem_append_right _ ?_) F.lay32 rfl rfl rfl ?_ | refine X_load_el rfl rfl rfl (by first | assumption | exact SlM.mono (by assumption) (by assumption)) (by first | exact row_map (by omega) | exact List.getElem?_eq_getElem (by omega) | exact rfl | exact row_map (by first | (simp; done) | (simp; omega))) F.lay32 rfl rfl rfl ?_ | refine X_load_rd rfl rfl rfl (by assumption) (by first | exact row_map (by omega) | exact List.getElem?_eq_getElem (by omega) | exact rfl | exact row_map (by first | (simp; done) | (simp; omega))) F.lay32 rfl rfl rfl ?_ | refine X_load_mem rfl rfl rfl (by first | assumption | exact Mem.get_of (by assumption) (by repeat first | assumption | refine Mem.le.trans (by assumption) ?_)) F.lay32 rfl rfl rfl ?_ | refine X_load_osl rfl rfl rfl (by assumption) (by repeat first | exact Rem.here _ | exact Rem.two | apply Rem.skip | apply Rem.over) (by first | exact row_map (by omega) | exact List.getElem?_eq_getElem (by omega) | exact rfl | exact row_map (by first | (simp; done) | (simp; omega))) F.lay32 rfl rfl rfl ?_
                      refine X_fs rfl rfl F.ok14 rfl (Owner_ok _ ⟨_, _, sansI l_l n⟩ id k_s) rfl ?_
                      rintro _ hv
                      replace hv : _ = ofII (ownerR (sansI l_l n) id) := hv
                      rw [show ownerR (sansI l_l n) id = (((q9 : Nat) : Int), 0) by unfold ownerR; rw [if_pos hcs, hq9]] at hv
                      subst hv
                      refine X_move rfl rfl rfl rfl ?_
                      refine X_extract rfl rfl rfl rfl rfl ?_
                      refine X_extract rfl rfl rfl rfl rfl ?_
                      refine X_assign rfl rfl rfl rfl ?_
                      refine X_assign rfl rfl rfl rfl ?_
                      refine XD_end ?_
                      refine K_then ?_
                      refine C_pick (.cons (k := 11) rfl (.cons (k := 10) rfl (.cons (k := 9) rfl (.cons (k := 7) rfl (.cons (k := 6) rfl (.cons (k := 5) rfl (.cons (k := 0) rfl (.cons (k := 1) rfl .nil)))))))) ?_
                      refine C_seq ?_
                      refine C_region (l := [0, 1, 2, 3, 4, 5, 6, 7]) rfl ?_
                      refine X_move rfl rfl rfl rfl ?_
                      first | refine X_load rfl rfl rfl (by repeat first | exact List.Mem.head _ | refine List.Mem.tail _ ?_ | refine List.mem_append_right _ ?_) F.lay32 rfl rfl rfl ?_ | refine X_load_el rfl rfl rfl (by first | assumption | exact SlM.mono (by assumption) (by assumption)) (by first | exact row_map (by omega) | exact List.getElem?_eq_getElem (by omega) | exact rfl | exact row_map (by first | (simp; done) | (simp; omega))) F.lay32 rfl rfl rfl ?_ | refine X_load_rd rfl rfl rfl (by assumption) (by first | exact row_map (by omega) | exact List.getElem?_eq_getElem (by omega) | exact rfl | exact row_map (by first | (simp; done) | (simp; omega))) F.lay32 rfl rfl rfl ?_ | refine X_load_mem rfl rfl rfl (by first | assumption | exact Mem.get_of (by assumption) (by repeat first | assumption | refine Mem.le.trans (by assumption) ?_)) F.lay32 rfl rfl rfl ?_ | refine X_load_osl rfl rfl rfl (by assumption) (by repeat first | exact Rem.here _ | exact Rem.two | apply Rem.skip | apply Rem.over) (by first | exact row_map (by omega) | exact List.getElem?_eq_getElem (by omega) | exact rfl | exact row_map (by first | (simp; done) | (simp; omega))) F.lay32 rfl rfl rfl ?_
                      refine X_fn rfl rfl F.ok15 rfl (Copies_ok _ ⟨l_a, l_c, l_l⟩ id 2 (k_l.mono (by first | exact Mem.le.refl _ | assumption | (repeat first | assumption | refine Mem.le.trans (by assumption) ?_)))) rfl ?_
                      rintro _ M4 hm4 hv
                      replace hv : IntsE _ _ (copiesR l_l id ((2 : Nat) : Int)) := hv
                      rw [copiesR_yes hc (by decide) (by decide), hog, show min 2 l_l.length = 2 by omega] at hv
                      replace hv : IntsE _ _ ([(((o9 + 0) % l_l.length : Nat) : Int), (((o9 + 1) % l_l.length : Nat) : Int)], 0) := hv
                      rw [hw9, Nat.add_zero, Nat.mod_eq_of_lt ho9] at hv
                      obtain ⟨⟨a4, c4, l4⟩, rfl, h4, k4⟩ := hv
                      simp only at h4
                      subst h4
                      have s_4 := k4.h1
                      simp only at s_4
                      have s_l4 := s_l.mono (hm3.trans hm4)
                      have s_s4 := s_s.mono hm4
                      refine X_move rfl rfl rfl rfl ?_
                      refine X_extract rfl rfl rfl rfl rfl ?_
                      refine X_extract rfl rfl rfl rfl rfl ?_
                      refine X_assign rfl rfl rfl rfl ?_
                      refine X_assign rfl rfl rfl rfl ?_
                      refine XD_end ?_
                      refine K_then ?_
                      refine C_pick (.cons (k := 13) rfl (.cons (k := 12) rfl (.cons (k := 11) rfl (.cons (k := 10) rfl (.cons (k := 9) rfl (.cons (k := 7) rfl (.cons (k := 6) rfl (.cons (k := 0) rfl (.cons (k := 1) rfl .nil))))))))) ?_
                      refine C_seq ?_
                      refine C_seq ?_
                      refine C_region (l := [0, 1, 2, 3, 4, 5, 6, 7, 8, 9, 10, 11, 12, 13, 14, 15, 16, 17, 18, 19, 20, 21, 22, 23, 24, 25, 26, 27, 28, 29, 30, 31, 32, 33, 34, 35, 36, 37, 38, 39, 40, 41]) rfl ?_
                      refine X_move rfl rfl rfl rfl ?_
                      refine X_cmp rfl rfl rfl rfl rfl rfl ?_
                      refine X_move rfl rfl rfl rfl ?_
                      refine XD_part 67 rfl (fun hc13 => ?_) (fun hc13 => ?_)
                      · first | replace hc13 := dT hc13 | replace hc13 := dF hc13 | replace hc13 := nT hc13 | replace hc13 := nF hc13 | skip
                        try simp only [PeerV.eta] at hc13
                        first | (exfalso; omega) | (exfalso; simp [eqX] at hc13; done) | contradiction
                      · first | replace hc13 := dT hc13 | replace hc13 := dF hc13 | replace hc13 := nT hc13 | replace hc13 := nF hc13 | skip
                        try simp only [PeerV.eta] at hc13
                        first
                        | (exfalso; omega)
                        | (exfalso; simp [eqX] at hc13; done)
                        | contradiction
                        | skip
                          refine X_move rfl rfl rfl rfl ?_
                          refine X_cmp rfl rfl rfl rfl rfl rfl ?_
                          refine X_pick rfl rfl rfl rfl rfl ?_
                          refine X_move rfl rfl rfl rfl ?_
                          refine XD_part 71 rfl (fun hc14 => ?_) (fun hc14 => ?_)
                          · first | replace hc14 := dT hc14 | replace hc14 := dF hc14 | replace hc14 := nT hc14 | replace hc14 := nF hc14 | skip
                            try simp only [PeerV.eta] at hc14
                            first | (exfalso; omega) | (exfalso; simp [eqX] at hc14; done) | contradiction
                          · first | replace hc14 := dT hc14 | replace hc14 := dF hc14 | replace hc14 := nT hc14 | replace hc14 := nF hc14 | skip
                            try simp only [PeerV.eta] at hc14
                            first
                            | (exfalso; omega)
                            | (exfalso; simp [eqX] at hc14; done)
                            | contradiction
                            | skip
                              refine X_move rfl rfl rfl rfl ?_
                              refine X_cmp rfl rfl rfl rfl rfl rfl ?_
                              refine X_pick rfl rfl rfl rfl rfl ?_
                              refine X_move rfl rfl rfl rfl ?_
                              refine XD_part 75 rfl (fun hc15 => ?_) (fun hc15 => ?_)
                              · first | replace hc15 := dT hc15 | replace hc15 := dF hc15 | replace hc15 := nT hc15 | replace hc15 := nF hc15 | skip
                                try simp only [PeerV.eta] at hc15
                                first | (exfalso; omega) | (exfalso; simp [eqX] at hc15; done) | contradiction
                              · first | replace hc15 := dT hc15 | replace hc15 := dF hc15 | replace hc15 := nT hc15 | replace hc15 := nF hc15 | skip
                                try simp only [PeerV.eta] at hc15
                                first
                                | (exfalso; omega)
                                | (exfalso; simp [eqX] at hc15; done)
                                | contradiction
                                | skip
                                  refine X_move rfl rfl rfl rfl ?_
                                  refine X_move rfl rfl rfl rfl ?_
                                  refine X_len_sl rfl rfl rfl rfl F.elem23 rfl ?_
                                  refine X_cmp rfl rfl rfl rfl rfl rfl ?_
                                  refine X_pick rfl rfl rfl rfl rfl ?_
                                  refine X_move rfl rfl rfl rfl ?_
                                  refine XD_part 81 rfl (fun hc16 => ?_) (fun hc16 => ?_)
                                  · first | replace hc16 := dT hc16 | replace hc16 := dF hc16 | replace hc16 := nT hc16 | replace hc16 := nF hc16 | skip
                                    try simp only [PeerV.eta] at hc16
                                    first | (exfalso; omega) | (exfalso; simp [eqX] at hc16; done) | contradiction
                                  · first | replace hc16 := dT hc16 | replace hc16 := dF hc16 | replace hc16 := nT hc16 | replace hc16 := nF hc16 | skip
                                    try simp only [PeerV.eta] at hc16
                                    first
                                    | (exfalso; omega)
                                    | (exfalso; simp [eqX] at hc16; done)
                                    | contradiction
                                    | skip
                                      refine X_move rfl rfl rfl rfl ?_
                                      refine X_len_sl rfl rfl rfl rfl F.elem22 rfl ?_
                                      refine X_cmp rfl rfl rfl rfl rfl rfl ?_
                                      refine X_pick rfl rfl rfl rfl rfl ?_
                                      refine X_move rfl rfl rfl rfl ?_
                                      refine XD_part 86 rfl (fun hc17 => ?_) (fun hc17 => ?_)
                                      · first | replace hc17 := dT hc17 | replace hc17 := dF hc17 | replace hc17 := nT hc17 | replace hc17 := nF hc17 | skip
                                        try simp only [PeerV.eta] at hc17
                                        first | (exfalso; omega) | (exfalso; simp [eqX] at hc17; done) | contradiction
                                      · first | replace hc17 := dT hc17 | replace hc17 := dF hc17 | replace hc17 := nT hc17 | replace hc17 := nF hc17 | skip
                                        try simp only [PeerV.eta] at hc17
                                        first
                                        | (exfalso; omega)
                                        | (exfalso; simp [eqX] at hc17; done)
                                        | contradiction
                                        | skip
                                          refine X_move rfl rfl rfl rfl ?_
                                          refine X_indexAddr rfl rfl rfl rfl F.elem22 (by first | rfl | exact (Int.toNat_of_nonneg (by omega)).symm) (by first | omega | (simp; done) | (simp; omega)) (by first | exact ⟨_, _, rfl⟩ | assumption | exact SlM.plain (by assumption) (by first | (simp; done) | (simp; omega)) | exact RdS.plain (by assumption) (by first | (simp; done) | (simp; omega)) | exact OSl.plain (by assumption) (by first | (simp; done) | (simp; omega))) rfl ?_
                                          first | refine X_load rfl rfl rfl (by repeat first | exact List.Mem.head _ | refine List.Mem.tail _ ?_ | refine List.mem_append_right _ ?_) F.lay3 rfl rfl rfl ?_ | refine X_load_el rfl rfl rfl (by first | assumption | exact SlM.mono (by assumption) (by assumption)) (by first | exact row_map (by omega) | exact List.getElem?_eq_getElem (by omega) | exact rfl | exact row_map (by first | (simp; done) | (simp; omega))) F.lay3 rfl rfl rfl ?_ | refine X_load_rd rfl rfl rfl (by assumption) (by first | exact row_map (by omega) | exact List.getElem?_eq_getElem (by omega) | exact rfl | exact row_map (by first | (simp; done) | (simp; omega))) F.lay3 rfl rfl rfl ?_ | refine X_load_mem rfl rfl rfl (by first | assumption | exact Mem.get_of (by assumption) (by repeat first | assumption | refine Mem.le.trans (by assumption) ?_)) F.lay3 rfl rfl rfl ?_ | refine X_load_osl rfl rfl rfl (by assumption) (by repeat first | exact Rem.here _ | exact Rem.two | apply Rem.skip | apply Rem.over) (by first | exact row_map (by omega) | exact List.getElem?_eq_getElem (by omega) | exact rfl | exact row_map (by first | (simp; done) | (simp; omega))) F.lay3 rfl rfl rfl ?_ | refine X_load_cell rfl rfl rfl (by repeat first | exact List.Mem.head _ | refine List.Mem.tail _ ?_ | refine List.mem_append_right _ ?_) F.lay3 (by first | exact id_at (by first | omega | decide) | exact arr_at (by first | omega | decide)) rfl ?_
                                          refine X_move rfl rfl rfl rfl ?_
                                          refine X_cmp rfl rfl rfl rfl rfl rfl ?_
                                          refine X_pick rfl rfl rfl rfl rfl ?_
                                          refine X_move rfl rfl rfl rfl ?_
                                          refine XD_part 93 rfl (fun hc18 => ?_) (fun hc18 => ?_)
                                          · first | replace hc18 := dT hc18 | replace hc18 := dF hc18 | replace hc18 := nT hc18 | replace hc18 := nF hc18 | skip
                                            try simp only [PeerV.eta] at hc18
                                            first | (exfalso; omega) | (exfalso; simp [eqX] at hc18; done) | contradiction
                                          · first | replace hc18 := dT hc18 | replace hc18 := dF hc18 | replace hc18 := nT hc18 | replace hc18 := nF hc18 | skip
                                            try simp only [PeerV.eta] at hc18
                                            first
                                            | (exfalso; omega)
                                            | (exfalso; simp [eqX] at hc18; done)
                                            | contradiction
                                            | skip
                                              refine X_move rfl rfl rfl rfl ?_
                                              refine X_indexAddr rfl rfl rfl rfl F.elem22 (by first | rfl | exact (Int.toNat_of_nonneg (by omega)).symm) (by first | omega | (simp; done) | (simp; omega)) (by first | exact ⟨_, _, rfl⟩ | assumption | exact SlM.plain (by assumption) (by first | (simp; done) | (simp; omega)) | exact RdS.plain (by assumption) (by first | (simp; done) | (simp; omega)) | exact OSl.plain (by assumption) (by first | (simp; done) | (simp; omega))) rfl ?_
                                              first | refine X_load rfl rfl rfl (by repeat first | exact List.Mem.head _ | refine List.Mem.tail _ ?_ | refine List.mem_append_right _ ?_) F.lay3 rfl rfl rfl ?_ | refine X_load_el rfl rfl rfl (by first | assumption | exact SlM.mono (by assumption) (by assumption)) (by first | exact row_map (by omega) | exact List.getElem?_eq_getElem (by omega) | exact rfl | exact row_map (by first | (simp; done) | (simp; omega))) F.lay3 rfl rfl rfl ?_ | refine X_load_rd rfl rfl rfl (by assumption) (by first | exact row_map (by omega) | exact List.getElem?_eq_getElem (by omega) | exact rfl | exact row_map (by first | (simp; done) | (simp; omega))) F.lay3 rfl rfl rfl ?_ | refine X_load_mem rfl rfl rfl (by first | assumption | exact Mem.get_of (by assumption) (by repeat first | assumption | refine Mem.le.trans (by assumption) ?_)) F.lay3 rfl rfl rfl ?_ | refine X_load_osl rfl rfl rfl (by assumption) (by repeat first | exact Rem.here _ | exact Rem.two | apply Rem.skip | apply Rem.over) (by first | exact row_map (by omega) | exact List.getElem?_eq_getElem (by omega) | exact rfl | exact row_map (by first | (simp; done) | (simp; omega))) F.lay3 rfl rfl rfl ?_ | refine X_load_cell rfl rfl rfl (by repeat first | exact List.Mem.head _ | refine List.Mem.tail _ ?_ | refine List.mem_append_right _ ?_) F.lay3 (by first | exact id_at (by first | omega | decide) | exact arr_at (by first | omega | decide)) rfl ?_
                                              refine X_cmp rfl rfl rfl rfl rfl rfl ?_
                                              refine X_pick rfl rfl rfl rfl rfl ?_
                                              refine X_move rfl rfl rfl rfl ?_
                                              refine XD_part 99 rfl (fun hc19 => ?_) (fun hc19 => ?_)
                                              · first | replace hc19 := dT hc19 | replace hc19 := dF hc19 | replace hc19 := nT hc19 | replace hc19 := nF hc19 | skip
                                                try simp only [PeerV.eta] at hc19
                                                first | (exfalso; omega) | (exfalso; simp [eqX] at hc19; done) | contradiction
                                              · first | replace hc19 := dT hc19 | replace hc19 := dF hc19 | replace hc19 := nT hc19 | replace hc19 := nF hc19 | skip
                                                try simp only [PeerV.eta] at hc19
                                                first
                                                | (exfalso; omega)
                                                | (exfalso; simp [eqX] at hc19; done)
                                                | contradiction
                                                | skip
                                                  refine X_move rfl rfl rfl rfl ?_
                                                  refine X_indexAddr rfl rfl rfl rfl F.elem22 (by first | rfl | exact (Int.toNat_of_nonneg (by omega)).symm) (by first | omega | (simp; done) | (simp; omega)) (by first | exact ⟨_, _, rfl⟩ | assumption | exact SlM.plain (by assumption) (by first | (simp; done) | (simp; omega)) | exact RdS.plain (by assumption) (by first | (simp; done) | (simp; omega)) | exact OSl.plain (by assumption) (by first | (simp; done) | (simp; omega))) rfl ?_
                                                  first | refine X_load rfl rfl rfl (by repeat first | exact List.Mem.head _ | refine List.Mem.tail _ ?_ | refine List.mem_append_right _ ?_) F.lay3 rfl rfl rfl ?_ | refine X_load_el rfl rfl rfl (by first | assumption | exact SlM.mono (by assumption) (by assumption)) (by first | exact row_map (by omega) | exact List.getElem?_eq_getElem (by omega) | exact rfl | exact row_map (by first | (simp; done) | (simp; omega))) F.lay3 rfl rfl rfl ?_ | refine X_load_rd rfl rfl rfl (by assumption) (by first | exact row_map (by omega) | exact List.getElem?_eq_getElem (by omega) | exact rfl | exact row_map (by first | (simp; done) | (simp; omega))) F.lay3 rfl rfl rfl ?_ | refine X_load_mem rfl rfl rfl (by first | assumption | exact Mem.get_of (by assumption) (by repeat first | assumption | refine Mem.le.trans (by assumption) ?_)) F.lay3 rfl rfl rfl ?_ | refine X_load_osl rfl rfl rfl (by assumption) (by repeat first | exact Rem.here _ | exact Rem.two | apply Rem.skip | apply Rem.over) (by first | exact row_map (by omega) | exact List.getElem?_eq_getElem (by omega) | exact rfl | exact row_map (by first | (simp; done) | (simp; omega))) F.lay3 rfl rfl rfl ?_ | refine X_load_cell rfl rfl rfl (by repeat first | exact List.Mem.head _ | refine List.Mem.tail _ ?_ | refine List.mem_append_right _ ?_) F.lay3 (by first | exact id_at (by first | omega | decide) | exact arr_at (by first | omega | decide)) rfl ?_
                                                  refine X_move rfl rfl rfl rfl ?_
                                                  refine X_len_sl rfl rfl rfl rfl F.elem23 rfl ?_
                                                  refine X_cmp rfl rfl rfl rfl rfl rfl ?_
                                                  refine X_pick rfl rfl rfl rfl rfl ?_
                                                  refine XD_end ?_
                                                  refine K_then ?_
                                                  refine C_pick (.cons (k := 106) rfl (.cons (k := 12) rfl (.cons (k := 10) rfl (.cons (k := 9) rfl (.cons (k := 7) rfl (.cons (k := 6) rfl (.cons (k := 0) rfl (.cons (k := 1) rfl .nil)))))))) ?_
                                                  refine C_cond rfl (fun hc20 => ?_) (fun hc20 => ?_)
                                                  · first | replace hc20 := dT hc20 | replace hc20 := dF hc20 | replace hc20 := nT hc20 | replace hc20 := nF hc20 | skip
                                                    try simp only [PeerV.eta] at hc20
                                                    first | (exfalso; omega) | (exfalso; simp [eqX] at hc20; done) | contradiction
                                                  · first | replace hc20 := dT hc20 | replace hc20 := dF hc20 | replace hc20 := nT hc20 | replace hc20 := nF hc20 | skip
                                                    try simp only [PeerV.eta] at hc20
                                                    first
                                                    | (exfalso; omega)
                                                    | (exfalso; simp [eqX] at hc20; done)
                                                    | contradiction
                                                    | skip
                                                      refine C_skip ?_
                                                      refine K_then ?_
                                                      refine C_pick (.cons (k := 12) rfl (.cons (k := 10) rfl (.cons (k := 9) rfl (.cons (k := 7) rfl (.cons (k := 6) rfl (.cons (k := 0) rfl (.cons (k := 1) rfl .nil))))))) ?_
                                                      refine C_seq ?_
                                                      refine C_region (l := [0, 1, 2, 3, 4, 5]) rfl ?_
                                                      refine X_move rfl rfl rfl rfl ?_
                                                      refine X_move rfl rfl rfl rfl ?_
                                                      refine X_indexAddr rfl rfl rfl rfl F.elem23 (by first | rfl | exact (Int.toNat_of_nonneg (by omega)).symm) (by first | omega | (simp; done) | (simp; omega)) (by first | exact ⟨_, _, rfl⟩ | assumption | exact SlM.plain (by assumption) (by first | (simp; done) | (simp; omega)) | exact RdS.plain (by assumption) (by first | (simp; done) | (simp; omega)) | exact OSl.plain (by assumption) (by first | (simp; done) | (simp; omega))) rfl ?_
                                                      first | refine X_load rfl rfl rfl (by repeat first | exact List.Mem.head _ | refine List.Mem.tail _ ?_ | refine List.mem_append_right _ ?_) F.lay38 rfl rfl rfl ?_ | refine X_load_el rfl rfl rfl (by first | assumption | exact SlM.mono (by assumption) (by assumption)) (by first | exact row_map (by omega) | exact List.getElem?_eq_getElem (by omega) | exact rfl | exact row_map (by first | (simp; done) | (simp; omega))) F.lay38 rfl rfl rfl ?_ | refine X_load_rd rfl rfl rfl (by assumption) (by first | exact row_map (by omega) | exact List.getElem?_eq_getElem (by omega) | exact rfl | exact row_map (by first | (simp; done) | (simp; omega))) F.lay38 rfl rfl rfl ?_ | refine X_load_mem rfl rfl rfl (by first | assumption | exact Mem.get_of (by assumption) (by repeat first | assumption | refine Mem.le.trans (by assumption) ?_)) F.lay38 rfl rfl rfl ?_ | refine X_load_osl rfl rfl rfl (by assumption) (by repeat first | exact Rem.here _ | exact Rem.two | apply Rem.skip | apply Rem.over) (by first | exact row_map (by omega) | exact List.getElem?_eq_getElem (by omega) | exact rfl | exact row_map (by first | (simp; done) | (simp; omega))) F.lay38 rfl rfl rfl ?_
                                                      refine X_alloc rfl rfl F.zero38 (by constructor) rfl ?_; intro b21
                                                      refine X_store rfl rfl rfl rfl (by constructor) (by first | ((try simp only [cat, List.cons_append, List.nil_append, List.append_nil]); (repeat (first | exact flat_nil | refine flat_id ?_ | (refine flat_one ?_ ?_; rfl))); done) | exact PeerV.flat _ | exact PeerV.flat ⟨_, _⟩ | exact stFlat _ | exact phS_flat _ | exact phR_flat | (simp [flat, cat, Segs.cells, Seg.cells, Value.oneCell']; done)) (by repeat first | exact Upd.head | apply Upd.tail | apply Upd.over) F.lay38 rfl rfl ?_
                                                      refine XD_end ?_
                                                      refine K_then ?_
                                                      refine C_pick (.cons (k := 14) rfl (.cons (k := 12) rfl (.cons (k := 10) rfl (.cons (k := 9) rfl (.cons (k := 7) rfl (.cons (k := 6) rfl (.cons (k := 0) rfl (.cons (k := 1) rfl .nil)))))))) ?_
                                                      refine C_seq ?_
                                                      refine C_seq ?_
                                                      refine C_region (l := [0, 1, 2]) rfl ?_
                                                      refine X_move rfl rfl rfl rfl ?_
                                                      refine X_move rfl rfl rfl rfl ?_
                                                      refine X_cmp rfl rfl rfl rfl rfl rfl ?_
                                                      refine XD_end ?_
                                                      refine K_then ?_
                                                      refine C_pick (.cons (k := 113) rfl (.cons (k := 14) rfl (.cons (k := 12) rfl (.cons (k := 10) rfl (.cons (k := 9) rfl (.cons (k := 6) rfl (.cons (k := 0) rfl .nil))))))) ?_
                                                      refine C_cond rfl (fun hc22 => ?_) (fun hc22 => ?_)
                                                      · first | replace hc22 := dT hc22 | replace hc22 := dF hc22 | replace hc22 := nT hc22 | replace hc22 := nF hc22 | skip
                                                        try simp only [PeerV.eta] at hc22
                                                        first
                                                        | (exfalso; omega)
                                                        | (exfalso; simp [eqX] at hc22; done)
                                                        | contradiction
                                                        | skip
                                                          refine C_region (l := [0, 1, 2, 3, 4, 5, 6]) rfl ?_
                                                          refine X_move rfl rfl rfl rfl ?_
                                                          refine X_move rfl rfl rfl rfl ?_
                                                          refine X_indexAddr rfl rfl rfl rfl F.elem22 (by first | rfl | exact (Int.toNat_of_nonneg (by omega)).symm) (by first | omega | (simp; done) | (simp; omega)) (by first | exact ⟨_, _, rfl⟩ | assumption | exact SlM.plain (by assumption) (by first | (simp; done) | (simp; omega)) | exact RdS.plain (by assumption) (by first | (simp; done) | (simp; omega)) | exact OSl.plain (by assumption) (by first | (simp; done) | (simp; omega))) rfl ?_
                                                          first | refine X_load rfl rfl rfl (by repeat first | exact List.Mem.head _ | refine List.Mem.tail _ ?_ | refine List.mem_append_right _ ?_) F.lay3 rfl rfl rfl ?_ | refine X_load_el rfl rfl rfl (by first | assumption | exact SlM.mono (by assumption) (by assumption)) (by first | exact row_map (by omega) | exact List.getElem?_eq_getElem (by omega) | exact rfl | exact row_map (by first | (simp; done) | (simp; omega))) F.lay3 rfl rfl rfl ?_ | refine X_load_rd rfl rfl rfl (by assumption) (by first | exact row_map (by omega) | exact List.getElem?_eq_getElem (by omega) | exact rfl | exact row_map (by first | (simp; done) | (simp; omega))) F.lay3 rfl rfl rfl ?_ | refine X_load_mem rfl rfl rfl (by first | assumption | exact Mem.get_of (by assumption) (by repeat first | assumption | refine Mem.le.trans (by assumption) ?_)) F.lay3 rfl rfl rfl ?_ | refine X_load_osl rfl rfl rfl (by assumption) (by repeat first | exact Rem.here _ | exact Rem.two | apply Rem.skip | apply Rem.over) (by first | exact row_map (by omega) | exact List.getElem?_eq_getElem (by omega) | exact rfl | exact row_map (by first | (simp; done) | (simp; omega))) F.lay3 rfl rfl rfl ?_ | refine X_load_cell rfl rfl rfl (by repeat first | exact List.Mem.head _ | refine List.Mem.tail _ ?_ | refine List.mem_append_right _ ?_) F.lay3 (by first | exact id_at (by first | omega | decide) | exact arr_at (by first | omega | decide)) rfl ?_
                                                          refine X_indexAddr rfl rfl rfl rfl F.elem23 (by first | rfl | exact (Int.toNat_of_nonneg (by omega)).symm) (by first | omega | (simp; done) | (simp; omega)) (by first | exact ⟨_, _, rfl⟩ | assumption | exact SlM.plain (by assumption) (by first | (simp; done) | (simp; omega)) | exact RdS.plain (by assumption) (by first | (simp; done) | (simp; omega)) | exact OSl.plain (by assumption) (by first | (simp; done) | (simp; omega))) rfl ?_
                                                          first | refine X_load rfl rfl rfl (by repeat first | exact List.Mem.head _ | refine List.Mem.tail _ ?_ | refine List.mem_append_right _ ?_) F.lay38 rfl rfl rfl ?_ | refine X_load_el rfl rfl rfl (by first | assumption | exact SlM.mono (by assumption) (by assumption)) (by first | exact row_map (by omega) | exact List.getElem?_eq_getElem (by omega) | exact rfl | exact row_map (by first | (simp; done) | (simp; omega))) F.lay38 rfl rfl rfl ?_ | refine X_load_rd rfl rfl rfl (by assumption) (by first | exact row_map (by omega) | exact List.getElem?_eq_getElem (by omega) | exact rfl | exact row_map (by first | (simp; done) | (simp; omega))) F.lay38 rfl rfl rfl ?_ | refine X_load_mem rfl rfl rfl (by first | assumption | exact Mem.get_of (by assumption) (by repeat first | assumption | refine Mem.le.trans (by assumption) ?_)) F.lay38 rfl rfl rfl ?_ | refine X_load_osl rfl rfl rfl (by assumption) (by repeat first | exact Rem.here _ | exact Rem.two | apply Rem.skip | apply Rem.over) (by first | exact row_map (by omega) | exact List.getElem?_eq_getElem (by omega) | exact rfl | exact row_map (by first | (simp; done) | (simp; omega))) F.lay38 rfl rfl rfl ?_
                                                          refine X_store rfl rfl rfl rfl (by constructor) (by first | ((try simp only [cat, List.cons_append, List.nil_append, List.append_nil]); (repeat (first | exact flat_nil | refine flat_id ?_ | (refine flat_one ?_ ?_; rfl))); done) | exact PeerV.flat _ | exact PeerV.flat ⟨_, _⟩ | exact stFlat _ | exact phS_flat _ | exact phR_flat | (simp [flat, cat, Segs.cells, Seg.cells, Value.oneCell']; done)) (by repeat first | exact Upd.head | apply Upd.tail | apply Upd.over) F.lay38 rfl rfl ?_
                                                          refine XD_end ?_
                                                          refine K_then ?_
                                                          refine C_pick (.cons (k := 14) rfl (.cons (k := 10) rfl (.cons (k := 9) rfl (.cons (k := 6) rfl .nil)))) ?_
                                                          refine C_seq ?_
                                                          refine C_region_any (l := [0, 1, 2, 3, 4, 5, 6, 7, 8, 9]) #[0, 1, 3, 3, 15, 31, 3, 127, 255, 511] _ rfl (by kernel_rfl) (by kernel_rfl) St.drawn (fun _ h => h) ?_
                                                          refine X_fn rfl rfl F.ok10 rfl (rounded_ok _ (Mem.le.loose (by first | exact Mem.le.refl _ | assumption | (repeat first | assumption | refine Mem.le.trans (by assumption) ?_)) hM)) rfl ?_
                                                          rintro _ M9 hm9 rfl
                                                          refine X_move rfl rfl rfl rfl ?_
                                                          refine XD_part 121 rfl (fun hc23 => ?_) (fun hc23 => ?_)
                                                          · first | replace hc23 := dT hc23 | replace hc23 := dF hc23 | replace hc23 := nT hc23 | replace hc23 := nF hc23 | skip
                                                            try simp only [PeerV.eta] at hc23
                                                            first
                                                            | (exfalso; omega)
                                                            | (exfalso; simp [eqX] at hc23; done)
                                                            | contradiction
                                                            | skip
                                                              refine X_move rfl rfl rfl rfl ?_
                                                              refine X_move rfl rfl rfl rfl ?_
                                                              refine X_indexAddr rfl rfl rfl rfl F.elem23 (by first | rfl | exact (Int.toNat_of_nonneg (by omega)).symm) (by first | omega | (simp; done) | (simp; omega)) (by first | exact ⟨_, _, rfl⟩ | assumption | exact SlM.plain (by assumption) (by first | (simp; done) | (simp; omega)) | exact RdS.plain (by assumption) (by first | (simp; done) | (simp; omega)) | exact OSl.plain (by assumption) (by first | (simp; done) | (simp; omega))) rfl ?_
                                                              first | refine X_load rfl rfl rfl (by repeat first | exact List.Mem.head _ | refine List.Mem.tail _ ?_ | refine List.mem_append_right _ ?_) F.lay38 rfl rfl rfl ?_ | refine X_load_el rfl rfl rfl (by first | assumption | exact SlM.mono (by assumption) (by assumption)) (by first | exact row_map (by omega) | exact List.getElem?_eq_getElem (by omega) | exact rfl | exact row_map (by first | (simp; done) | (simp; omega))) F.lay38 rfl rfl rfl ?_ | refine X_load_rd rfl rfl rfl (by assumption) (by first | exact row_map (by omega) | exact List.getElem?_eq_getElem (by omega) | exact rfl | exact row_map (by first | (simp; done) | (simp; omega))) F.lay38 rfl rfl rfl ?_ | refine X_load_mem rfl rfl rfl (by first | assumption | exact Mem.get_of (by assumption) (by repeat first | assumption | refine Mem.le.trans (by assumption) ?_)) F.lay38 rfl rfl rfl ?_ | refine X_load_osl rfl rfl rfl (by assumption) (by repeat first | exact Rem.here _ | exact Rem.two | apply Rem.skip | apply Rem.over) (by first | exact row_map (by omega) | exact List.getElem?_eq_getElem (by omega) | exact rfl | exact row_map (by first | (simp; done) | (simp; omega))) F.lay38 rfl rfl rfl ?_
                                                              first | refine X_load rfl rfl rfl (by repeat first | exact List.Mem.head _ | refine List.Mem.tail _ ?_ | refine List.mem_append_right _ ?_) F.lay38 rfl rfl rfl ?_ | refine X_load_el rfl rfl rfl (by first | assumption | exact SlM.mono (by assumption) (by assumption)) (by first | exact row_map (by omega) | exact List.getElem?_eq_getElem (by omega) | exact rfl | exact row_map (by first | (simp; done) | (simp; omega))) F.lay38 rfl rfl rfl ?_ | refine X_load_rd rfl rfl rfl (by assumption) (by first | exact row_map (by omega) | exact List.getElem?_eq_getElem (by omega) | exact rfl | exact row_map (by first | (simp; done) | (simp; omega))) F.lay38 rfl rfl rfl ?_ | refine X_load_mem rfl rfl rfl (by first | assumption | exact Mem.get_of (by assumption) (by repeat first | assumption | refine Mem.le.trans (by assumption) ?_)) F.lay38 rfl rfl rfl ?_ | refine X_load_osl rfl rfl rfl (by assumption) (by repeat first | exact Rem.here _ | exact Rem.two | apply Rem.skip | apply Rem.over) (by first | exact row_map (by omega) | exact List.getElem?_eq_getElem (by omega) | exact rfl | exact row_map (by first | (simp; done) | (simp; omega))) F.lay38 rfl rfl rfl ?_
                                                              refine X_same (m := 20) rfl rfl rfl rfl rfl (by constructor) (by constructor) F.lay38 F.kinds38 rfl F.guard38 (by first | exact FitPeerV _ | exact FitPeerV (⟨_, _⟩) | (repeat first | exact trivial | exact rfl | refine And.intro ?_ ?_ | refine idFits _ ?_)) (by first | exact FitPeerV _ | exact FitPeerV (⟨_, _⟩) | (repeat first | exact trivial | exact rfl | refine And.intro ?_ ?_ | refine idFits _ ?_)) rfl rfl rfl ?_; intro c24 he25
                                                              replace he25 : c24 = true ↔ Segs.cells _ = Segs.cells _ := he25
                                                              obtain rfl := eqD he25 (PeerV.inj (x := ⟨_, _⟩) (y := ⟨_, _⟩)); clear he25
                                                              refine X_pick rfl rfl rfl rfl rfl ?_
                                                              refine X_assign rfl rfl rfl rfl ?_
                                                              refine XD_end ?_
                                                              refine K_then ?_
                                                              refine C_pick (.cons (k := 6) rfl .nil) ?_
                                                              refine C_ret ?_
                                                              refine K_end (.inr rfl) (.tmp rfl .nil) (fun w hw => ?_)
                                                              refine ⟨_, _, rfl, (by first | exact Mem.le.refl _ | assumption | (repeat first | assumption | refine Mem.le.trans (by assumption) ?_)), hw.cnt (by intro zz; first | exact Nat.le_refl _ | (simp only [cnt_app, cnt_cons, cnt_nil, cat, List.append_eq, List.append_assoc, List.cons_append, List.nil_append, List.append_nil]; omega) | (simp only [cnt_app, cnt_cons, cnt_nil, cat, List.append_eq, List.append_assoc, List.cons_append, List.nil_append, List.append_nil, PeerV.segs]; omega)), ?_⟩
                                                              clear hw
                                                              refine congrArg Value.bool (decide_eq_true ?_)
                                                              rw [if_pos (by omega)] at hgo; exact hgo
                                                          · first | replace hc23 := dT hc23 | replace hc23 := dF hc23 | replace hc23 := nT hc23 | replace hc23 := nF hc23 | skip
                                                            try simp only [PeerV.eta] at hc23
                                                            first | (exfalso; omega) | (exfalso; simp [eqX] at hc23; done) | contradiction
                                                      · first | replace hc22 := dT hc22 | replace hc22 := dF hc22 | replace hc22 := nT hc22 | replace hc22 := nF hc22 | skip
                                                        try simp only [PeerV.eta] at hc22
                                                        first
                                                        | (exfalso; omega)
                                                        | (exfalso; simp [eqX] at hc22; done)
                                                        | contradiction
                                                        | skip
                                                          refine C_skip ?_
                                                          refine K_then ?_
                                                          refine C_pick (.cons (k := 14) rfl (.cons (k := 10) rfl (.cons (k := 9) rfl (.cons (k := 6) rfl .nil)))) ?_
                                                          refine C_seq ?_
                                                          refine C_region_any (l := [0, 1, 2, 3, 4, 5, 6, 7, 8, 9]) #[0, 1, 3, 3, 15, 31, 3, 127, 255, 511] _ rfl (by kernel_rfl) (by kernel_rfl) St.drawn (fun _ h => h) ?_
                                                          refine X_fn rfl rfl F.ok10 rfl (rounded_ok _ (Mem.le.loose (by first | exact Mem.le.refl _ | assumption | (repeat first | assumption | refine Mem.le.trans (by assumption) ?_)) hM)) rfl ?_
                                                          rintro _ M9 hm9 rfl
                                                          refine X_move rfl rfl rfl rfl ?_
                                                          refine XD_part 121 rfl (fun hc26 => ?_) (fun hc26 => ?_)
                                                          · first | replace hc26 := dT hc26 | replace hc26 := dF hc26 | replace hc26 := nT hc26 | replace hc26 := nF hc26 | skip
                                                            try simp only [PeerV.eta] at hc26
                                                            first
                                                            | (exfalso; omega)
                                                            | (exfalso; simp [eqX] at hc26; done)
                                                            | contradiction
                                                            | skip
                                                              refine X_move rfl rfl rfl rfl ?_
                                                              refine X_move rfl rfl rfl rfl ?_
                                                              refine X_indexAddr rfl rfl rfl rfl F.elem23 (by first | rfl | exact (Int.toNat_of_nonneg (by omega)).symm) (by first | omega | (simp; done) | (simp; omega)) (by first | exact ⟨_, _, rfl⟩ | assumption | exact SlM.plain (by assumption) (by first | (simp; done) | (simp; omega)) | exact RdS.plain (by assumption) (by first | (simp; done) | (simp; omega)) | exact OSl.plain (by assumption) (by first | (simp; done) | (simp; omega))) rfl ?_
                                                              first | refine X_load rfl rfl rfl (by repeat first | exact List.Mem.head _ | refine List.Mem.tail _ ?_ | refine List.mem_append_right _ ?_) F.lay38 rfl rfl rfl ?_ | refine X_load_el rfl rfl rfl (by first | assumption | exact SlM.mono (by assumption) (by assumption)) (by first | exact row_map (by omega) | exact List.getElem?_eq_getElem (by omega) | exact rfl | exact row_map (by first | (simp; done) | (simp; omega))) F.lay38 rfl rfl rfl ?_ | refine X_load_rd rfl rfl rfl (by assumption) (by first | exact row_map (by omega) | exact List.getElem?_eq_getElem (by omega) | exact rfl | exact row_map (by first | (simp; done) | (simp; omega))) F.lay38 rfl rfl rfl ?_ | refine X_load_mem rfl rfl rfl (by first | assumption | exact Mem.get_of (by assumption) (by repeat first | assumption | refine Mem.le.trans (by assumption) ?_)) F.lay38 rfl rfl rfl ?_ | refine X_load_osl rfl rfl rfl (by assumption) (by repeat first | exact Rem.here _ | exact Rem.two | apply Rem.skip | apply Rem.over) (by first | exact row_map (by omega) | exact List.getElem?_eq_getElem (by omega) | exact rfl | exact row_map (by first | (simp; done) | (simp; omega))) F.lay38 rfl rfl rfl ?_
                                                              first | refine X_load rfl rfl rfl (by repeat first | exact List.Mem.head _ | refine List.Mem.tail _ ?_ | refine List.mem_append_right _ ?_) F.lay38 rfl rfl rfl ?_ | refine X_load_el rfl rfl rfl (by first | assumption | exact SlM.mono (by assumption) (by assumption)) (by first | exact row_map (by omega) | exact List.getElem?_eq_getElem (by omega) | exact rfl | exact row_map (by first | (simp; done) | (simp; omega))) F.lay38 rfl rfl rfl ?_ | refine X_load_rd rfl rfl rfl (by assumption) (by first | exact row_map (by omega) | exact List.getElem?_eq_getElem (by omega) | exact rfl | exact row_map (by first | (simp; done) | (simp; omega))) F.lay38 rfl rfl rfl ?_ | refine X_load_mem rfl rfl rfl (by first | assumption | exact Mem.get_of (by assumption) (by repeat first | assumption | refine Mem.le.trans (by assumption) ?_)) F.lay38 rfl rfl rfl ?_ | refine X_load_osl rfl rfl rfl (by assumption) (by repeat first | exact Rem.here _ | exact Rem.two | apply Rem.skip | apply Rem.over) (by first | exact row_map (by omega) | exact List.getElem?_eq_getElem (by omega) | exact rfl | exact row_map (by first | (simp; done) | (simp; omega))) F.lay38 rfl rfl rfl ?_
                                                              refine X_same (m := 20) rfl rfl rfl rfl rfl (by constructor) (by constructor) F.lay38 F.kinds38 rfl F.guard38 (by first | exact FitPeerV _ | exact FitPeerV (⟨_, _⟩) | (repeat first | exact trivial | exact rfl | refine And.intro ?_ ?_ | refine idFits _ ?_)) (by first | exact FitPeerV _ | exact FitPeerV (⟨_, _⟩) | (repeat first | exact trivial | exact rfl | refine And.intro ?_ ?_ | refine idFits _ ?_)) rfl rfl rfl ?_; intro c27 he28
                                                              replace he28 : c27 = true ↔ Segs.cells _ = Segs.cells _ := he28
                                                              obtain rfl := eqD he28 (PeerV.inj (x := ⟨_, _⟩) (y := ⟨_, _⟩)); clear he28
                                                              refine X_pick rfl rfl rfl rfl rfl ?_
                                                              refine X_assign rfl rfl rfl rfl ?_
                                                              refine XD_end ?_
                                                              refine K_then ?_
                                                              refine C_pick (.cons (k := 6) rfl .nil) ?_
                                                              refine C_ret ?_
                                                              refine K_end (.inr rfl) (.tmp rfl .nil) (fun w hw => ?_)
                                                              refine ⟨_, _, rfl, (by first | exact Mem.le.refl _ | assumption | (repeat first | assumption | refine Mem.le.trans (by assumption) ?_)), hw.cnt (by intro zz; first | exact Nat.le_refl _ | (simp only [cnt_app, cnt_cons, cnt_nil, cat, List.append_eq, List.append_assoc, List.cons_append, List.nil_append, List.append_nil]; omega) | (simp only [cnt_app, cnt_cons, cnt_nil, cat, List.append_eq, List.append_assoc, List.cons_append, List.nil_append, List.append_nil, PeerV.segs]; omega)), ?_⟩
                                                              clear hw
                                                              refine congrArg Value.bool (decide_eq_true ?_)
                                                              rw [if_neg (by omega)] at hgo; exact hgo
                                                          · first | replace hc26 := dT hc26 | replace hc26 := dF hc26 | replace hc26 := nT hc26 | replace hc26 := nF hc26 | skip
                                                            try simp only [PeerV.eta] at hc26
                                                            first | (exfalso; omega) | (exfalso; simp [eqX] at hc26; done) | contradiction

end Go.Proofs.YtbafnjniijodfaaDoor
