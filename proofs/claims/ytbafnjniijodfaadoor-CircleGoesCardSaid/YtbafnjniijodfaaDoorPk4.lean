/-
  Texts of this claim, one behind the other: T4, T5, ShaN, T6, Rules9, ShaL, T7, ShaS, T8, T9, RepL, RepM, PadL.
-/
import Derived.Test.YtbafnjniijodfaaDoorPk3
import Derived.KernelRfl
import Derived.Laws.BytesArg
import Derived.Shelf.Strings.Repeat
import Derived.Ground.NamesProg
import Derived.Test.YtbafnjniijodfaaDoorRows
/-
  Circles: fingers, arcs.
-/
set_option linter.unusedSimpArgs false
set_option linter.unusedVariables false
set_option linter.unnecessarySimpa false
set_option maxRecDepth 8000
set_option maxHeartbeats 1000000
namespace Go.Proofs.YtbafnjniijodfaaDoor
open Go.Esp
theorem F.ok18 : okFn Tryd.prog 18 = true := by kernel_rfl
theorem F.ok24 : okFn Tryd.prog 24 = true := by kernel_rfl
theorem F.ok42 : okFn Tryd.prog 42 = true := by kernel_rfl
theorem F.ok43 : okFn Tryd.prog 43 = true := by kernel_rfl

theorem Fingers_ok (M : Mem) (l : (Sl PeerV)) (i : Int) (hl0 : SlK M PeerV.segs 21 l) : Esp.Fn Tryd.prog 20 [Sl.val l, .int .i64 i] M (fun M' v => IntsE M' v (fingersR l.l i)) := by
  obtain ⟨l_a, l_c, l_l⟩ := l
  have k_l : SlK M PeerV.segs 21 ⟨l_a, l_c, l_l⟩ := hl0
  have s_l : SlM M l_a (l_l.map PeerV.segs) 21 := k_l.h1
  have n_l : (l_l.map PeerV.segs).length = l_l.length := List.length_map ..
  have m_l : l_l.length ≤ 9223372036854775807 := k_l.h2
  have c_l : l_l.length ≤ l_c := k_l.h3
  refine fn_enter Tryd.func20 rfl Tryd.ntmps20 rfl ?_; intro H
  refine C_seq ?_
  refine C_region (l := [0, 1]) rfl ?_
  refine X_assign rfl rfl rfl rfl ?_
  refine X_assign rfl rfl rfl rfl ?_
  refine XD_end ?_
  refine K_then ?_
  refine C_seq ?_
  refine C_seq ?_
  refine C_region (l := [0, 1, 2, 3, 4, 5, 6, 7, 8, 9, 10, 11, 12]) rfl ?_
  refine X_move rfl rfl rfl rfl ?_
  refine X_fs rfl rfl F.ok12 rfl (Circ_ok _ ⟨_, _, _⟩ (by first | assumption | omega | exact SlK.mono (by assumption) (by assumption) | exact SlM.mono (by assumption) (by assumption) | exact SlM.mono (by assumption) (by repeat first | assumption | refine Mem.le.trans (by assumption) ?_))) rfl ?_
  rintro _ rfl
  refine X_not rfl rfl rfl rfl ?_
  refine X_move rfl rfl rfl rfl ?_
  refine XD_part 13 rfl (fun hc1 => ?_) (fun hc1 => ?_)
  · first | replace hc1 := dT hc1 | replace hc1 := dF hc1 | replace hc1 := nT hc1 | replace hc1 := nF hc1 | skip
    try simp only [PeerV.eta] at hc1
    first
    | (exfalso; omega)
    | (exfalso; simp [eqX] at hc1; done)
    | contradiction
    | skip
      refine X_skip rfl rfl rfl ?_
      refine X_skip rfl rfl rfl ?_
      refine X_pick rfl rfl rfl rfl rfl ?_
      refine X_move rfl rfl rfl rfl ?_
      refine X_skip rfl rfl rfl ?_
      refine X_skip rfl rfl rfl ?_
      refine X_skip rfl rfl rfl ?_
      refine X_skip rfl rfl rfl ?_
      refine X_pick rfl rfl rfl rfl rfl ?_
      refine XD_end ?_
      refine K_then ?_
      refine C_pick (.cons (k := 22) rfl (.cons (k := 5) rfl (.cons (k := 4) rfl (.cons (k := 0) rfl (.cons (k := 1) rfl .nil))))) ?_
      refine C_true rfl ?_
      refine C_seq ?_
      refine C_region (l := [0, 1]) rfl ?_
      refine X_assign rfl rfl rfl rfl ?_
      refine X_assign rfl rfl rfl rfl ?_
      refine XD_end ?_
      refine K_then ?_
      refine C_pick (.cons (k := 5) rfl (.cons (k := 4) rfl (.cons (k := 0) rfl (.cons (k := 1) rfl .nil)))) ?_
      refine C_ret ?_
      refine K_ret ?_
      refine K_end (.inr rfl) (.tmp rfl (.tmp rfl .nil)) (fun w hw => ?_)
      refine ⟨_, M, rfl, Mem.le.refl M, hw.cnt (by intro zz; first | exact Nat.le_refl _ | (simp only [cnt_app, cnt_cons, cnt_nil, cat, List.append_eq, List.append_assoc, List.cons_append, List.nil_append, List.append_nil]; omega) | (simp only [cnt_app, cnt_cons, cnt_nil, cat, List.append_eq, List.append_assoc, List.cons_append, List.nil_append, List.append_nil, PeerV.segs]; omega)), ?_⟩
      rw [show fingersR l_l i = ([], 1) from fingersR_no (by rintro ⟨g1, g2, g3⟩; first | exact absurd g1 (by assumption) | omega)]
      exact ⟨⟨none, 0, []⟩, rfl, rfl, SlK.nil⟩
  · first | replace hc1 := dT hc1 | replace hc1 := dF hc1 | replace hc1 := nT hc1 | replace hc1 := nF hc1 | skip
    try simp only [PeerV.eta] at hc1
    first
    | (exfalso; omega)
    | (exfalso; simp [eqX] at hc1; done)
    | contradiction
    | skip
      refine X_move rfl rfl rfl rfl ?_
      refine X_cmp rfl rfl rfl rfl rfl rfl ?_
      refine X_pick rfl rfl rfl rfl rfl ?_
      refine X_move rfl rfl rfl rfl ?_
      refine XD_part 17 rfl (fun hc2 => ?_) (fun hc2 => ?_)
      · first | replace hc2 := dT hc2 | replace hc2 := dF hc2 | replace hc2 := nT hc2 | replace hc2 := nF hc2 | skip
        try simp only [PeerV.eta] at hc2
        first
        | (exfalso; omega)
        | (exfalso; simp [eqX] at hc2; done)
        | contradiction
        | skip
          refine X_skip rfl rfl rfl ?_
          refine X_skip rfl rfl rfl ?_
          refine X_skip rfl rfl rfl ?_
          refine X_skip rfl rfl rfl ?_
          refine X_pick rfl rfl rfl rfl rfl ?_
          refine XD_end ?_
          refine K_then ?_
          refine C_pick (.cons (k := 22) rfl (.cons (k := 5) rfl (.cons (k := 4) rfl (.cons (k := 0) rfl (.cons (k := 1) rfl .nil))))) ?_
          refine C_true rfl ?_
          refine C_seq ?_
          refine C_region (l := [0, 1]) rfl ?_
          refine X_assign rfl rfl rfl rfl ?_
          refine X_assign rfl rfl rfl rfl ?_
          refine XD_end ?_
          refine K_then ?_
          refine C_pick (.cons (k := 5) rfl (.cons (k := 4) rfl (.cons (k := 0) rfl (.cons (k := 1) rfl .nil)))) ?_
          refine C_ret ?_
          refine K_ret ?_
          refine K_end (.inr rfl) (.tmp rfl (.tmp rfl .nil)) (fun w hw => ?_)
          refine ⟨_, M, rfl, Mem.le.refl M, hw.cnt (by intro zz; first | exact Nat.le_refl _ | (simp only [cnt_app, cnt_cons, cnt_nil, cat, List.append_eq, List.append_assoc, List.cons_append, List.nil_append, List.append_nil]; omega) | (simp only [cnt_app, cnt_cons, cnt_nil, cat, List.append_eq, List.append_assoc, List.cons_append, List.nil_append, List.append_nil, PeerV.segs]; omega)), ?_⟩
          rw [show fingersR l_l i = ([], 1) from fingersR_no (by rintro ⟨g1, g2, g3⟩; first | exact absurd g1 (by assumption) | omega)]
          exact ⟨⟨none, 0, []⟩, rfl, rfl, SlK.nil⟩
      · first | replace hc2 := dT hc2 | replace hc2 := dF hc2 | replace hc2 := nT hc2 | replace hc2 := nF hc2 | skip
        try simp only [PeerV.eta] at hc2
        first
        | (exfalso; omega)
        | (exfalso; simp [eqX] at hc2; done)
        | contradiction
        | skip
          refine X_move rfl rfl rfl rfl ?_
          refine X_move rfl rfl rfl rfl ?_
          refine X_len_sl rfl rfl rfl rfl F.elem23 rfl ?_
          refine X_cmp rfl rfl rfl rfl rfl rfl ?_
          refine X_pick rfl rfl rfl rfl rfl ?_
          refine XD_end ?_
          refine K_then ?_
          refine C_pick (.cons (k := 22) rfl (.cons (k := 5) rfl (.cons (k := 4) rfl (.cons (k := 0) rfl (.cons (k := 1) rfl .nil))))) ?_
          refine C_cond rfl (fun hc3 => ?_) (fun hc3 => ?_)
          · first | replace hc3 := dT hc3 | replace hc3 := dF hc3 | replace hc3 := nT hc3 | replace hc3 := nF hc3 | skip
            try simp only [PeerV.eta] at hc3
            first
            | (exfalso; omega)
            | (exfalso; simp [eqX] at hc3; done)
            | contradiction
            | skip
              refine C_seq ?_
              refine C_region (l := [0, 1]) rfl ?_
              refine X_assign rfl rfl rfl rfl ?_
              refine X_assign rfl rfl rfl rfl ?_
              refine XD_end ?_
              refine K_then ?_
              refine C_pick (.cons (k := 5) rfl (.cons (k := 4) rfl (.cons (k := 0) rfl (.cons (k := 1) rfl .nil)))) ?_
              refine C_ret ?_
              refine K_ret ?_
              refine K_end (.inr rfl) (.tmp rfl (.tmp rfl .nil)) (fun w hw => ?_)
              refine ⟨_, M, rfl, Mem.le.refl M, hw.cnt (by intro zz; first | exact Nat.le_refl _ | (simp only [cnt_app, cnt_cons, cnt_nil, cat, List.append_eq, List.append_assoc, List.cons_append, List.nil_append, List.append_nil]; omega) | (simp only [cnt_app, cnt_cons, cnt_nil, cat, List.append_eq, List.append_assoc, List.cons_append, List.nil_append, List.append_nil, PeerV.segs]; omega)), ?_⟩
              rw [show fingersR l_l i = ([], 1) from fingersR_no (by rintro ⟨g1, g2, g3⟩; first | exact absurd g1 (by assumption) | omega)]
              exact ⟨⟨none, 0, []⟩, rfl, rfl, SlK.nil⟩
          · first | replace hc3 := dT hc3 | replace hc3 := dF hc3 | replace hc3 := nT hc3 | replace hc3 := nF hc3 | skip
            try simp only [PeerV.eta] at hc3
            first
            | (exfalso; omega)
            | (exfalso; simp [eqX] at hc3; done)
            | contradiction
            | skip
              refine C_skip ?_
              refine K_then ?_
              refine C_pick (.cons (k := 5) rfl (.cons (k := 4) rfl (.cons (k := 0) rfl (.cons (k := 1) rfl .nil)))) ?_
              refine C_seq ?_
              refine C_region (l := [0, 1]) rfl ?_
              obtain ⟨n, rfl⟩ : ∃ n : Nat, i = n := ⟨i.toNat, by omega⟩
              have hc : IsCircle l_l := by assumption
              have hn : n < l_l.length := by omega
              have hc1 := hc.1
              refine X_makeSliceO (k := 160) (zr := oneI .i64 0) rfl rfl rfl rfl F.elem22 F.zero3 rfl rfl rfl (by decide) (by decide) rfl ?_; intro b1 hs1 ho1
              refine X_assign rfl rfl rfl rfl ?_
              refine XD_end ?_
              refine K_then ?_
              refine C_pick (.cons (k := 6) rfl (.cons (k := 5) rfl (.cons (k := 4) rfl (.cons (k := 0) rfl (.cons (k := 1) rfl .nil))))) ?_
              refine C_seq ?_
              refine C_seq ?_
              refine C_region (l := [0, 1, 2]) rfl ?_
              refine X_move rfl rfl rfl rfl ?_
              refine X_len_sl rfl rfl rfl rfl F.elem22 rfl ?_
              refine X_move rfl rfl rfl rfl ?_
              refine XD_end ?_
              refine K_then ?_
              refine C_pick (.cons (k := 26) rfl (.cons (k := 25) rfl (.cons (k := 6) rfl (.cons (k := 5) rfl (.cons (k := 4) rfl (.cons (k := 0) rfl (.cons (k := 1) rfl .nil))))))) ?_
              refine C_block ?_
              refine C_pick (.cons (k := 26) rfl (.cons (k := 25) rfl (.cons (k := 6) rfl (.cons (k := 5) rfl (.cons (k := 4) rfl (.cons (k := 0) rfl (.cons (k := 1) rfl .nil))))))) ?_
              refine C_loopO (Hin := hs1) (.succ .zero) (by repeat first | exact Rem.here _ | exact Rem.two | apply Rem.skip | apply Rem.over) (fun (k : Nat) M1 h1 z => M1 = M ∧ z = [(26, .int .i64 (k : Int))] ∧ k ≤ 160 ∧ OSl 3 1 (.slice (some ⟨b1, 0, none⟩) 160 160) h1 ((fillL (fingerAt l_l l_l[n]) (k)).map (oneI .i64))) (fun k => 160 - k) (0) (⟨rfl, rfl, by omega, by rw [fillL_zero, List.map_replicate]; exact ho1⟩) ?_
              rintro k M1 h1 z hm1 ⟨hM1, rfl, hk, ho⟩
              subst hM1
              have hfl := fillL_len (fingerAt l_l l_l[n]) k
              have hml : ((fillL (fingerAt l_l l_l[n]) (k)).map (oneI .i64)).length = 160 := by rw [List.length_map]; exact hfl
              refine C_seq ?_
              refine C_region (l := [0]) rfl ?_
              refine X_cmp rfl rfl rfl rfl rfl rfl ?_
              refine XD_end ?_
              refine K_then ?_
              refine C_seq ?_
              refine C_cond rfl (fun hc4 => ?_) (fun hc4 => ?_)
              · first | replace hc4 := dT hc4 | replace hc4 := dF hc4 | replace hc4 := nT hc4 | replace hc4 := nF hc4 | skip
                try simp only [PeerV.eta] at hc4
                first
                | (exfalso; omega)
                | (exfalso; simp [eqX] at hc4; done)
                | contradiction
                | skip
                  refine C_skip ?_
                  refine K_then ?_
                  refine C_seq ?_
                  refine C_block ?_
                  refine C_seq ?_
                  refine C_region (l := [0, 1]) rfl ?_
                  refine X_move rfl rfl rfl rfl ?_
                  refine X_assign rfl rfl rfl rfl ?_
                  refine XD_end ?_
                  refine K_then ?_
                  refine C_seq ?_
                  refine C_region (l := [0, 1, 2, 3, 4, 5, 6, 7]) rfl ?_
                  refine X_move rfl rfl rfl rfl ?_
                  refine X_fs rfl rfl F.ok24 rfl (Power_ok_in _ k (by omega)) rfl ?_
                  rintro _ rfl
                  refine X_move rfl rfl rfl rfl ?_
                  refine X_extract rfl rfl rfl rfl rfl ?_
                  refine X_extract rfl rfl rfl rfl rfl ?_
                  refine X_alloc rfl rfl F.zero32 (by constructor) rfl ?_; intro b5
                  refine X_store rfl rfl rfl rfl (by constructor) (by first | ((try simp only [cat, List.cons_append, List.nil_append, List.append_nil]); (repeat (first | exact flat_nil | refine flat_id ?_ | (refine flat_one ?_ ?_; rfl))); done) | exact PeerV.flat _ | exact PeerV.flat ⟨_, _⟩ | (simp [flat, cat, Segs.cells, Seg.cells, Value.oneCell']; done)) (by repeat first | exact Upd.head | apply Upd.tail | apply Upd.over) F.lay32 rfl rfl ?_
                  refine X_assign rfl rfl rfl rfl ?_
                  refine XD_end ?_
                  refine K_then ?_
                  refine C_pick (.cons (k := 8) rfl (.cons (k := 33) rfl (.cons (k := 32) rfl (.cons (k := 29) rfl (.cons (k := 31) rfl (.cons (k := 30) rfl (.cons (k := 7) rfl (.cons (k := 28) rfl (.cons (k := 27) rfl (.cons (k := 26) rfl (.cons (k := 25) rfl (.cons (k := 6) rfl (.cons (k := 5) rfl (.cons (k := 4) rfl (.cons (k := 0) rfl (.cons (k := 1) rfl .nil)))))))))))))))) ?_
                  refine C_region_any (l := [0, 1, 2, 3, 4, 5, 6, 7, 8, 9, 10, 11, 12]) #[0, 0, 0, 0, 0, 24, 56, 120, 0, 504, 1020, 2047, 4095] _ rfl (by kernel_rfl) (by kernel_rfl) St.drawn (fun _ h => h) ?_
                  refine X_move rfl rfl rfl rfl ?_
                  refine X_move rfl rfl rfl rfl ?_
                  refine X_move rfl rfl rfl rfl ?_
                  refine X_move rfl rfl rfl rfl ?_
                  refine X_move rfl rfl rfl rfl ?_
                  refine X_indexAddr rfl rfl rfl rfl F.elem23 (by first | rfl | exact (Int.toNat_of_nonneg (by omega)).symm) (by first | omega | (simp; done) | (simp; omega)) (by first | exact ⟨_, _, rfl⟩ | assumption | exact SlM.plain (by assumption) (by first | (simp; done) | (simp; omega)) | exact RdS.plain (by assumption) (by first | (simp; done) | (simp; omega)) | exact OSl.plain (by assumption) (by first | (simp; done) | (simp; omega))) rfl ?_
                  first | refine X_fieldAddr rfl rfl rfl F.foff38_1 rfl ?_ | refine X_fieldAddr_el rfl rfl rfl (by first | exact ⟨_, _, rfl⟩ | assumption | exact SlM.plain (by assumption) (by first | (simp; done) | (simp; omega)) | exact RdS.plain (by assumption) (by first | (simp; done) | (simp; omega)) | exact OSl.plain (by assumption) (by first | (simp; done) | (simp; omega))) F.foff38_1 rfl ?_
                  first | refine X_load rfl rfl rfl (by repeat first | exact List.Mem.head _ | refine List.Mem.tail _ ?_ | refine List.mem_append_right _ ?_) F.lay32 rfl rfl rfl ?_ | refine X_load_el rfl rfl rfl (by first | assumption | exact SlM.mono (by assumption) (by assumption)) (by first | exact row_map (by omega) | exact List.getElem?_eq_getElem (by omega) | exact rfl | exact row_map (by first | (simp; done) | (simp; omega))) F.lay32 rfl rfl rfl ?_ | refine X_load_rd rfl rfl rfl (by assumption) (by first | exact row_map (by omega) | exact List.getElem?_eq_getElem (by omega) | exact rfl | exact row_map (by first | (simp; done) | (simp; omega))) F.lay32 rfl rfl rfl ?_ | refine X_load_mem rfl rfl rfl (by first | assumption | exact Mem.get_of (by assumption) (by repeat first | assumption | refine Mem.le.trans (by assumption) ?_)) F.lay32 rfl rfl rfl ?_ | refine X_load_osl rfl rfl rfl (by assumption) (by repeat first | exact Rem.here _ | exact Rem.two | apply Rem.skip | apply Rem.over) (by first | exact row_map (by omega) | exact List.getElem?_eq_getElem (by omega) | exact rfl | exact row_map (by first | (simp; done) | (simp; omega))) F.lay32 rfl rfl rfl ?_
                  first | refine X_load rfl rfl rfl (by repeat first | exact List.Mem.head _ | refine List.Mem.tail _ ?_ | refine List.mem_append_right _ ?_) F.lay32 rfl rfl rfl ?_ | refine X_load_el rfl rfl rfl (by first | assumption | exact SlM.mono (by assumption) (by assumption)) (by first | exact row_map (by omega) | exact List.getElem?_eq_getElem (by omega) | exact rfl | exact row_map (by first | (simp; done) | (simp; omega))) F.lay32 rfl rfl rfl ?_ | refine X_load_rd rfl rfl rfl (by assumption) (by first | exact row_map (by omega) | exact List.getElem?_eq_getElem (by omega) | exact rfl | exact row_map (by first | (simp; done) | (simp; omega))) F.lay32 rfl rfl rfl ?_ | refine X_load_mem rfl rfl rfl (by first | assumption | exact Mem.get_of (by assumption) (by repeat first | assumption | refine Mem.le.trans (by assumption) ?_)) F.lay32 rfl rfl rfl ?_ | refine X_load_osl rfl rfl rfl (by assumption) (by repeat first | exact Rem.here _ | exact Rem.two | apply Rem.skip | apply Rem.over) (by first | exact row_map (by omega) | exact List.getElem?_eq_getElem (by omega) | exact rfl | exact row_map (by first | (simp; done) | (simp; omega))) F.lay32 rfl rfl rfl ?_
                  refine X_fs rfl rfl F.ok25 rfl (Plus_ok _ _ _) rfl ?_
                  rintro _ rfl
                  refine X_fs rfl rfl F.ok40 rfl (owner_ok _ ⟨_, _, _⟩ _ (by first | assumption | omega | exact SlK.mono (by assumption) (by assumption) | exact SlM.mono (by assumption) (by assumption) | exact SlM.mono (by assumption) (by repeat first | assumption | refine Mem.le.trans (by assumption) ?_)) (by first | assumption | grind)) rfl ?_
                  rintro _ rfl
                  refine X_indexAddr rfl rfl rfl rfl F.elem22 (by first | rfl | exact (Int.toNat_of_nonneg (by omega)).symm) (by first | omega | (simp; done) | (simp; omega)) (by first | exact ⟨_, _, rfl⟩ | assumption | exact SlM.plain (by assumption) (by first | (simp; done) | (simp; omega)) | exact RdS.plain (by assumption) (by first | (simp; done) | (simp; omega)) | exact OSl.plain (by assumption) (by first | (simp; done) | (simp; omega))) rfl ?_
                  refine X_storeO (b := b1) (j := k) rfl rfl rfl rfl (by constructor) (flat_one rfl flat_nil) F.lay3 rfl rfl ho (by repeat first | exact Rem.here _ | exact Rem.two | apply Rem.skip | apply Rem.over) (by omega) ?_; intro hs2 ho2
                  replace ho2 : OSl 3 1 (.slice (some ⟨b1, 0, none⟩) 160 160) hs2 ((fillL (fingerAt l_l l_l[n]) (k + 1)).map (oneI .i64)) := by rw [← fillL_set (fingerAt l_l l_l[n]) (by omega) rfl, List.map_set]; exact ho2.as (by simp [hml])
                  refine XD_end ?_
                  refine K_out ?_
                  refine K_then ?_
                  refine C_region (l := [0, 1]) rfl ?_
                  refine X_ari rfl rfl rfl rfl rfl (by first | exact wrap_in (by decide) (by omega) | exact wrap_u64_in (by decide) (by omega) | exact wrap_u8_in (by decide) (by omega) | exact wrap_u32_in (by decide) (by omega) | exact wrap_u64 _ | exact wrap_u8 _ | exact wrap_u32 _ | exact rfl) rfl ?_
                  refine X_move rfl rfl rfl rfl ?_
                  refine XD_end ?_
                  refine K_roundO (a' := [(26, _)]) (k + 1) (hs2) (.cons (k := 26) rfl (.cons (k := 25) rfl (.cons (k := 6) rfl (.cons (k := 5) rfl (.cons (k := 4) rfl (.cons (k := 0) rfl (.cons (k := 1) rfl (.nil)))))))) (by first | exact Mem.le.refl _ | assumption | (repeat first | assumption | refine Mem.le.trans (by assumption) ?_)) (fun w hw => by first | exact hw | exact hw.cnt (by intro zz; first | exact Nat.le_refl _ | (simp only [cnt_app, cnt_cons, cnt_nil, cat, List.append_eq, List.append_assoc, List.cons_append, List.nil_append, List.append_nil]; omega) | (simp only [cnt_app, cnt_cons, cnt_nil, cat, List.append_eq, List.append_assoc, List.cons_append, List.nil_append, List.append_nil, PeerV.segs]; omega))) ?_ ?_
                  · exact ⟨rfl, rfl, by omega, ho2⟩
                  · omega
              · first | replace hc4 := dT hc4 | replace hc4 := dF hc4 | replace hc4 := nT hc4 | replace hc4 := nF hc4 | skip
                try simp only [PeerV.eta] at hc4
                first
                | (exfalso; omega)
                | (exfalso; simp [eqX] at hc4; done)
                | contradiction
                | skip
                  refine C_exit ?_
                  refine K_exit ?_
                  refine K_exit ?_
                  refine K_hit ?_
                  refine K_then ?_
                  refine C_pick (.cons (k := 6) rfl (.cons (k := 5) rfl (.cons (k := 4) rfl .nil))) ?_
                  refine C_seq ?_
                  refine C_region (l := [0, 1, 2]) rfl ?_
                  refine X_move rfl rfl rfl rfl ?_
                  refine X_assign rfl rfl rfl rfl ?_
                  refine X_assign rfl rfl rfl rfl ?_
                  refine XD_end ?_
                  refine K_then ?_
                  refine C_pick (.cons (k := 5) rfl (.cons (k := 4) rfl .nil)) ?_
                  refine C_ret ?_
                  refine K_end (.inr rfl) (.tmp rfl (.tmp rfl .nil)) (fun w hw => ?_)
                  obtain rfl : k = 160 := by omega
                  obtain ⟨M9, s1, g1, g2, g3, g4, g5⟩ := OSl.freezeK (f := oneI .i64) (H := H) (l := (List.range 160).map (fingerAt l_l l_l[n])) (by rw [← fillL_all]; exact ho) (hw.cnt (by intro zz; first | exact Nat.le_refl _ | (simp only [cnt_app, cnt_cons, cnt_nil, cat, List.append_eq, List.append_assoc, List.cons_append, List.nil_append, List.append_nil]; omega) | (simp only [cnt_app, cnt_cons, cnt_nil, cat, List.append_eq, List.append_assoc, List.cons_append, List.nil_append, List.append_nil, PeerV.segs]; omega)))
                  refine ⟨_, M9, rfl, g1, g2, ?_⟩
                  rw [show fingersR l_l ((n : Nat) : Int) = _ from fingersR_yes hc hn]
                  exact ⟨s1, by rw [← g3]; rfl, g4, g5⟩

theorem rFingers_ok (M : Mem) (l : (Sl PeerV)) (i : Int) (hl0 : SlK M PeerV.segs 21 l) : Esp.Fn Tryd.prog 21 [Sl.val l, .int .i64 i] M (fun M' v => IntsE M' v (fingersR l.l i)) := by
  obtain ⟨l_a, l_c, l_l⟩ := l
  have k_l : SlK M PeerV.segs 21 ⟨l_a, l_c, l_l⟩ := hl0
  have s_l : SlM M l_a (l_l.map PeerV.segs) 21 := k_l.h1
  have n_l : (l_l.map PeerV.segs).length = l_l.length := List.length_map ..
  have m_l : l_l.length ≤ 9223372036854775807 := k_l.h2
  have c_l : l_l.length ≤ l_c := k_l.h3
  refine fn_enter Tryd.func21 rfl Tryd.ntmps21 rfl ?_; intro H
  refine C_seq ?_
  refine C_region (l := [0, 1]) rfl ?_
  refine X_assign rfl rfl rfl rfl ?_
  refine X_assign rfl rfl rfl rfl ?_
  refine XD_end ?_
  refine K_then ?_
  refine C_seq ?_
  refine C_seq ?_
  refine C_region (l := [0, 1, 2, 3, 4, 5, 6, 7, 8, 9, 10, 11, 12]) rfl ?_
  refine X_move rfl rfl rfl rfl ?_
  refine X_fs rfl rfl F.ok13 rfl (rCirc_ok _ ⟨_, _, _⟩ (by first | assumption | omega | exact SlK.mono (by assumption) (by assumption) | exact SlM.mono (by assumption) (by assumption) | exact SlM.mono (by assumption) (by repeat first | assumption | refine Mem.le.trans (by assumption) ?_))) rfl ?_
  rintro _ rfl
  refine X_not rfl rfl rfl rfl ?_
  refine X_move rfl rfl rfl rfl ?_
  refine XD_part 15 rfl (fun hc1 => ?_) (fun hc1 => ?_)
  · first | replace hc1 := dT hc1 | replace hc1 := dF hc1 | replace hc1 := nT hc1 | replace hc1 := nF hc1 | skip
    try simp only [PeerV.eta] at hc1
    first
    | (exfalso; omega)
    | (exfalso; simp [eqX] at hc1; done)
    | contradiction
    | skip
      refine X_skip rfl rfl rfl ?_
      refine X_skip rfl rfl rfl ?_
      refine X_pick rfl rfl rfl rfl rfl ?_
      refine X_move rfl rfl rfl rfl ?_
      refine X_skip rfl rfl rfl ?_
      refine X_skip rfl rfl rfl ?_
      refine X_skip rfl rfl rfl ?_
      refine X_skip rfl rfl rfl ?_
      refine X_pick rfl rfl rfl rfl rfl ?_
      refine XD_end ?_
      refine K_then ?_
      refine C_pick (.cons (k := 24) rfl (.cons (k := 5) rfl (.cons (k := 4) rfl (.cons (k := 0) rfl (.cons (k := 1) rfl .nil))))) ?_
      refine C_true rfl ?_
      refine C_seq ?_
      refine C_region (l := [0, 1]) rfl ?_
      refine X_assign rfl rfl rfl rfl ?_
      refine X_assign rfl rfl rfl rfl ?_
      refine XD_end ?_
      refine K_then ?_
      refine C_pick (.cons (k := 5) rfl (.cons (k := 4) rfl (.cons (k := 0) rfl (.cons (k := 1) rfl .nil)))) ?_
      refine C_ret ?_
      refine K_ret ?_
      refine K_end (.inr rfl) (.tmp rfl (.tmp rfl .nil)) (fun w hw => ?_)
      refine ⟨_, M, rfl, Mem.le.refl M, hw.cnt (by intro zz; first | exact Nat.le_refl _ | (simp only [cnt_app, cnt_cons, cnt_nil, cat, List.append_eq, List.append_assoc, List.cons_append, List.nil_append, List.append_nil]; omega) | (simp only [cnt_app, cnt_cons, cnt_nil, cat, List.append_eq, List.append_assoc, List.cons_append, List.nil_append, List.append_nil, PeerV.segs]; omega)), ?_⟩
      rw [show fingersR l_l i = ([], 1) from fingersR_no (by rintro ⟨g1, g2, g3⟩; first | exact absurd g1 (by assumption) | omega)]
      exact ⟨⟨none, 0, []⟩, rfl, rfl, SlK.nil⟩
  · first | replace hc1 := dT hc1 | replace hc1 := dF hc1 | replace hc1 := nT hc1 | replace hc1 := nF hc1 | skip
    try simp only [PeerV.eta] at hc1
    first
    | (exfalso; omega)
    | (exfalso; simp [eqX] at hc1; done)
    | contradiction
    | skip
      refine X_move rfl rfl rfl rfl ?_
      refine X_cmp rfl rfl rfl rfl rfl rfl ?_
      refine X_pick rfl rfl rfl rfl rfl ?_
      refine X_move rfl rfl rfl rfl ?_
      refine XD_part 19 rfl (fun hc2 => ?_) (fun hc2 => ?_)
      · first | replace hc2 := dT hc2 | replace hc2 := dF hc2 | replace hc2 := nT hc2 | replace hc2 := nF hc2 | skip
        try simp only [PeerV.eta] at hc2
        first
        | (exfalso; omega)
        | (exfalso; simp [eqX] at hc2; done)
        | contradiction
        | skip
          refine X_skip rfl rfl rfl ?_
          refine X_skip rfl rfl rfl ?_
          refine X_skip rfl rfl rfl ?_
          refine X_skip rfl rfl rfl ?_
          refine X_pick rfl rfl rfl rfl rfl ?_
          refine XD_end ?_
          refine K_then ?_
          refine C_pick (.cons (k := 24) rfl (.cons (k := 5) rfl (.cons (k := 4) rfl (.cons (k := 0) rfl (.cons (k := 1) rfl .nil))))) ?_
          refine C_true rfl ?_
          refine C_seq ?_
          refine C_region (l := [0, 1]) rfl ?_
          refine X_assign rfl rfl rfl rfl ?_
          refine X_assign rfl rfl rfl rfl ?_
          refine XD_end ?_
          refine K_then ?_
          refine C_pick (.cons (k := 5) rfl (.cons (k := 4) rfl (.cons (k := 0) rfl (.cons (k := 1) rfl .nil)))) ?_
          refine C_ret ?_
          refine K_ret ?_
          refine K_end (.inr rfl) (.tmp rfl (.tmp rfl .nil)) (fun w hw => ?_)
          refine ⟨_, M, rfl, Mem.le.refl M, hw.cnt (by intro zz; first | exact Nat.le_refl _ | (simp only [cnt_app, cnt_cons, cnt_nil, cat, List.append_eq, List.append_assoc, List.cons_append, List.nil_append, List.append_nil]; omega) | (simp only [cnt_app, cnt_cons, cnt_nil, cat, List.append_eq, List.append_assoc, List.cons_append, List.nil_append, List.append_nil, PeerV.segs]; omega)), ?_⟩
          rw [show fingersR l_l i = ([], 1) from fingersR_no (by rintro ⟨g1, g2, g3⟩; first | exact absurd g1 (by assumption) | omega)]
          exact ⟨⟨none, 0, []⟩, rfl, rfl, SlK.nil⟩
      · first | replace hc2 := dT hc2 | replace hc2 := dF hc2 | replace hc2 := nT hc2 | replace hc2 := nF hc2 | skip
        try simp only [PeerV.eta] at hc2
        first
        | (exfalso; omega)
        | (exfalso; simp [eqX] at hc2; done)
        | contradiction
        | skip
          refine X_move rfl rfl rfl rfl ?_
          refine X_move rfl rfl rfl rfl ?_
          refine X_len_sl rfl rfl rfl rfl F.elem23 rfl ?_
          refine X_cmp rfl rfl rfl rfl rfl rfl ?_
          refine X_pick rfl rfl rfl rfl rfl ?_
          refine XD_end ?_
          refine K_then ?_
          refine C_pick (.cons (k := 24) rfl (.cons (k := 5) rfl (.cons (k := 4) rfl (.cons (k := 0) rfl (.cons (k := 1) rfl .nil))))) ?_
          refine C_cond rfl (fun hc3 => ?_) (fun hc3 => ?_)
          · first | replace hc3 := dT hc3 | replace hc3 := dF hc3 | replace hc3 := nT hc3 | replace hc3 := nF hc3 | skip
            try simp only [PeerV.eta] at hc3
            first
            | (exfalso; omega)
            | (exfalso; simp [eqX] at hc3; done)
            | contradiction
            | skip
              refine C_seq ?_
              refine C_region (l := [0, 1]) rfl ?_
              refine X_assign rfl rfl rfl rfl ?_
              refine X_assign rfl rfl rfl rfl ?_
              refine XD_end ?_
              refine K_then ?_
              refine C_pick (.cons (k := 5) rfl (.cons (k := 4) rfl (.cons (k := 0) rfl (.cons (k := 1) rfl .nil)))) ?_
              refine C_ret ?_
              refine K_ret ?_
              refine K_end (.inr rfl) (.tmp rfl (.tmp rfl .nil)) (fun w hw => ?_)
              refine ⟨_, M, rfl, Mem.le.refl M, hw.cnt (by intro zz; first | exact Nat.le_refl _ | (simp only [cnt_app, cnt_cons, cnt_nil, cat, List.append_eq, List.append_assoc, List.cons_append, List.nil_append, List.append_nil]; omega) | (simp only [cnt_app, cnt_cons, cnt_nil, cat, List.append_eq, List.append_assoc, List.cons_append, List.nil_append, List.append_nil, PeerV.segs]; omega)), ?_⟩
              rw [show fingersR l_l i = ([], 1) from fingersR_no (by rintro ⟨g1, g2, g3⟩; first | exact absurd g1 (by assumption) | omega)]
              exact ⟨⟨none, 0, []⟩, rfl, rfl, SlK.nil⟩
          · first | replace hc3 := dT hc3 | replace hc3 := dF hc3 | replace hc3 := nT hc3 | replace hc3 := nF hc3 | skip
            try simp only [PeerV.eta] at hc3
            first
            | (exfalso; omega)
            | (exfalso; simp [eqX] at hc3; done)
            | contradiction
            | skip
              refine C_skip ?_
              refine K_then ?_
              refine C_pick (.cons (k := 5) rfl (.cons (k := 4) rfl (.cons (k := 0) rfl (.cons (k := 1) rfl .nil)))) ?_
              refine C_seq ?_
              refine C_region (l := [0]) rfl ?_
              obtain ⟨n, rfl⟩ : ∃ n : Nat, i = n := ⟨i.toNat, by omega⟩
              have hc : IsCircle l_l := by assumption
              have hn : n < l_l.length := by omega
              have hc1 := hc.1
              refine X_assign rfl rfl rfl rfl ?_
              refine XD_end ?_
              refine K_then ?_
              refine C_seq ?_
              refine C_seq ?_
              refine C_region (l := [0]) rfl ?_
              refine X_assign rfl rfl rfl rfl ?_
              refine XD_end ?_
              refine K_then ?_
              refine C_block ?_
              refine C_pick (.cons (k := 7) rfl (.cons (k := 6) rfl (.cons (k := 5) rfl (.cons (k := 4) rfl (.cons (k := 0) rfl (.cons (k := 1) rfl .nil)))))) ?_
              refine C_loopO (Hin := []) (.succ (.succ .zero)) (by repeat first | exact Rem.here _ | exact Rem.two | apply Rem.skip | apply Rem.over) (fun (k : Nat) M1 h1 z => ∃ v, M1 = M ∧ z = [(7, .int .i64 (k : Int)), (6, v)] ∧ k ≤ 160 ∧ OSl 3 1 v h1 (((List.range k).map (fingerAt l_l l_l[n])).map (oneI .i64))) (fun k => 160 - k) (0) (⟨_, rfl, rfl, by omega, OSl.nil⟩) ?_
              rintro k M1 h1 z hm1 ⟨v0, hM1, rfl, hk, ho⟩
              subst hM1
              obtain ⟨ad0, cp0, rfl⟩ := ho.valL
              have hml : (((List.range k).map (fingerAt l_l l_l[n])).map (oneI .i64)).length = k := by simp
              refine C_seq ?_
              refine C_seq ?_
              refine C_region (l := [0, 1]) rfl ?_
              refine X_move rfl rfl rfl rfl ?_
              refine X_cmp rfl rfl rfl rfl rfl rfl ?_
              refine XD_end ?_
              refine K_then ?_
              refine C_cond rfl (fun hc4 => ?_) (fun hc4 => ?_)
              · first | replace hc4 := dT hc4 | replace hc4 := dF hc4 | replace hc4 := nT hc4 | replace hc4 := nF hc4 | skip
                try simp only [PeerV.eta] at hc4
                first
                | (exfalso; omega)
                | (exfalso; simp [eqX] at hc4; done)
                | contradiction
                | skip
                  refine C_skip ?_
                  refine K_then ?_
                  refine C_seq ?_
                  refine C_block ?_
                  refine C_seq ?_
                  refine C_region (l := [0, 1, 2, 3, 4, 5, 6, 7]) rfl ?_
                  refine X_move rfl rfl rfl rfl ?_
                  refine X_fs rfl rfl F.ok42 rfl (rPower_ok_in _ k (by omega)) rfl ?_
                  rintro _ rfl
                  refine X_move rfl rfl rfl rfl ?_
                  refine X_extract rfl rfl rfl rfl rfl ?_
                  refine X_extract rfl rfl rfl rfl rfl ?_
                  refine X_alloc rfl rfl F.zero32 (by constructor) rfl ?_; intro b5
                  refine X_store rfl rfl rfl rfl (by constructor) (by first | ((try simp only [cat, List.cons_append, List.nil_append, List.append_nil]); (repeat (first | exact flat_nil | refine flat_id ?_ | (refine flat_one ?_ ?_; rfl))); done) | exact PeerV.flat _ | exact PeerV.flat ⟨_, _⟩ | (simp [flat, cat, Segs.cells, Seg.cells, Value.oneCell']; done)) (by repeat first | exact Upd.head | apply Upd.tail | apply Upd.over) F.lay32 rfl rfl ?_
                  refine X_assign rfl rfl rfl rfl ?_
                  refine XD_end ?_
                  refine K_then ?_
                  refine C_pick (.cons (k := 8) rfl (.cons (k := 33) rfl (.cons (k := 32) rfl (.cons (k := 29) rfl (.cons (k := 31) rfl (.cons (k := 30) rfl (.cons (k := 26) rfl (.cons (k := 25) rfl (.cons (k := 7) rfl (.cons (k := 6) rfl (.cons (k := 5) rfl (.cons (k := 4) rfl (.cons (k := 0) rfl (.cons (k := 1) rfl .nil)))))))))))))) ?_
                  refine C_seq ?_
                  refine C_region_any (l := [0, 1, 2, 3, 4, 5, 6, 7, 8, 9, 10, 11, 12, 13]) #[0, 0, 0, 6, 14, 30, 0, 126, 255, 511, 1023, 1023, 2047, 8191] _ rfl (by kernel_rfl) (by kernel_rfl) St.drawn (fun _ h => h) ?_
                  refine X_move rfl rfl rfl rfl ?_
                  refine X_move rfl rfl rfl rfl ?_
                  refine X_move rfl rfl rfl rfl ?_
                  refine X_indexAddr rfl rfl rfl rfl F.elem23 (by first | rfl | exact (Int.toNat_of_nonneg (by omega)).symm) (by first | omega | (simp; done) | (simp; omega)) (by first | exact ⟨_, _, rfl⟩ | assumption | exact SlM.plain (by assumption) (by first | (simp; done) | (simp; omega)) | exact RdS.plain (by assumption) (by first | (simp; done) | (simp; omega)) | exact OSl.plain (by assumption) (by first | (simp; done) | (simp; omega))) rfl ?_
                  first | refine X_fieldAddr rfl rfl rfl F.foff38_1 rfl ?_ | refine X_fieldAddr_el rfl rfl rfl (by first | exact ⟨_, _, rfl⟩ | assumption | exact SlM.plain (by assumption) (by first | (simp; done) | (simp; omega)) | exact RdS.plain (by assumption) (by first | (simp; done) | (simp; omega)) | exact OSl.plain (by assumption) (by first | (simp; done) | (simp; omega))) F.foff38_1 rfl ?_
                  first | refine X_load rfl rfl rfl (by repeat first | exact List.Mem.head _ | refine List.Mem.tail _ ?_ | refine List.mem_append_right _ ?_) F.lay32 rfl rfl rfl ?_ | refine X_load_el rfl rfl rfl (by first | assumption | exact SlM.mono (by assumption) (by assumption)) (by first | exact row_map (by omega) | exact List.getElem?_eq_getElem (by omega) | exact rfl | exact row_map (by first | (simp; done) | (simp; omega))) F.lay32 rfl rfl rfl ?_ | refine X_load_rd rfl rfl rfl (by assumption) (by first | exact row_map (by omega) | exact List.getElem?_eq_getElem (by omega) | exact rfl | exact row_map (by first | (simp; done) | (simp; omega))) F.lay32 rfl rfl rfl ?_ | refine X_load_mem rfl rfl rfl (by first | assumption | exact Mem.get_of (by assumption) (by repeat first | assumption | refine Mem.le.trans (by assumption) ?_)) F.lay32 rfl rfl rfl ?_ | refine X_load_osl rfl rfl rfl (by assumption) (by repeat first | exact Rem.here _ | exact Rem.two | apply Rem.skip | apply Rem.over) (by first | exact row_map (by omega) | exact List.getElem?_eq_getElem (by omega) | exact rfl | exact row_map (by first | (simp; done) | (simp; omega))) F.lay32 rfl rfl rfl ?_
                  first | refine X_load rfl rfl rfl (by repeat first | exact List.Mem.head _ | refine List.Mem.tail _ ?_ | refine List.mem_append_right _ ?_) F.lay32 rfl rfl rfl ?_ | refine X_load_el rfl rfl rfl (by first | assumption | exact SlM.mono (by assumption) (by assumption)) (by first | exact row_map (by omega) | exact List.getElem?_eq_getElem (by omega) | exact rfl | exact row_map (by first | (simp; done) | (simp; omega))) F.lay32 rfl rfl rfl ?_ | refine X_load_rd rfl rfl rfl (by assumption) (by first | exact row_map (by omega) | exact List.getElem?_eq_getElem (by omega) | exact rfl | exact row_map (by first | (simp; done) | (simp; omega))) F.lay32 rfl rfl rfl ?_ | refine X_load_mem rfl rfl rfl (by first | assumption | exact Mem.get_of (by assumption) (by repeat first | assumption | refine Mem.le.trans (by assumption) ?_)) F.lay32 rfl rfl rfl ?_ | refine X_load_osl rfl rfl rfl (by assumption) (by repeat first | exact Rem.here _ | exact Rem.two | apply Rem.skip | apply Rem.over) (by first | exact row_map (by omega) | exact List.getElem?_eq_getElem (by omega) | exact rfl | exact row_map (by first | (simp; done) | (simp; omega))) F.lay32 rfl rfl rfl ?_
                  refine X_fs rfl rfl F.ok43 rfl (rPlus_ok _ _ _) rfl ?_
                  rintro _ rfl
                  refine X_fs rfl rfl F.ok18 rfl (rOwner_ok _ ⟨l_a, l_c, l_l⟩ _ k_l) rfl ?_
                  rintro _ hv
                  replace hv : _ = ofII (ownerR l_l (l_l[n].id + powP k)) := hv
                  rw [show ownerR l_l (l_l[n].id + powP k) = (((ownerI l_l (l_l[n].id + powP k) : Nat) : Int), 0) from if_pos hc] at hv
                  subst hv
                  refine X_move rfl rfl rfl rfl ?_
                  refine X_extract rfl rfl rfl rfl rfl ?_
                  refine X_extract rfl rfl rfl rfl rfl ?_
                  refine X_assign rfl rfl rfl rfl ?_
                  refine X_assign rfl rfl rfl rfl ?_
                  refine XD_end ?_
                  refine K_then ?_
                  refine C_pick (.cons (k := 10) rfl (.cons (k := 45) rfl (.cons (k := 44) rfl (.cons (k := 34) rfl (.cons (k := 43) rfl (.cons (k := 42) rfl (.cons (k := 41) rfl (.cons (k := 40) rfl (.cons (k := 39) rfl (.cons (k := 38) rfl (.cons (k := 37) rfl (.cons (k := 36) rfl (.cons (k := 35) rfl (.cons (k := 8) rfl (.cons (k := 33) rfl (.cons (k := 32) rfl (.cons (k := 29) rfl (.cons (k := 31) rfl (.cons (k := 30) rfl (.cons (k := 26) rfl (.cons (k := 25) rfl (.cons (k := 7) rfl (.cons (k := 6) rfl (.cons (k := 5) rfl (.cons (k := 4) rfl (.cons (k := 0) rfl (.cons (k := 1) rfl .nil))))))))))))))))))))))))))) ?_
                  refine C_region (l := [0, 1, 2, 3, 4]) rfl ?_
                  refine X_move rfl rfl rfl rfl ?_
                  refine X_move rfl rfl rfl rfl ?_
                  refine X_buildSliceF rfl rfl F.elem22 F.zero3 rfl rfl (.cons rfl (by constructor) .nil) rfl rfl (by simp only [List.map_cons, List.map_nil] <;> rfl) rfl ?_; intro b6 hob7
                  refine X_append (m := 1000000) rfl rfl rfl rfl rfl F.elem22 F.zero3 (by first | rfl | exact agg_size rfl) rfl (by first | assumption | exact OSl.nil) (by repeat first | exact Rem.here _ | exact Rem.two | apply Rem.skip | apply Rem.over) (Src.own hob7.lens (by first | exact PeerV.flat1 _ | exact PeerV.flat1 ⟨_, _⟩ | (refine rows_one1 ?_; (repeat (first | exact flat_nil | refine flat_id ?_ | (refine flat_one ?_ ?_; rfl))); done) | (refine rows_one1 ?_; exact PeerV.flat _) | (simp [rowsCells, Segs.cells, Seg.cells, Value.oneCell']; done)) rfl (by repeat first | exact List.Mem.head _ | refine List.Mem.tail _ ?_ | refine List.mem_append_right _ ?_)) (by first | omega | (simp; done) | (simp; omega)) (by decide) rfl ?_; intro v10 hs9 ho8; obtain ⟨adv10, cpv10, rfl⟩ := ho8.val
                  refine X_assign rfl rfl rfl rfl ?_
                  refine XD_end ?_
                  refine K_out ?_
                  refine K_then ?_
                  refine C_region (l := [0, 1, 2]) rfl ?_
                  refine X_move rfl rfl rfl rfl ?_
                  refine X_ari rfl rfl rfl rfl rfl (by first | exact wrap_in (by decide) (by omega) | exact wrap_u64_in (by decide) (by omega) | exact wrap_u8_in (by decide) (by omega) | exact wrap_u32_in (by decide) (by omega) | exact wrap_u64 _ | exact wrap_u8 _ | exact wrap_u32 _ | exact rfl) rfl ?_
                  refine X_assign rfl rfl rfl rfl ?_
                  refine XD_end ?_
                  refine K_roundO (a' := [(7, _), (6, _)]) (k + 1) (hs9) (.cons (k := 7) rfl (.cons (k := 6) rfl (.cons (k := 5) rfl (.cons (k := 4) rfl (.cons (k := 0) rfl (.cons (k := 1) rfl (.nil))))))) (by first | exact Mem.le.refl _ | assumption | (repeat first | assumption | refine Mem.le.trans (by assumption) ?_)) (fun w hw => by first | exact hw | exact hw.cnt (by intro zz; first | exact Nat.le_refl _ | (simp only [cnt_app, cnt_cons, cnt_nil, cat, List.append_eq, List.append_assoc, List.cons_append, List.nil_append, List.append_nil]; omega) | (simp only [cnt_app, cnt_cons, cnt_nil, cat, List.append_eq, List.append_assoc, List.cons_append, List.nil_append, List.append_nil, PeerV.segs]; omega))) ?_ ?_
                  · refine ⟨_, rfl, rfl, by omega, ?_⟩
                    rw [List.range_succ, List.map_append, List.map_append]
                    exact ho8
                  · omega
              · first | replace hc4 := dT hc4 | replace hc4 := dF hc4 | replace hc4 := nT hc4 | replace hc4 := nF hc4 | skip
                try simp only [PeerV.eta] at hc4
                first
                | (exfalso; omega)
                | (exfalso; simp [eqX] at hc4; done)
                | contradiction
                | skip
                  refine C_exit ?_
                  refine K_exit ?_
                  refine K_exit ?_
                  refine K_hit ?_
                  refine K_then ?_
                  refine C_pick (.cons (k := 6) rfl (.cons (k := 5) rfl (.cons (k := 4) rfl .nil))) ?_
                  refine C_seq ?_
                  refine C_region (l := [0, 1, 2]) rfl ?_
                  refine X_move rfl rfl rfl rfl ?_
                  refine X_assign rfl rfl rfl rfl ?_
                  refine X_assign rfl rfl rfl rfl ?_
                  refine XD_end ?_
                  refine K_then ?_
                  refine C_pick (.cons (k := 5) rfl (.cons (k := 4) rfl .nil)) ?_
                  refine C_ret ?_
                  refine K_end (.inr rfl) (.tmp rfl (.tmp rfl .nil)) (fun w hw => ?_)
                  obtain rfl : k = 160 := by omega
                  obtain ⟨M9, s1, g1, g2, g3, g4, g5⟩ := OSl.freezeK (f := oneI .i64) (H := H) (l := (List.range 160).map (fingerAt l_l l_l[n])) (ho) (hw.cnt (by intro zz; first | exact Nat.le_refl _ | (simp only [cnt_app, cnt_cons, cnt_nil, cat, List.append_eq, List.append_assoc, List.cons_append, List.nil_append, List.append_nil]; omega) | (simp only [cnt_app, cnt_cons, cnt_nil, cat, List.append_eq, List.append_assoc, List.cons_append, List.nil_append, List.append_nil, PeerV.segs]; omega)))
                  refine ⟨_, M9, rfl, g1, g2, ?_⟩
                  rw [show fingersR l_l ((n : Nat) : Int) = _ from fingersR_yes hc hn]
                  exact ⟨s1, by rw [← g3]; rfl, g4, g5⟩

theorem Arc_ok (M : Mem) (l : (Sl PeerV)) (i : Int) (hl0 : SlK M PeerV.segs 21 l) : Fs Tryd.prog 16 [Sl.val l, .int .i64 i] M (fun v => v =  (ofArc (arcR l.l i))) := by
  obtain ⟨l_a, l_c, l_l⟩ := l
  have k_l : SlK M PeerV.segs 21 ⟨l_a, l_c, l_l⟩ := hl0
  have s_l : SlM M l_a (l_l.map PeerV.segs) 21 := k_l.h1
  have n_l : (l_l.map PeerV.segs).length = l_l.length := List.length_map ..
  have m_l : l_l.length ≤ 9223372036854775807 := k_l.h2
  have c_l : l_l.length ≤ l_c := k_l.h3
  refine fs_enter Tryd.func16 rfl Tryd.ntmps16 rfl ?_; intro H
  refine C_seq ?_
  refine C_region (l := [0, 1, 2]) rfl ?_
  refine X_alloc rfl rfl F.zero32 (by constructor) rfl ?_; intro b1
  refine X_alloc rfl rfl F.zero32 (by constructor) rfl ?_; intro b2
  refine X_assign rfl rfl rfl rfl ?_
  refine XD_end ?_
  refine K_then ?_
  refine C_seq ?_
  refine C_seq ?_
  refine C_region (l := [0, 1, 2, 3, 4, 5, 6, 7, 8, 9, 10, 11, 12]) rfl ?_
  refine X_move rfl rfl rfl rfl ?_
  refine X_fs rfl rfl F.ok12 rfl (Circ_ok _ ⟨_, _, _⟩ (by first | assumption | omega | exact SlK.mono (by assumption) (by assumption) | exact SlM.mono (by assumption) (by assumption) | exact SlM.mono (by assumption) (by repeat first | assumption | refine Mem.le.trans (by assumption) ?_))) rfl ?_
  rintro _ rfl
  refine X_not rfl rfl rfl rfl ?_
  refine X_move rfl rfl rfl rfl ?_
  refine XD_part 10 rfl (fun hc3 => ?_) (fun hc3 => ?_)
  · first | replace hc3 := dT hc3 | replace hc3 := dF hc3 | replace hc3 := nT hc3 | replace hc3 := nF hc3 | skip
    try simp only [PeerV.eta] at hc3
    first
    | (exfalso; omega)
    | (exfalso; simp [eqX] at hc3; done)
    | contradiction
    | skip
      refine X_skip rfl rfl rfl ?_
      refine X_skip rfl rfl rfl ?_
      refine X_pick rfl rfl rfl rfl rfl ?_
      refine X_move rfl rfl rfl rfl ?_
      refine X_skip rfl rfl rfl ?_
      refine X_skip rfl rfl rfl ?_
      refine X_skip rfl rfl rfl ?_
      refine X_skip rfl rfl rfl ?_
      refine X_pick rfl rfl rfl rfl rfl ?_
      refine XD_end ?_
      refine K_then ?_
      refine C_pick (.cons (k := 19) rfl (.cons (k := 6) rfl (.cons (k := 5) rfl (.cons (k := 4) rfl (.cons (k := 0) rfl (.cons (k := 1) rfl .nil)))))) ?_
      refine C_true rfl ?_
      refine C_seq ?_
      refine C_region (l := [0, 1, 2, 3, 4]) rfl ?_
      refine X_build0 rfl rfl F.zero32 F.arr32 rfl ?_
      refine X_build0 rfl rfl F.zero32 F.arr32 rfl ?_
      refine X_store rfl rfl rfl rfl (by constructor) (by first | ((try simp only [cat, List.cons_append, List.nil_append, List.append_nil]); (repeat (first | exact flat_nil | refine flat_id ?_ | (refine flat_one ?_ ?_; rfl))); done) | exact PeerV.flat _ | exact PeerV.flat ⟨_, _⟩ | (simp [flat, cat, Segs.cells, Seg.cells, Value.oneCell']; done)) (by repeat first | exact Upd.head | apply Upd.tail | apply Upd.over) F.lay32 rfl rfl ?_
      refine X_store rfl rfl rfl rfl (by constructor) (by first | ((try simp only [cat, List.cons_append, List.nil_append, List.append_nil]); (repeat (first | exact flat_nil | refine flat_id ?_ | (refine flat_one ?_ ?_; rfl))); done) | exact PeerV.flat _ | exact PeerV.flat ⟨_, _⟩ | (simp [flat, cat, Segs.cells, Seg.cells, Value.oneCell']; done)) (by repeat first | exact Upd.head | apply Upd.tail | apply Upd.over) F.lay32 rfl rfl ?_
      refine X_assign rfl rfl rfl rfl ?_
      refine XD_end ?_
      refine K_then ?_
      refine C_pick (.cons (k := 6) rfl (.cons (k := 5) rfl (.cons (k := 4) rfl (.cons (k := 0) rfl (.cons (k := 1) rfl .nil))))) ?_
      refine C_ret ?_
      refine K_ret ?_
      refine K_end (.inr rfl) (.cell rfl (by repeat first | exact List.Mem.head _ | refine List.Mem.tail _ ?_ | refine List.mem_append_right _ ?_) F.lay32 rfl rfl (.cell rfl (by repeat first | exact List.Mem.head _ | refine List.Mem.tail _ ?_ | refine List.mem_append_right _ ?_) F.lay32 rfl rfl (.tmp rfl .nil))) (fun w hw => ?_)
      refine ⟨_, rfl, (hw.cnt (by intro zz; first | exact Nat.le_refl _ | (simp only [cnt_app, cnt_cons, cnt_nil, cat, List.append_eq, List.append_assoc, List.cons_append, List.nil_append, List.append_nil]; omega) | (simp only [cnt_app, cnt_cons, cnt_nil, cat, List.append_eq, List.append_assoc, List.cons_append, List.nil_append, List.append_nil, PeerV.segs]; omega))), ?_⟩
      clear hw
      rw [show arcR l_l i = (0, 0, 1) from arcR_no (by rintro ⟨g1, g2, g3⟩; first | exact absurd g1 (by assumption) | omega)]
      rfl
  · first | replace hc3 := dT hc3 | replace hc3 := dF hc3 | replace hc3 := nT hc3 | replace hc3 := nF hc3 | skip
    try simp only [PeerV.eta] at hc3
    first
    | (exfalso; omega)
    | (exfalso; simp [eqX] at hc3; done)
    | contradiction
    | skip
      refine X_move rfl rfl rfl rfl ?_
      refine X_cmp rfl rfl rfl rfl rfl rfl ?_
      refine X_pick rfl rfl rfl rfl rfl ?_
      refine X_move rfl rfl rfl rfl ?_
      refine XD_part 14 rfl (fun hc4 => ?_) (fun hc4 => ?_)
      · first | replace hc4 := dT hc4 | replace hc4 := dF hc4 | replace hc4 := nT hc4 | replace hc4 := nF hc4 | skip
        try simp only [PeerV.eta] at hc4
        first
        | (exfalso; omega)
        | (exfalso; simp [eqX] at hc4; done)
        | contradiction
        | skip
          refine X_skip rfl rfl rfl ?_
          refine X_skip rfl rfl rfl ?_
          refine X_skip rfl rfl rfl ?_
          refine X_skip rfl rfl rfl ?_
          refine X_pick rfl rfl rfl rfl rfl ?_
          refine XD_end ?_
          refine K_then ?_
          refine C_pick (.cons (k := 19) rfl (.cons (k := 6) rfl (.cons (k := 5) rfl (.cons (k := 4) rfl (.cons (k := 0) rfl (.cons (k := 1) rfl .nil)))))) ?_
          refine C_true rfl ?_
          refine C_seq ?_
          refine C_region (l := [0, 1, 2, 3, 4]) rfl ?_
          refine X_build0 rfl rfl F.zero32 F.arr32 rfl ?_
          refine X_build0 rfl rfl F.zero32 F.arr32 rfl ?_
          refine X_store rfl rfl rfl rfl (by constructor) (by first | ((try simp only [cat, List.cons_append, List.nil_append, List.append_nil]); (repeat (first | exact flat_nil | refine flat_id ?_ | (refine flat_one ?_ ?_; rfl))); done) | exact PeerV.flat _ | exact PeerV.flat ⟨_, _⟩ | (simp [flat, cat, Segs.cells, Seg.cells, Value.oneCell']; done)) (by repeat first | exact Upd.head | apply Upd.tail | apply Upd.over) F.lay32 rfl rfl ?_
          refine X_store rfl rfl rfl rfl (by constructor) (by first | ((try simp only [cat, List.cons_append, List.nil_append, List.append_nil]); (repeat (first | exact flat_nil | refine flat_id ?_ | (refine flat_one ?_ ?_; rfl))); done) | exact PeerV.flat _ | exact PeerV.flat ⟨_, _⟩ | (simp [flat, cat, Segs.cells, Seg.cells, Value.oneCell']; done)) (by repeat first | exact Upd.head | apply Upd.tail | apply Upd.over) F.lay32 rfl rfl ?_
          refine X_assign rfl rfl rfl rfl ?_
          refine XD_end ?_
          refine K_then ?_
          refine C_pick (.cons (k := 6) rfl (.cons (k := 5) rfl (.cons (k := 4) rfl (.cons (k := 0) rfl (.cons (k := 1) rfl .nil))))) ?_
          refine C_ret ?_
          refine K_ret ?_
          refine K_end (.inr rfl) (.cell rfl (by repeat first | exact List.Mem.head _ | refine List.Mem.tail _ ?_ | refine List.mem_append_right _ ?_) F.lay32 rfl rfl (.cell rfl (by repeat first | exact List.Mem.head _ | refine List.Mem.tail _ ?_ | refine List.mem_append_right _ ?_) F.lay32 rfl rfl (.tmp rfl .nil))) (fun w hw => ?_)
          refine ⟨_, rfl, (hw.cnt (by intro zz; first | exact Nat.le_refl _ | (simp only [cnt_app, cnt_cons, cnt_nil, cat, List.append_eq, List.append_assoc, List.cons_append, List.nil_append, List.append_nil]; omega) | (simp only [cnt_app, cnt_cons, cnt_nil, cat, List.append_eq, List.append_assoc, List.cons_append, List.nil_append, List.append_nil, PeerV.segs]; omega))), ?_⟩
          clear hw
          rw [show arcR l_l i = (0, 0, 1) from arcR_no (by rintro ⟨g1, g2, g3⟩; first | exact absurd g1 (by assumption) | omega)]
          rfl
      · first | replace hc4 := dT hc4 | replace hc4 := dF hc4 | replace hc4 := nT hc4 | replace hc4 := nF hc4 | skip
        try simp only [PeerV.eta] at hc4
        first
        | (exfalso; omega)
        | (exfalso; simp [eqX] at hc4; done)
        | contradiction
        | skip
          refine X_move rfl rfl rfl rfl ?_
          refine X_move rfl rfl rfl rfl ?_
          refine X_len_sl rfl rfl rfl rfl F.elem23 rfl ?_
          refine X_cmp rfl rfl rfl rfl rfl rfl ?_
          refine X_pick rfl rfl rfl rfl rfl ?_
          refine XD_end ?_
          refine K_then ?_
          refine C_pick (.cons (k := 19) rfl (.cons (k := 6) rfl (.cons (k := 5) rfl (.cons (k := 4) rfl (.cons (k := 0) rfl (.cons (k := 1) rfl .nil)))))) ?_
          refine C_cond rfl (fun hc5 => ?_) (fun hc5 => ?_)
          · first | replace hc5 := dT hc5 | replace hc5 := dF hc5 | replace hc5 := nT hc5 | replace hc5 := nF hc5 | skip
            try simp only [PeerV.eta] at hc5
            first
            | (exfalso; omega)
            | (exfalso; simp [eqX] at hc5; done)
            | contradiction
            | skip
              refine C_seq ?_
              refine C_region (l := [0, 1, 2, 3, 4]) rfl ?_
              refine X_build0 rfl rfl F.zero32 F.arr32 rfl ?_
              refine X_build0 rfl rfl F.zero32 F.arr32 rfl ?_
              refine X_store rfl rfl rfl rfl (by constructor) (by first | ((try simp only [cat, List.cons_append, List.nil_append, List.append_nil]); (repeat (first | exact flat_nil | refine flat_id ?_ | (refine flat_one ?_ ?_; rfl))); done) | exact PeerV.flat _ | exact PeerV.flat ⟨_, _⟩ | (simp [flat, cat, Segs.cells, Seg.cells, Value.oneCell']; done)) (by repeat first | exact Upd.head | apply Upd.tail | apply Upd.over) F.lay32 rfl rfl ?_
              refine X_store rfl rfl rfl rfl (by constructor) (by first | ((try simp only [cat, List.cons_append, List.nil_append, List.append_nil]); (repeat (first | exact flat_nil | refine flat_id ?_ | (refine flat_one ?_ ?_; rfl))); done) | exact PeerV.flat _ | exact PeerV.flat ⟨_, _⟩ | (simp [flat, cat, Segs.cells, Seg.cells, Value.oneCell']; done)) (by repeat first | exact Upd.head | apply Upd.tail | apply Upd.over) F.lay32 rfl rfl ?_
              refine X_assign rfl rfl rfl rfl ?_
              refine XD_end ?_
              refine K_then ?_
              refine C_pick (.cons (k := 6) rfl (.cons (k := 5) rfl (.cons (k := 4) rfl (.cons (k := 0) rfl (.cons (k := 1) rfl .nil))))) ?_
              refine C_ret ?_
              refine K_ret ?_
              refine K_end (.inr rfl) (.cell rfl (by repeat first | exact List.Mem.head _ | refine List.Mem.tail _ ?_ | refine List.mem_append_right _ ?_) F.lay32 rfl rfl (.cell rfl (by repeat first | exact List.Mem.head _ | refine List.Mem.tail _ ?_ | refine List.mem_append_right _ ?_) F.lay32 rfl rfl (.tmp rfl .nil))) (fun w hw => ?_)
              refine ⟨_, rfl, (hw.cnt (by intro zz; first | exact Nat.le_refl _ | (simp only [cnt_app, cnt_cons, cnt_nil, cat, List.append_eq, List.append_assoc, List.cons_append, List.nil_append, List.append_nil]; omega) | (simp only [cnt_app, cnt_cons, cnt_nil, cat, List.append_eq, List.append_assoc, List.cons_append, List.nil_append, List.append_nil, PeerV.segs]; omega))), ?_⟩
              clear hw
              rw [show arcR l_l i = (0, 0, 1) from arcR_no (by rintro ⟨g1, g2, g3⟩; first | exact absurd g1 (by assumption) | omega)]
              rfl
          · first | replace hc5 := dT hc5 | replace hc5 := dF hc5 | replace hc5 := nT hc5 | replace hc5 := nF hc5 | skip
            try simp only [PeerV.eta] at hc5
            first
            | (exfalso; omega)
            | (exfalso; simp [eqX] at hc5; done)
            | contradiction
            | skip
              refine C_skip ?_
              refine K_then ?_
              refine C_pick (.cons (k := 6) rfl (.cons (k := 5) rfl (.cons (k := 4) rfl (.cons (k := 0) rfl (.cons (k := 1) rfl .nil))))) ?_
              refine C_seq ?_
              refine C_region_anyWR2 (l := [0, 1, 2, 3, 4, 5, 6, 7, 8, 9, 10, 11, 12, 13, 14, 15, 16, 17, 18, 19]) (Hin := [(b1, _)]) (Hin2 := [(b2, _)]) [17, 18] #[0, 0, 0, 4, 14, 30, 0, 64, 254, 511, 1023, 2047, 0, 0, 12288, 28672, 61440, 4095, 262143, 524287] (by repeat first | exact Rem.here _ | exact Rem.two | apply Rem.skip | apply Rem.over) (by repeat first | exact Rem.here _ | exact Rem.two | apply Rem.skip | apply Rem.over) rfl (by kernel_rfl) (by kernel_rfl) ?_
              obtain ⟨n, rfl⟩ : ∃ n : Nat, i = n := ⟨i.toNat, by omega⟩
              have hc : IsCircle l_l := by assumption
              have hn : n < l_l.length := by omega
              have hc1 := hc.1
              refine X_move rfl rfl rfl rfl ?_
              refine X_move rfl rfl rfl rfl ?_
              refine X_move rfl rfl rfl rfl ?_
              refine X_len_sl rfl rfl rfl rfl F.elem23 rfl ?_
              refine X_ari rfl rfl rfl rfl rfl (by first | exact wrap_in (by decide) (by omega) | exact wrap_u64_in (by decide) (by omega) | exact wrap_u8_in (by decide) (by omega) | exact wrap_u32_in (by decide) (by omega) | exact wrap_u64 _ | exact wrap_u8 _ | exact wrap_u32 _ | exact rfl) rfl ?_
              refine X_ari rfl rfl rfl rfl rfl (by first | exact wrap_in (by decide) (by omega) | exact wrap_u64_in (by decide) (by omega) | exact wrap_u8_in (by decide) (by omega) | exact wrap_u32_in (by decide) (by omega) | exact wrap_u64 _ | exact wrap_u8 _ | exact wrap_u32 _ | exact rfl) rfl ?_
              refine X_move rfl rfl rfl rfl ?_
              refine X_len_sl rfl rfl rfl rfl F.elem23 rfl ?_
              refine X_rem rfl rfl rfl rfl (by first | decide | omega) (by first | exact rem_nn (by omega) | rfl) rfl ?_
              have hq0 : ((n : Int) + (l_l.length : Int) - 1) % (l_l.length : Int) = (((n + l_l.length - 1) % l_l.length : Nat) : Int) := by rw [Int.natCast_emod]; first | rfl | (congr 1; omega)
              have hq1 : (n + l_l.length - 1) % l_l.length < l_l.length := Nat.mod_lt _ (by omega)
              generalize hq : (n + l_l.length - 1) % l_l.length = q at hq0 hq1
              rw [hq0]
              refine X_indexAddr rfl rfl rfl rfl F.elem23 (by first | rfl | exact (Int.toNat_of_nonneg (by omega)).symm) (by first | omega | (simp; done) | (simp; omega)) (by first | exact ⟨_, _, rfl⟩ | assumption | exact SlM.plain (by assumption) (by first | (simp; done) | (simp; omega)) | exact RdS.plain (by assumption) (by first | (simp; done) | (simp; omega)) | exact OSl.plain (by assumption) (by first | (simp; done) | (simp; omega))) rfl ?_
              first | refine X_fieldAddr rfl rfl rfl F.foff38_1 rfl ?_ | refine X_fieldAddr_el rfl rfl rfl (by first | exact ⟨_, _, rfl⟩ | assumption | exact SlM.plain (by assumption) (by first | (simp; done) | (simp; omega)) | exact RdS.plain (by assumption) (by first | (simp; done) | (simp; omega)) | exact OSl.plain (by assumption) (by first | (simp; done) | (simp; omega))) F.foff38_1 rfl ?_
              first | refine X_load rfl rfl rfl (by repeat first | exact List.Mem.head _ | refine List.Mem.tail _ ?_ | refine List.mem_append_right _ ?_) F.lay32 rfl rfl rfl ?_ | refine X_load_el rfl rfl rfl (by first | assumption | exact SlM.mono (by assumption) (by assumption)) (by first | exact row_map (by omega) | exact List.getElem?_eq_getElem (by omega) | exact rfl | exact row_map (by first | (simp; done) | (simp; omega))) F.lay32 rfl rfl rfl ?_ | refine X_load_rd rfl rfl rfl (by assumption) (by first | exact row_map (by omega) | exact List.getElem?_eq_getElem (by omega) | exact rfl | exact row_map (by first | (simp; done) | (simp; omega))) F.lay32 rfl rfl rfl ?_ | refine X_load_mem rfl rfl rfl (by first | assumption | exact Mem.get_of (by assumption) (by repeat first | assumption | refine Mem.le.trans (by assumption) ?_)) F.lay32 rfl rfl rfl ?_ | refine X_load_osl rfl rfl rfl (by assumption) (by repeat first | exact Rem.here _ | exact Rem.two | apply Rem.skip | apply Rem.over) (by first | exact row_map (by omega) | exact List.getElem?_eq_getElem (by omega) | exact rfl | exact row_map (by first | (simp; done) | (simp; omega))) F.lay32 rfl rfl rfl ?_
              refine X_move rfl rfl rfl rfl ?_
              refine X_move rfl rfl rfl rfl ?_
              refine X_indexAddr rfl rfl rfl rfl F.elem23 (by first | rfl | exact (Int.toNat_of_nonneg (by omega)).symm) (by first | omega | (simp; done) | (simp; omega)) (by first | exact ⟨_, _, rfl⟩ | assumption | exact SlM.plain (by assumption) (by first | (simp; done) | (simp; omega)) | exact RdS.plain (by assumption) (by first | (simp; done) | (simp; omega)) | exact OSl.plain (by assumption) (by first | (simp; done) | (simp; omega))) rfl ?_
              first | refine X_fieldAddr rfl rfl rfl F.foff38_1 rfl ?_ | refine X_fieldAddr_el rfl rfl rfl (by first | exact ⟨_, _, rfl⟩ | assumption | exact SlM.plain (by assumption) (by first | (simp; done) | (simp; omega)) | exact RdS.plain (by assumption) (by first | (simp; done) | (simp; omega)) | exact OSl.plain (by assumption) (by first | (simp; done) | (simp; omega))) F.foff38_1 rfl ?_
              first | refine X_load rfl rfl rfl (by repeat first | exact List.Mem.head _ | refine List.Mem.tail _ ?_ | refine List.mem_append_right _ ?_) F.lay32 rfl rfl rfl ?_ | refine X_load_el rfl rfl rfl (by first | assumption | exact SlM.mono (by assumption) (by assumption)) (by first | exact row_map (by omega) | exact List.getElem?_eq_getElem (by omega) | exact rfl | exact row_map (by first | (simp; done) | (simp; omega))) F.lay32 rfl rfl rfl ?_ | refine X_load_rd rfl rfl rfl (by assumption) (by first | exact row_map (by omega) | exact List.getElem?_eq_getElem (by omega) | exact rfl | exact row_map (by first | (simp; done) | (simp; omega))) F.lay32 rfl rfl rfl ?_ | refine X_load_mem rfl rfl rfl (by first | assumption | exact Mem.get_of (by assumption) (by repeat first | assumption | refine Mem.le.trans (by assumption) ?_)) F.lay32 rfl rfl rfl ?_ | refine X_load_osl rfl rfl rfl (by assumption) (by repeat first | exact Rem.here _ | exact Rem.two | apply Rem.skip | apply Rem.over) (by first | exact row_map (by omega) | exact List.getElem?_eq_getElem (by omega) | exact rfl | exact row_map (by first | (simp; done) | (simp; omega))) F.lay32 rfl rfl rfl ?_
              refine X_storeE rfl rfl rfl rfl rfl (by constructor) (by first | ((try simp only [cat, List.cons_append, List.nil_append, List.append_nil]); (repeat (first | exact flat_nil | refine flat_id ?_ | (refine flat_one ?_ ?_; rfl))); done) | exact PeerV.flat _ | exact PeerV.flat ⟨_, _⟩ | (simp [flat, cat, Segs.cells, Seg.cells, Value.oneCell']; done)) (by repeat first | exact Upd.head | apply Upd.tail | apply Upd.over) F.lay32 rfl rfl (fun _ h => h.cnt (by intro zz; first | exact Nat.le_refl _ | (simp only [cnt_app, cnt_cons, cnt_nil, cat, List.append_eq, List.append_assoc, List.cons_append, List.nil_append, List.append_nil]; omega) | (simp only [cnt_app, cnt_cons, cnt_nil, cat, List.append_eq, List.append_assoc, List.cons_append, List.nil_append, List.append_nil, PeerV.segs]; omega))) ?_
              refine X_storeE rfl rfl rfl rfl rfl (by constructor) (by first | ((try simp only [cat, List.cons_append, List.nil_append, List.append_nil]); (repeat (first | exact flat_nil | refine flat_id ?_ | (refine flat_one ?_ ?_; rfl))); done) | exact PeerV.flat _ | exact PeerV.flat ⟨_, _⟩ | (simp [flat, cat, Segs.cells, Seg.cells, Value.oneCell']; done)) (by repeat first | exact Upd.head | apply Upd.tail | apply Upd.over) F.lay32 rfl rfl (fun _ h => h.cnt (by intro zz; first | exact Nat.le_refl _ | (simp only [cnt_app, cnt_cons, cnt_nil, cat, List.append_eq, List.append_assoc, List.cons_append, List.nil_append, List.append_nil]; omega) | (simp only [cnt_app, cnt_cons, cnt_nil, cat, List.append_eq, List.append_assoc, List.cons_append, List.nil_append, List.append_nil, PeerV.segs]; omega))) ?_
              refine X_assign rfl rfl rfl rfl ?_
              refine XD_end ?_
              refine K_unw ?_
              refine K_then ?_
              refine C_pick (.cons (k := 6) rfl (.cons (k := 5) rfl (.cons (k := 4) rfl .nil))) ?_
              refine C_ret ?_
              refine K_end (.inr rfl) (.cell rfl (by repeat first | exact List.Mem.head _ | refine List.Mem.tail _ ?_ | refine List.mem_append_right _ ?_) F.lay32 rfl rfl (.cell rfl (by repeat first | exact List.Mem.head _ | refine List.Mem.tail _ ?_ | refine List.mem_append_right _ ?_) F.lay32 rfl rfl (.tmp rfl .nil))) (fun w hw => ?_)
              refine ⟨_, rfl, (hw.cnt (by intro zz; first | exact Nat.le_refl _ | (simp only [cnt_app, cnt_cons, cnt_nil, cat, List.append_eq, List.append_assoc, List.cons_append, List.nil_append, List.append_nil]; omega) | (simp only [cnt_app, cnt_cons, cnt_nil, cat, List.append_eq, List.append_assoc, List.cons_append, List.nil_append, List.append_nil, PeerV.segs]; omega))), ?_⟩
              clear hw
              rw [show arcR l_l ((n : Nat) : Int) = _ from arcR_yes hc hn]
              simp only [hq]
              rfl

theorem rArc_ok (M : Mem) (l : (Sl PeerV)) (i : Int) (hl0 : SlK M PeerV.segs 21 l) : Fs Tryd.prog 22 [Sl.val l, .int .i64 i] M (fun v => v =  (ofArc (arcR l.l i))) := by
  obtain ⟨l_a, l_c, l_l⟩ := l
  have k_l : SlK M PeerV.segs 21 ⟨l_a, l_c, l_l⟩ := hl0
  have s_l : SlM M l_a (l_l.map PeerV.segs) 21 := k_l.h1
  have n_l : (l_l.map PeerV.segs).length = l_l.length := List.length_map ..
  have m_l : l_l.length ≤ 9223372036854775807 := k_l.h2
  have c_l : l_l.length ≤ l_c := k_l.h3
  refine fs_enter Tryd.func22 rfl Tryd.ntmps22 rfl ?_; intro H
  refine C_seq ?_
  refine C_region (l := [0, 1, 2]) rfl ?_
  refine X_alloc rfl rfl F.zero32 (by constructor) rfl ?_; intro b1
  refine X_alloc rfl rfl F.zero32 (by constructor) rfl ?_; intro b2
  refine X_assign rfl rfl rfl rfl ?_
  refine XD_end ?_
  refine K_then ?_
  refine C_seq ?_
  refine C_seq ?_
  refine C_region (l := [0, 1, 2, 3, 4, 5, 6, 7, 8, 9, 10, 11, 12]) rfl ?_
  refine X_move rfl rfl rfl rfl ?_
  refine X_fs rfl rfl F.ok13 rfl (rCirc_ok _ ⟨_, _, _⟩ (by first | assumption | omega | exact SlK.mono (by assumption) (by assumption) | exact SlM.mono (by assumption) (by assumption) | exact SlM.mono (by assumption) (by repeat first | assumption | refine Mem.le.trans (by assumption) ?_))) rfl ?_
  rintro _ rfl
  refine X_not rfl rfl rfl rfl ?_
  refine X_move rfl rfl rfl rfl ?_
  refine XD_part 10 rfl (fun hc3 => ?_) (fun hc3 => ?_)
  · first | replace hc3 := dT hc3 | replace hc3 := dF hc3 | replace hc3 := nT hc3 | replace hc3 := nF hc3 | skip
    try simp only [PeerV.eta] at hc3
    first
    | (exfalso; omega)
    | (exfalso; simp [eqX] at hc3; done)
    | contradiction
    | skip
      refine X_skip rfl rfl rfl ?_
      refine X_skip rfl rfl rfl ?_
      refine X_pick rfl rfl rfl rfl rfl ?_
      refine X_move rfl rfl rfl rfl ?_
      refine X_skip rfl rfl rfl ?_
      refine X_skip rfl rfl rfl ?_
      refine X_skip rfl rfl rfl ?_
      refine X_skip rfl rfl rfl ?_
      refine X_pick rfl rfl rfl rfl rfl ?_
      refine XD_end ?_
      refine K_then ?_
      refine C_pick (.cons (k := 19) rfl (.cons (k := 6) rfl (.cons (k := 5) rfl (.cons (k := 4) rfl (.cons (k := 0) rfl (.cons (k := 1) rfl .nil)))))) ?_
      refine C_true rfl ?_
      refine C_seq ?_
      refine C_region (l := [0, 1, 2, 3, 4]) rfl ?_
      refine X_build0 rfl rfl F.zero32 F.arr32 rfl ?_
      refine X_build0 rfl rfl F.zero32 F.arr32 rfl ?_
      refine X_store rfl rfl rfl rfl (by constructor) (by first | ((try simp only [cat, List.cons_append, List.nil_append, List.append_nil]); (repeat (first | exact flat_nil | refine flat_id ?_ | (refine flat_one ?_ ?_; rfl))); done) | exact PeerV.flat _ | exact PeerV.flat ⟨_, _⟩ | (simp [flat, cat, Segs.cells, Seg.cells, Value.oneCell']; done)) (by repeat first | exact Upd.head | apply Upd.tail | apply Upd.over) F.lay32 rfl rfl ?_
      refine X_store rfl rfl rfl rfl (by constructor) (by first | ((try simp only [cat, List.cons_append, List.nil_append, List.append_nil]); (repeat (first | exact flat_nil | refine flat_id ?_ | (refine flat_one ?_ ?_; rfl))); done) | exact PeerV.flat _ | exact PeerV.flat ⟨_, _⟩ | (simp [flat, cat, Segs.cells, Seg.cells, Value.oneCell']; done)) (by repeat first | exact Upd.head | apply Upd.tail | apply Upd.over) F.lay32 rfl rfl ?_
      refine X_assign rfl rfl rfl rfl ?_
      refine XD_end ?_
      refine K_then ?_
      refine C_pick (.cons (k := 6) rfl (.cons (k := 5) rfl (.cons (k := 4) rfl (.cons (k := 0) rfl (.cons (k := 1) rfl .nil))))) ?_
      refine C_ret ?_
      refine K_ret ?_
      refine K_end (.inr rfl) (.cell rfl (by repeat first | exact List.Mem.head _ | refine List.Mem.tail _ ?_ | refine List.mem_append_right _ ?_) F.lay32 rfl rfl (.cell rfl (by repeat first | exact List.Mem.head _ | refine List.Mem.tail _ ?_ | refine List.mem_append_right _ ?_) F.lay32 rfl rfl (.tmp rfl .nil))) (fun w hw => ?_)
      refine ⟨_, rfl, (hw.cnt (by intro zz; first | exact Nat.le_refl _ | (simp only [cnt_app, cnt_cons, cnt_nil, cat, List.append_eq, List.append_assoc, List.cons_append, List.nil_append, List.append_nil]; omega) | (simp only [cnt_app, cnt_cons, cnt_nil, cat, List.append_eq, List.append_assoc, List.cons_append, List.nil_append, List.append_nil, PeerV.segs]; omega))), ?_⟩
      clear hw
      rw [show arcR l_l i = (0, 0, 1) from arcR_no (by rintro ⟨g1, g2, g3⟩; first | exact absurd g1 (by assumption) | omega)]
      rfl
  · first | replace hc3 := dT hc3 | replace hc3 := dF hc3 | replace hc3 := nT hc3 | replace hc3 := nF hc3 | skip
    try simp only [PeerV.eta] at hc3
    first
    | (exfalso; omega)
    | (exfalso; simp [eqX] at hc3; done)
    | contradiction
    | skip
      refine X_move rfl rfl rfl rfl ?_
      refine X_cmp rfl rfl rfl rfl rfl rfl ?_
      refine X_pick rfl rfl rfl rfl rfl ?_
      refine X_move rfl rfl rfl rfl ?_
      refine XD_part 14 rfl (fun hc4 => ?_) (fun hc4 => ?_)
      · first | replace hc4 := dT hc4 | replace hc4 := dF hc4 | replace hc4 := nT hc4 | replace hc4 := nF hc4 | skip
        try simp only [PeerV.eta] at hc4
        first
        | (exfalso; omega)
        | (exfalso; simp [eqX] at hc4; done)
        | contradiction
        | skip
          refine X_skip rfl rfl rfl ?_
          refine X_skip rfl rfl rfl ?_
          refine X_skip rfl rfl rfl ?_
          refine X_skip rfl rfl rfl ?_
          refine X_pick rfl rfl rfl rfl rfl ?_
          refine XD_end ?_
          refine K_then ?_
          refine C_pick (.cons (k := 19) rfl (.cons (k := 6) rfl (.cons (k := 5) rfl (.cons (k := 4) rfl (.cons (k := 0) rfl (.cons (k := 1) rfl .nil)))))) ?_
          refine C_true rfl ?_
          refine C_seq ?_
          refine C_region (l := [0, 1, 2, 3, 4]) rfl ?_
          refine X_build0 rfl rfl F.zero32 F.arr32 rfl ?_
          refine X_build0 rfl rfl F.zero32 F.arr32 rfl ?_
          refine X_store rfl rfl rfl rfl (by constructor) (by first | ((try simp only [cat, List.cons_append, List.nil_append, List.append_nil]); (repeat (first | exact flat_nil | refine flat_id ?_ | (refine flat_one ?_ ?_; rfl))); done) | exact PeerV.flat _ | exact PeerV.flat ⟨_, _⟩ | (simp [flat, cat, Segs.cells, Seg.cells, Value.oneCell']; done)) (by repeat first | exact Upd.head | apply Upd.tail | apply Upd.over) F.lay32 rfl rfl ?_
          refine X_store rfl rfl rfl rfl (by constructor) (by first | ((try simp only [cat, List.cons_append, List.nil_append, List.append_nil]); (repeat (first | exact flat_nil | refine flat_id ?_ | (refine flat_one ?_ ?_; rfl))); done) | exact PeerV.flat _ | exact PeerV.flat ⟨_, _⟩ | (simp [flat, cat, Segs.cells, Seg.cells, Value.oneCell']; done)) (by repeat first | exact Upd.head | apply Upd.tail | apply Upd.over) F.lay32 rfl rfl ?_
          refine X_assign rfl rfl rfl rfl ?_
          refine XD_end ?_
          refine K_then ?_
          refine C_pick (.cons (k := 6) rfl (.cons (k := 5) rfl (.cons (k := 4) rfl (.cons (k := 0) rfl (.cons (k := 1) rfl .nil))))) ?_
          refine C_ret ?_
          refine K_ret ?_
          refine K_end (.inr rfl) (.cell rfl (by repeat first | exact List.Mem.head _ | refine List.Mem.tail _ ?_ | refine List.mem_append_right _ ?_) F.lay32 rfl rfl (.cell rfl (by repeat first | exact List.Mem.head _ | refine List.Mem.tail _ ?_ | refine List.mem_append_right _ ?_) F.lay32 rfl rfl (.tmp rfl .nil))) (fun w hw => ?_)
          refine ⟨_, rfl, (hw.cnt (by intro zz; first | exact Nat.le_refl _ | (simp only [cnt_app, cnt_cons, cnt_nil, cat, List.append_eq, List.append_assoc, List.cons_append, List.nil_append, List.append_nil]; omega) | (simp only [cnt_app, cnt_cons, cnt_nil, cat, List.append_eq, List.append_assoc, List.cons_append, List.nil_append, List.append_nil, PeerV.segs]; omega))), ?_⟩
          clear hw
          rw [show arcR l_l i = (0, 0, 1) from arcR_no (by rintro ⟨g1, g2, g3⟩; first | exact absurd g1 (by assumption) | omega)]
          rfl
      · first | replace hc4 := dT hc4 | replace hc4 := dF hc4 | replace hc4 := nT hc4 | replace hc4 := nF hc4 | skip
        try simp only [PeerV.eta] at hc4
        first
        | (exfalso; omega)
        | (exfalso; simp [eqX] at hc4; done)
        | contradiction
        | skip
          refine X_move rfl rfl rfl rfl ?_
          refine X_move rfl rfl rfl rfl ?_
          refine X_len_sl rfl rfl rfl rfl F.elem23 rfl ?_
          refine X_cmp rfl rfl rfl rfl rfl rfl ?_
          refine X_pick rfl rfl rfl rfl rfl ?_
          refine XD_end ?_
          refine K_then ?_
          refine C_pick (.cons (k := 19) rfl (.cons (k := 6) rfl (.cons (k := 5) rfl (.cons (k := 4) rfl (.cons (k := 0) rfl (.cons (k := 1) rfl .nil)))))) ?_
          refine C_cond rfl (fun hc5 => ?_) (fun hc5 => ?_)
          · first | replace hc5 := dT hc5 | replace hc5 := dF hc5 | replace hc5 := nT hc5 | replace hc5 := nF hc5 | skip
            try simp only [PeerV.eta] at hc5
            first
            | (exfalso; omega)
            | (exfalso; simp [eqX] at hc5; done)
            | contradiction
            | skip
              refine C_seq ?_
              refine C_region (l := [0, 1, 2, 3, 4]) rfl ?_
              refine X_build0 rfl rfl F.zero32 F.arr32 rfl ?_
              refine X_build0 rfl rfl F.zero32 F.arr32 rfl ?_
              refine X_store rfl rfl rfl rfl (by constructor) (by first | ((try simp only [cat, List.cons_append, List.nil_append, List.append_nil]); (repeat (first | exact flat_nil | refine flat_id ?_ | (refine flat_one ?_ ?_; rfl))); done) | exact PeerV.flat _ | exact PeerV.flat ⟨_, _⟩ | (simp [flat, cat, Segs.cells, Seg.cells, Value.oneCell']; done)) (by repeat first | exact Upd.head | apply Upd.tail | apply Upd.over) F.lay32 rfl rfl ?_
              refine X_store rfl rfl rfl rfl (by constructor) (by first | ((try simp only [cat, List.cons_append, List.nil_append, List.append_nil]); (repeat (first | exact flat_nil | refine flat_id ?_ | (refine flat_one ?_ ?_; rfl))); done) | exact PeerV.flat _ | exact PeerV.flat ⟨_, _⟩ | (simp [flat, cat, Segs.cells, Seg.cells, Value.oneCell']; done)) (by repeat first | exact Upd.head | apply Upd.tail | apply Upd.over) F.lay32 rfl rfl ?_
              refine X_assign rfl rfl rfl rfl ?_
              refine XD_end ?_
              refine K_then ?_
              refine C_pick (.cons (k := 6) rfl (.cons (k := 5) rfl (.cons (k := 4) rfl (.cons (k := 0) rfl (.cons (k := 1) rfl .nil))))) ?_
              refine C_ret ?_
              refine K_ret ?_
              refine K_end (.inr rfl) (.cell rfl (by repeat first | exact List.Mem.head _ | refine List.Mem.tail _ ?_ | refine List.mem_append_right _ ?_) F.lay32 rfl rfl (.cell rfl (by repeat first | exact List.Mem.head _ | refine List.Mem.tail _ ?_ | refine List.mem_append_right _ ?_) F.lay32 rfl rfl (.tmp rfl .nil))) (fun w hw => ?_)
              refine ⟨_, rfl, (hw.cnt (by intro zz; first | exact Nat.le_refl _ | (simp only [cnt_app, cnt_cons, cnt_nil, cat, List.append_eq, List.append_assoc, List.cons_append, List.nil_append, List.append_nil]; omega) | (simp only [cnt_app, cnt_cons, cnt_nil, cat, List.append_eq, List.append_assoc, List.cons_append, List.nil_append, List.append_nil, PeerV.segs]; omega))), ?_⟩
              clear hw
              rw [show arcR l_l i = (0, 0, 1) from arcR_no (by rintro ⟨g1, g2, g3⟩; first | exact absurd g1 (by assumption) | omega)]
              rfl
          · first | replace hc5 := dT hc5 | replace hc5 := dF hc5 | replace hc5 := nT hc5 | replace hc5 := nF hc5 | skip
            try simp only [PeerV.eta] at hc5
            first
            | (exfalso; omega)
            | (exfalso; simp [eqX] at hc5; done)
            | contradiction
            | skip
              refine C_skip ?_
              refine K_then ?_
              refine C_pick (.cons (k := 6) rfl (.cons (k := 5) rfl (.cons (k := 4) rfl (.cons (k := 0) rfl (.cons (k := 1) rfl .nil))))) ?_
              refine C_seq ?_
              refine C_region_anyWR2 (l := [0, 1, 2, 3, 4, 5, 6, 7, 8, 9, 10, 11, 12, 13, 14, 15, 16, 17, 18, 19]) (Hin := [(b1, _)]) (Hin2 := [(b2, _)]) [17, 18] #[0, 0, 0, 4, 14, 30, 0, 64, 254, 511, 1023, 2047, 0, 0, 12288, 28672, 61440, 4095, 262143, 524287] (by repeat first | exact Rem.here _ | exact Rem.two | apply Rem.skip | apply Rem.over) (by repeat first | exact Rem.here _ | exact Rem.two | apply Rem.skip | apply Rem.over) rfl (by kernel_rfl) (by kernel_rfl) ?_
              obtain ⟨n, rfl⟩ : ∃ n : Nat, i = n := ⟨i.toNat, by omega⟩
              have hc : IsCircle l_l := by assumption
              have hn : n < l_l.length := by omega
              have hc1 := hc.1
              refine X_move rfl rfl rfl rfl ?_
              refine X_move rfl rfl rfl rfl ?_
              refine X_move rfl rfl rfl rfl ?_
              refine X_len_sl rfl rfl rfl rfl F.elem23 rfl ?_
              refine X_ari rfl rfl rfl rfl rfl (by first | exact wrap_in (by decide) (by omega) | exact wrap_u64_in (by decide) (by omega) | exact wrap_u8_in (by decide) (by omega) | exact wrap_u32_in (by decide) (by omega) | exact wrap_u64 _ | exact wrap_u8 _ | exact wrap_u32 _ | exact rfl) rfl ?_
              refine X_ari rfl rfl rfl rfl rfl (by first | exact wrap_in (by decide) (by omega) | exact wrap_u64_in (by decide) (by omega) | exact wrap_u8_in (by decide) (by omega) | exact wrap_u32_in (by decide) (by omega) | exact wrap_u64 _ | exact wrap_u8 _ | exact wrap_u32 _ | exact rfl) rfl ?_
              refine X_move rfl rfl rfl rfl ?_
              refine X_len_sl rfl rfl rfl rfl F.elem23 rfl ?_
              refine X_rem rfl rfl rfl rfl (by first | decide | omega) (by first | exact rem_nn (by omega) | rfl) rfl ?_
              have hq0 : ((n : Int) + (l_l.length : Int) - 1) % (l_l.length : Int) = (((n + l_l.length - 1) % l_l.length : Nat) : Int) := by rw [Int.natCast_emod]; first | rfl | (congr 1; omega)
              have hq1 : (n + l_l.length - 1) % l_l.length < l_l.length := Nat.mod_lt _ (by omega)
              generalize hq : (n + l_l.length - 1) % l_l.length = q at hq0 hq1
              rw [hq0]
              refine X_indexAddr rfl rfl rfl rfl F.elem23 (by first | rfl | exact (Int.toNat_of_nonneg (by omega)).symm) (by first | omega | (simp; done) | (simp; omega)) (by first | exact ⟨_, _, rfl⟩ | assumption | exact SlM.plain (by assumption) (by first | (simp; done) | (simp; omega)) | exact RdS.plain (by assumption) (by first | (simp; done) | (simp; omega)) | exact OSl.plain (by assumption) (by first | (simp; done) | (simp; omega))) rfl ?_
              first | refine X_fieldAddr rfl rfl rfl F.foff38_1 rfl ?_ | refine X_fieldAddr_el rfl rfl rfl (by first | exact ⟨_, _, rfl⟩ | assumption | exact SlM.plain (by assumption) (by first | (simp; done) | (simp; omega)) | exact RdS.plain (by assumption) (by first | (simp; done) | (simp; omega)) | exact OSl.plain (by assumption) (by first | (simp; done) | (simp; omega))) F.foff38_1 rfl ?_
              first | refine X_load rfl rfl rfl (by repeat first | exact List.Mem.head _ | refine List.Mem.tail _ ?_ | refine List.mem_append_right _ ?_) F.lay32 rfl rfl rfl ?_ | refine X_load_el rfl rfl rfl (by first | assumption | exact SlM.mono (by assumption) (by assumption)) (by first | exact row_map (by omega) | exact List.getElem?_eq_getElem (by omega) | exact rfl | exact row_map (by first | (simp; done) | (simp; omega))) F.lay32 rfl rfl rfl ?_ | refine X_load_rd rfl rfl rfl (by assumption) (by first | exact row_map (by omega) | exact List.getElem?_eq_getElem (by omega) | exact rfl | exact row_map (by first | (simp; done) | (simp; omega))) F.lay32 rfl rfl rfl ?_ | refine X_load_mem rfl rfl rfl (by first | assumption | exact Mem.get_of (by assumption) (by repeat first | assumption | refine Mem.le.trans (by assumption) ?_)) F.lay32 rfl rfl rfl ?_ | refine X_load_osl rfl rfl rfl (by assumption) (by repeat first | exact Rem.here _ | exact Rem.two | apply Rem.skip | apply Rem.over) (by first | exact row_map (by omega) | exact List.getElem?_eq_getElem (by omega) | exact rfl | exact row_map (by first | (simp; done) | (simp; omega))) F.lay32 rfl rfl rfl ?_
              refine X_move rfl rfl rfl rfl ?_
              refine X_move rfl rfl rfl rfl ?_
              refine X_indexAddr rfl rfl rfl rfl F.elem23 (by first | rfl | exact (Int.toNat_of_nonneg (by omega)).symm) (by first | omega | (simp; done) | (simp; omega)) (by first | exact ⟨_, _, rfl⟩ | assumption | exact SlM.plain (by assumption) (by first | (simp; done) | (simp; omega)) | exact RdS.plain (by assumption) (by first | (simp; done) | (simp; omega)) | exact OSl.plain (by assumption) (by first | (simp; done) | (simp; omega))) rfl ?_
              first | refine X_fieldAddr rfl rfl rfl F.foff38_1 rfl ?_ | refine X_fieldAddr_el rfl rfl rfl (by first | exact ⟨_, _, rfl⟩ | assumption | exact SlM.plain (by assumption) (by first | (simp; done) | (simp; omega)) | exact RdS.plain (by assumption) (by first | (simp; done) | (simp; omega)) | exact OSl.plain (by assumption) (by first | (simp; done) | (simp; omega))) F.foff38_1 rfl ?_
              first | refine X_load rfl rfl rfl (by repeat first | exact List.Mem.head _ | refine List.Mem.tail _ ?_ | refine List.mem_append_right _ ?_) F.lay32 rfl rfl rfl ?_ | refine X_load_el rfl rfl rfl (by first | assumption | exact SlM.mono (by assumption) (by assumption)) (by first | exact row_map (by omega) | exact List.getElem?_eq_getElem (by omega) | exact rfl | exact row_map (by first | (simp; done) | (simp; omega))) F.lay32 rfl rfl rfl ?_ | refine X_load_rd rfl rfl rfl (by assumption) (by first | exact row_map (by omega) | exact List.getElem?_eq_getElem (by omega) | exact rfl | exact row_map (by first | (simp; done) | (simp; omega))) F.lay32 rfl rfl rfl ?_ | refine X_load_mem rfl rfl rfl (by first | assumption | exact Mem.get_of (by assumption) (by repeat first | assumption | refine Mem.le.trans (by assumption) ?_)) F.lay32 rfl rfl rfl ?_ | refine X_load_osl rfl rfl rfl (by assumption) (by repeat first | exact Rem.here _ | exact Rem.two | apply Rem.skip | apply Rem.over) (by first | exact row_map (by omega) | exact List.getElem?_eq_getElem (by omega) | exact rfl | exact row_map (by first | (simp; done) | (simp; omega))) F.lay32 rfl rfl rfl ?_
              refine X_storeE rfl rfl rfl rfl rfl (by constructor) (by first | ((try simp only [cat, List.cons_append, List.nil_append, List.append_nil]); (repeat (first | exact flat_nil | refine flat_id ?_ | (refine flat_one ?_ ?_; rfl))); done) | exact PeerV.flat _ | exact PeerV.flat ⟨_, _⟩ | (simp [flat, cat, Segs.cells, Seg.cells, Value.oneCell']; done)) (by repeat first | exact Upd.head | apply Upd.tail | apply Upd.over) F.lay32 rfl rfl (fun _ h => h.cnt (by intro zz; first | exact Nat.le_refl _ | (simp only [cnt_app, cnt_cons, cnt_nil, cat, List.append_eq, List.append_assoc, List.cons_append, List.nil_append, List.append_nil]; omega) | (simp only [cnt_app, cnt_cons, cnt_nil, cat, List.append_eq, List.append_assoc, List.cons_append, List.nil_append, List.append_nil, PeerV.segs]; omega))) ?_
              refine X_storeE rfl rfl rfl rfl rfl (by constructor) (by first | ((try simp only [cat, List.cons_append, List.nil_append, List.append_nil]); (repeat (first | exact flat_nil | refine flat_id ?_ | (refine flat_one ?_ ?_; rfl))); done) | exact PeerV.flat _ | exact PeerV.flat ⟨_, _⟩ | (simp [flat, cat, Segs.cells, Seg.cells, Value.oneCell']; done)) (by repeat first | exact Upd.head | apply Upd.tail | apply Upd.over) F.lay32 rfl rfl (fun _ h => h.cnt (by intro zz; first | exact Nat.le_refl _ | (simp only [cnt_app, cnt_cons, cnt_nil, cat, List.append_eq, List.append_assoc, List.cons_append, List.nil_append, List.append_nil]; omega) | (simp only [cnt_app, cnt_cons, cnt_nil, cat, List.append_eq, List.append_assoc, List.cons_append, List.nil_append, List.append_nil, PeerV.segs]; omega))) ?_
              refine X_assign rfl rfl rfl rfl ?_
              refine XD_end ?_
              refine K_unw ?_
              refine K_then ?_
              refine C_pick (.cons (k := 6) rfl (.cons (k := 5) rfl (.cons (k := 4) rfl .nil))) ?_
              refine C_ret ?_
              refine K_end (.inr rfl) (.cell rfl (by repeat first | exact List.Mem.head _ | refine List.Mem.tail _ ?_ | refine List.mem_append_right _ ?_) F.lay32 rfl rfl (.cell rfl (by repeat first | exact List.Mem.head _ | refine List.Mem.tail _ ?_ | refine List.mem_append_right _ ?_) F.lay32 rfl rfl (.tmp rfl .nil))) (fun w hw => ?_)
              refine ⟨_, rfl, (hw.cnt (by intro zz; first | exact Nat.le_refl _ | (simp only [cnt_app, cnt_cons, cnt_nil, cat, List.append_eq, List.append_assoc, List.cons_append, List.nil_append, List.append_nil]; omega) | (simp only [cnt_app, cnt_cons, cnt_nil, cat, List.append_eq, List.append_assoc, List.cons_append, List.nil_append, List.append_nil, PeerV.segs]; omega))), ?_⟩
              clear hw
              rw [show arcR l_l ((n : Nat) : Int) = _ from arcR_yes hc hn]
              simp only [hq]
              rfl

end Go.Proofs.YtbafnjniijodfaaDoor
/-
  Circles: copies.
-/
set_option linter.unusedSimpArgs false
set_option linter.unusedVariables false
set_option linter.unnecessarySimpa false
set_option maxRecDepth 8000
set_option maxHeartbeats 1000000
namespace Go.Proofs.YtbafnjniijodfaaDoor
open Go.Esp
theorem F.guard38 : Tryd.prog.eqGuardType Tryd.prog.depth 38 = false := by kernel_rfl
theorem F.kinds38 : kindsOf Tryd.prog 20 38 = some [.i .i64, .i .u8, .i .u8, .i .u8, .i .u8, .i .u8, .i .u8, .i .u8, .i .u8, .i .u8, .i .u8, .i .u8, .i .u8, .i .u8, .i .u8, .i .u8, .i .u8, .i .u8, .i .u8, .i .u8, .i .u8] := by kernel_rfl

theorem Copies_ok (M : Mem) (l : (Sl PeerV)) (x : Plc) (r : Int) (hl0 : SlK M PeerV.segs 21 l) : Esp.Fn Tryd.prog 15 [Sl.val l, aggV [idSeg x], .int .i64 r] M (fun M' v => IntsE M' v (copiesR l.l x r)) := by
  obtain ⟨l_a, l_c, l_l⟩ := l
  have k_l : SlK M PeerV.segs 21 ⟨l_a, l_c, l_l⟩ := hl0
  have s_l : SlM M l_a (l_l.map PeerV.segs) 21 := k_l.h1
  have n_l : (l_l.map PeerV.segs).length = l_l.length := List.length_map ..
  have m_l : l_l.length ≤ 9223372036854775807 := k_l.h2
  have c_l : l_l.length ≤ l_c := k_l.h3
  refine fn_enter Tryd.func15 rfl Tryd.ntmps15 rfl ?_; intro H
  refine C_seq ?_
  refine C_region (l := [0, 1, 2]) rfl ?_
  refine X_box rfl rfl rfl (by constructor) rfl ?_; intro b1
  refine X_assign rfl rfl rfl rfl ?_
  refine X_assign rfl rfl rfl rfl ?_
  refine XD_end ?_
  refine K_then ?_
  refine C_pick (.cons (k := 7) rfl (.cons (k := 6) rfl (.cons (k := 4) rfl (.cons (k := 0) rfl (.cons (k := 2) rfl .nil))))) ?_
  refine C_seq ?_
  refine C_seq ?_
  refine C_region (l := [0, 1, 2, 3, 4, 5, 6, 7, 8, 9, 10]) rfl ?_
  refine X_move rfl rfl rfl rfl ?_
  refine X_fs rfl rfl F.ok12 rfl (Circ_ok _ ⟨_, _, _⟩ (by first | assumption | omega | exact SlK.mono (by assumption) (by assumption) | exact SlM.mono (by assumption) (by assumption) | exact SlM.mono (by assumption) (by repeat first | assumption | refine Mem.le.trans (by assumption) ?_))) rfl ?_
  rintro _ rfl
  refine X_not rfl rfl rfl rfl ?_
  refine X_move rfl rfl rfl rfl ?_
  refine XD_part 14 rfl (fun hc2 => ?_) (fun hc2 => ?_)
  · first | replace hc2 := dT hc2 | replace hc2 := dF hc2 | replace hc2 := nT hc2 | replace hc2 := nF hc2 | skip
    try simp only [PeerV.eta] at hc2
    first
    | (exfalso; omega)
    | (exfalso; simp [eqX] at hc2; done)
    | contradiction
    | skip
      refine X_skip rfl rfl rfl ?_
      refine X_skip rfl rfl rfl ?_
      refine X_pick rfl rfl rfl rfl rfl ?_
      refine X_move rfl rfl rfl rfl ?_
      refine X_skip rfl rfl rfl ?_
      refine X_skip rfl rfl rfl ?_
      refine X_pick rfl rfl rfl rfl rfl ?_
      refine XD_end ?_
      refine K_then ?_
      refine C_pick (.cons (k := 21) rfl (.cons (k := 7) rfl (.cons (k := 6) rfl (.cons (k := 4) rfl (.cons (k := 0) rfl (.cons (k := 2) rfl .nil)))))) ?_
      refine C_true rfl ?_
      refine C_seq ?_
      refine C_region (l := [0, 1]) rfl ?_
      refine X_assign rfl rfl rfl rfl ?_
      refine X_assign rfl rfl rfl rfl ?_
      refine XD_end ?_
      refine K_then ?_
      refine C_pick (.cons (k := 7) rfl (.cons (k := 6) rfl (.cons (k := 4) rfl (.cons (k := 0) rfl (.cons (k := 2) rfl .nil))))) ?_
      refine C_ret ?_
      refine K_ret ?_
      refine K_end (.inr rfl) (.tmp rfl (.tmp rfl .nil)) (fun w hw => ?_)
      refine ⟨_, M, rfl, Mem.le.refl M, hw.cnt (by intro zz; first | exact Nat.le_refl _ | (simp only [cnt_app, cnt_cons, cnt_nil, cat, List.append_eq, List.append_assoc, List.cons_append, List.nil_append, List.append_nil]; omega) | (simp only [cnt_app, cnt_cons, cnt_nil, cat, List.append_eq, List.append_assoc, List.cons_append, List.nil_append, List.append_nil, PeerV.segs]; omega)), ?_⟩
      rw [show copiesR l_l x r = ([], 1) from copiesR_no (by rintro ⟨g1, g2, g3⟩; first | exact absurd g1 (by assumption) | omega | exact hcn (by assumption) g1)]
      exact ⟨⟨none, 0, []⟩, rfl, rfl, SlK.nil⟩
  · first | replace hc2 := dT hc2 | replace hc2 := dF hc2 | replace hc2 := nT hc2 | replace hc2 := nF hc2 | skip
    try simp only [PeerV.eta] at hc2
    first
    | (exfalso; omega)
    | (exfalso; simp [eqX] at hc2; done)
    | contradiction
    | skip
      refine X_move rfl rfl rfl rfl ?_
      refine X_cmp rfl rfl rfl rfl rfl rfl ?_
      refine X_pick rfl rfl rfl rfl rfl ?_
      refine X_move rfl rfl rfl rfl ?_
      refine XD_part 18 rfl (fun hc3 => ?_) (fun hc3 => ?_)
      · first | replace hc3 := dT hc3 | replace hc3 := dF hc3 | replace hc3 := nT hc3 | replace hc3 := nF hc3 | skip
        try simp only [PeerV.eta] at hc3
        first
        | (exfalso; omega)
        | (exfalso; simp [eqX] at hc3; done)
        | contradiction
        | skip
          refine X_skip rfl rfl rfl ?_
          refine X_skip rfl rfl rfl ?_
          refine X_pick rfl rfl rfl rfl rfl ?_
          refine XD_end ?_
          refine K_then ?_
          refine C_pick (.cons (k := 21) rfl (.cons (k := 7) rfl (.cons (k := 6) rfl (.cons (k := 4) rfl (.cons (k := 0) rfl (.cons (k := 2) rfl .nil)))))) ?_
          refine C_true rfl ?_
          refine C_seq ?_
          refine C_region (l := [0, 1]) rfl ?_
          refine X_assign rfl rfl rfl rfl ?_
          refine X_assign rfl rfl rfl rfl ?_
          refine XD_end ?_
          refine K_then ?_
          refine C_pick (.cons (k := 7) rfl (.cons (k := 6) rfl (.cons (k := 4) rfl (.cons (k := 0) rfl (.cons (k := 2) rfl .nil))))) ?_
          refine C_ret ?_
          refine K_ret ?_
          refine K_end (.inr rfl) (.tmp rfl (.tmp rfl .nil)) (fun w hw => ?_)
          refine ⟨_, M, rfl, Mem.le.refl M, hw.cnt (by intro zz; first | exact Nat.le_refl _ | (simp only [cnt_app, cnt_cons, cnt_nil, cat, List.append_eq, List.append_assoc, List.cons_append, List.nil_append, List.append_nil]; omega) | (simp only [cnt_app, cnt_cons, cnt_nil, cat, List.append_eq, List.append_assoc, List.cons_append, List.nil_append, List.append_nil, PeerV.segs]; omega)), ?_⟩
          rw [show copiesR l_l x r = ([], 1) from copiesR_no (by rintro ⟨g1, g2, g3⟩; first | exact absurd g1 (by assumption) | omega | exact hcn (by assumption) g1)]
          exact ⟨⟨none, 0, []⟩, rfl, rfl, SlK.nil⟩
      · first | replace hc3 := dT hc3 | replace hc3 := dF hc3 | replace hc3 := nT hc3 | replace hc3 := nF hc3 | skip
        try simp only [PeerV.eta] at hc3
        first
        | (exfalso; omega)
        | (exfalso; simp [eqX] at hc3; done)
        | contradiction
        | skip
          refine X_move rfl rfl rfl rfl ?_
          refine X_cmp rfl rfl rfl rfl rfl rfl ?_
          refine X_pick rfl rfl rfl rfl rfl ?_
          refine XD_end ?_
          refine K_then ?_
          refine C_pick (.cons (k := 21) rfl (.cons (k := 7) rfl (.cons (k := 6) rfl (.cons (k := 4) rfl (.cons (k := 0) rfl (.cons (k := 2) rfl .nil)))))) ?_
          refine C_cond rfl (fun hc4 => ?_) (fun hc4 => ?_)
          · first | replace hc4 := dT hc4 | replace hc4 := dF hc4 | replace hc4 := nT hc4 | replace hc4 := nF hc4 | skip
            try simp only [PeerV.eta] at hc4
            first
            | (exfalso; omega)
            | (exfalso; simp [eqX] at hc4; done)
            | contradiction
            | skip
              refine C_seq ?_
              refine C_region (l := [0, 1]) rfl ?_
              refine X_assign rfl rfl rfl rfl ?_
              refine X_assign rfl rfl rfl rfl ?_
              refine XD_end ?_
              refine K_then ?_
              refine C_pick (.cons (k := 7) rfl (.cons (k := 6) rfl (.cons (k := 4) rfl (.cons (k := 0) rfl (.cons (k := 2) rfl .nil))))) ?_
              refine C_ret ?_
              refine K_ret ?_
              refine K_end (.inr rfl) (.tmp rfl (.tmp rfl .nil)) (fun w hw => ?_)
              refine ⟨_, M, rfl, Mem.le.refl M, hw.cnt (by intro zz; first | exact Nat.le_refl _ | (simp only [cnt_app, cnt_cons, cnt_nil, cat, List.append_eq, List.append_assoc, List.cons_append, List.nil_append, List.append_nil]; omega) | (simp only [cnt_app, cnt_cons, cnt_nil, cat, List.append_eq, List.append_assoc, List.cons_append, List.nil_append, List.append_nil, PeerV.segs]; omega)), ?_⟩
              rw [show copiesR l_l x r = ([], 1) from copiesR_no (by rintro ⟨g1, g2, g3⟩; first | exact absurd g1 (by assumption) | omega | exact hcn (by assumption) g1)]
              exact ⟨⟨none, 0, []⟩, rfl, rfl, SlK.nil⟩
          · first | replace hc4 := dT hc4 | replace hc4 := dF hc4 | replace hc4 := nT hc4 | replace hc4 := nF hc4 | skip
            try simp only [PeerV.eta] at hc4
            first
            | (exfalso; omega)
            | (exfalso; simp [eqX] at hc4; done)
            | contradiction
            | skip
              refine C_skip ?_
              refine K_then ?_
              refine C_pick (.cons (k := 7) rfl (.cons (k := 6) rfl (.cons (k := 4) rfl (.cons (k := 0) rfl (.cons (k := 2) rfl .nil))))) ?_
              refine C_seq ?_
              refine C_region (l := [0, 1, 2, 3]) rfl ?_
              obtain ⟨rn, rfl⟩ : ∃ n : Nat, r = n := ⟨r.toNat, by omega⟩
              have hc : IsCircle l_l := by first | assumption | exact hcc (by assumption)
              have hc1 := hc.1
              obtain ⟨o9, hog⟩ : ∃ o, ownerI l_l x = o := ⟨_, rfl⟩
              have ho9 : o9 < l_l.length := by rw [← hog]; exact ownerI_lt (by omega)
              refine X_move rfl rfl rfl rfl ?_
              first | refine X_load rfl rfl rfl (by repeat first | exact List.Mem.head _ | refine List.Mem.tail _ ?_ | refine List.mem_append_right _ ?_) F.lay32 rfl rfl rfl ?_ | refine X_load_el rfl rfl rfl (by first | assumption | exact SlM.mono (by assumption) (by assumption)) (by first | exact row_map (by omega) | exact List.getElem?_eq_getElem (by omega) | exact rfl | exact row_map (by first | (simp; done) | (simp; omega))) F.lay32 rfl rfl rfl ?_ | refine X_load_rd rfl rfl rfl (by assumption) (by first | exact row_map (by omega) | exact List.getElem?_eq_getElem (by omega) | exact rfl | exact row_map (by first | (simp; done) | (simp; omega))) F.lay32 rfl rfl rfl ?_ | refine X_load_mem rfl rfl rfl (by first | assumption | exact Mem.get_of (by assumption) (by repeat first | assumption | refine Mem.le.trans (by assumption) ?_)) F.lay32 rfl rfl rfl ?_ | refine X_load_osl rfl rfl rfl (by assumption) (by repeat first | exact Rem.here _ | exact Rem.two | apply Rem.skip | apply Rem.over) (by first | exact row_map (by omega) | exact List.getElem?_eq_getElem (by omega) | exact rfl | exact row_map (by first | (simp; done) | (simp; omega))) F.lay32 rfl rfl rfl ?_
              refine X_fs rfl rfl F.ok40 rfl (owner_ok _ ⟨l_a, l_c, l_l⟩ x k_l hc) rfl ?_
              rintro _ hv
              replace hv : _ = Value.int .i64 ((ownerI l_l x : Nat) : Int) := hv
              rw [hog] at hv
              subst hv
              refine X_assign rfl rfl rfl rfl ?_
              refine XD_end ?_
              refine K_then ?_
              refine C_pick (.cons (k := 8) rfl (.cons (k := 7) rfl (.cons (k := 6) rfl (.cons (k := 0) rfl (.cons (k := 2) rfl .nil))))) ?_
              refine C_seq ?_
              refine C_region (l := [0]) rfl ?_
              refine X_assign rfl rfl rfl rfl ?_
              refine XD_end ?_
              refine K_then ?_
              refine C_seq ?_
              refine C_seq ?_
              refine C_region (l := [0, 1, 2, 3, 4]) rfl ?_
              refine X_move rfl rfl rfl rfl ?_
              refine X_move rfl rfl rfl rfl ?_
              refine X_len_sl rfl rfl rfl rfl F.elem23 rfl ?_
              refine X_min rfl rfl rfl rfl rfl rfl ?_
              obtain ⟨m9, hmn⟩ : ∃ m, m = min rn l_l.length := ⟨_, rfl⟩
              rw [show (if (l_l.length : Int) < (rn : Int) then (l_l.length : Int) else (rn : Int)) = (m9 : Int) by split <;> omega]
              refine X_move rfl rfl rfl rfl ?_
              refine XD_end ?_
              refine K_then ?_
              refine C_pick (.cons (k := 29) rfl (.cons (k := 28) rfl (.cons (k := 9) rfl (.cons (k := 8) rfl (.cons (k := 7) rfl (.cons (k := 6) rfl (.cons (k := 0) rfl .nil))))))) ?_
              refine C_block ?_
              refine C_pick (.cons (k := 29) rfl (.cons (k := 9) rfl (.cons (k := 28) rfl (.cons (k := 8) rfl (.cons (k := 7) rfl (.cons (k := 6) rfl (.cons (k := 0) rfl .nil))))))) ?_
              refine C_loopO (Hin := []) (.succ (.succ .zero)) (by repeat first | exact Rem.here _ | exact Rem.two | apply Rem.skip | apply Rem.over) (fun (k : Nat) M1 h1 z => ∃ v, M1 = M ∧ z = [(29, .int .i64 (k : Int)), (9, v)] ∧ k ≤ rn ∧ k ≤ l_l.length ∧ OSl 3 1 v h1 (((List.range k).map fun k => (((o9 + k) % l_l.length : Nat) : Int)).map (oneI .i64))) (fun k => l_l.length - k) (0) (⟨_, rfl, rfl, by omega, by omega, OSl.nil⟩) ?_
              rintro k M1 h1 z hm1 ⟨v0, hM1, rfl, hk, hk2, ho⟩
              subst hM1
              obtain ⟨ad0, cp0, rfl⟩ := ho.val
              have hml : (((List.range k).map fun k => (((o9 + k) % l_l.length : Nat) : Int)).map (oneI .i64)).length = k := by simp
              rw [hml] at ho ⊢
              refine C_seq ?_
              refine C_region (l := [0]) rfl ?_
              refine X_cmp rfl rfl rfl rfl rfl rfl ?_
              refine XD_end ?_
              refine K_then ?_
              refine C_seq ?_
              refine C_cond rfl (fun hc5 => ?_) (fun hc5 => ?_)
              · first | replace hc5 := dT hc5 | replace hc5 := dF hc5 | replace hc5 := nT hc5 | replace hc5 := nF hc5 | skip
                try simp only [PeerV.eta] at hc5
                first
                | (exfalso; omega)
                | (exfalso; simp [eqX] at hc5; done)
                | contradiction
                | skip
                  refine C_skip ?_
                  refine K_then ?_
                  refine C_seq ?_
                  refine C_block ?_
                  refine C_seq ?_
                  refine C_region (l := [0, 1]) rfl ?_
                  refine X_move rfl rfl rfl rfl ?_
                  refine X_assign rfl rfl rfl rfl ?_
                  refine XD_end ?_
                  refine K_then ?_
                  refine C_region (l := [0, 1, 2, 3, 4, 5, 6, 7, 8, 9]) rfl ?_
                  refine X_move rfl rfl rfl rfl ?_
                  refine X_move rfl rfl rfl rfl ?_
                  refine X_move rfl rfl rfl rfl ?_
                  refine X_ari rfl rfl rfl rfl rfl (by first | exact wrap_in (by decide) (by omega) | exact wrap_u64_in (by decide) (by omega) | exact wrap_u8_in (by decide) (by omega) | exact wrap_u32_in (by decide) (by omega) | exact wrap_u64 _ | exact wrap_u8 _ | exact wrap_u32 _ | exact rfl) rfl ?_
                  refine X_move rfl rfl rfl rfl ?_
                  refine X_len_sl rfl rfl rfl rfl F.elem23 rfl ?_
                  refine X_rem rfl rfl rfl rfl (by first | decide | omega) (by first | exact rem_nn (by omega) | rfl) rfl ?_
                  have hq0 : (((o9 : Nat) : Int) + (k : Int)) % (l_l.length : Int) = (((o9 + k) % l_l.length : Nat) : Int) := by rw [Int.natCast_emod]; first | rfl | (congr 1; omega)
                  rw [hq0]
                  refine X_buildSliceF rfl rfl F.elem22 F.zero3 rfl rfl (.cons rfl (by constructor) .nil) rfl rfl (by simp only [List.map_cons, List.map_nil] <;> rfl) rfl ?_; intro b6 hob7
                  refine X_append (m := 1000000) rfl rfl rfl rfl rfl F.elem22 F.zero3 (by first | rfl | exact agg_size rfl) rfl (by first | assumption | exact OSl.nil) (by repeat first | exact Rem.here _ | exact Rem.two | apply Rem.skip | apply Rem.over) (Src.own hob7.lens (by first | exact PeerV.flat1 _ | exact PeerV.flat1 ⟨_, _⟩ | (refine rows_one1 ?_; (repeat (first | exact flat_nil | refine flat_id ?_ | (refine flat_one ?_ ?_; rfl))); done) | (refine rows_one1 ?_; exact PeerV.flat _) | (simp [rowsCells, Segs.cells, Seg.cells, Value.oneCell']; done)) rfl (by repeat first | exact List.Mem.head _ | refine List.Mem.tail _ ?_ | refine List.mem_append_right _ ?_)) (by first | omega | (simp; done) | (simp; omega)) (by decide) rfl ?_; intro v10 hs9 ho8; obtain ⟨adv10, cpv10, rfl⟩ := ho8.valAt (n := k + 1) (by first | (simp; done) | (simp; omega))
                  refine X_assign rfl rfl rfl rfl ?_
                  refine XD_end ?_
                  refine K_out ?_
                  refine K_then ?_
                  refine C_region (l := [0, 1]) rfl ?_
                  refine X_ari rfl rfl rfl rfl rfl (by first | exact wrap_in (by decide) (by omega) | exact wrap_u64_in (by decide) (by omega) | exact wrap_u8_in (by decide) (by omega) | exact wrap_u32_in (by decide) (by omega) | exact wrap_u64 _ | exact wrap_u8 _ | exact wrap_u32 _ | exact rfl) rfl ?_
                  refine X_move rfl rfl rfl rfl ?_
                  refine XD_end ?_
                  refine K_roundO (a' := [(29, _), (9, _)]) (k + 1) (hs9) (.cons (k := 29) rfl (.cons (k := 9) rfl (.cons (k := 28) rfl (.cons (k := 8) rfl (.cons (k := 7) rfl (.cons (k := 6) rfl (.cons (k := 0) rfl (.nil)))))))) (by first | exact Mem.le.refl _ | assumption | (repeat first | assumption | refine Mem.le.trans (by assumption) ?_)) (fun w hw => by first | exact hw | exact hw.cnt (by intro zz; first | exact Nat.le_refl _ | (simp only [cnt_app, cnt_cons, cnt_nil, cat, List.append_eq, List.append_assoc, List.cons_append, List.nil_append, List.append_nil]; omega) | (simp only [cnt_app, cnt_cons, cnt_nil, cat, List.append_eq, List.append_assoc, List.cons_append, List.nil_append, List.append_nil, PeerV.segs]; omega))) ?_ ?_
                  · refine ⟨_, rfl, rfl, by omega, by omega, ?_⟩
                    rw [List.range_succ, List.map_append, List.map_append]
                    exact ho8
                  · omega
              · first | replace hc5 := dT hc5 | replace hc5 := dF hc5 | replace hc5 := nT hc5 | replace hc5 := nF hc5 | skip
                try simp only [PeerV.eta] at hc5
                first
                | (exfalso; omega)
                | (exfalso; simp [eqX] at hc5; done)
                | contradiction
                | skip
                  refine C_exit ?_
                  refine K_exit ?_
                  refine K_exit ?_
                  refine K_hit ?_
                  refine K_then ?_
                  refine C_pick (.cons (k := 9) rfl (.cons (k := 7) rfl (.cons (k := 6) rfl .nil))) ?_
                  refine C_seq ?_
                  refine C_region (l := [0, 1, 2]) rfl ?_
                  refine X_move rfl rfl rfl rfl ?_
                  refine X_assign rfl rfl rfl rfl ?_
                  refine X_assign rfl rfl rfl rfl ?_
                  refine XD_end ?_
                  refine K_then ?_
                  refine C_pick (.cons (k := 7) rfl (.cons (k := 6) rfl .nil)) ?_
                  refine C_ret ?_
                  refine K_end (.inr rfl) (.tmp rfl (.tmp rfl .nil)) (fun w hw => ?_)
                  obtain rfl : k = min rn l_l.length := by omega
                  obtain ⟨M9, s1, g1, g2, g3, g4, g5⟩ := OSl.freezeK (f := oneI .i64) (H := H) (l := (List.range (min rn l_l.length)).map fun k => (((o9 + k) % l_l.length : Nat) : Int)) (ho) (hw.cnt (by intro zz; first | exact Nat.le_refl _ | (simp only [cnt_app, cnt_cons, cnt_nil, cat, List.append_eq, List.append_assoc, List.cons_append, List.nil_append, List.append_nil]; omega) | (simp only [cnt_app, cnt_cons, cnt_nil, cat, List.append_eq, List.append_assoc, List.cons_append, List.nil_append, List.append_nil, PeerV.segs]; omega)))
                  refine ⟨_, M9, rfl, g1, g2, ?_⟩
                  rw [show copiesR l_l x ((rn : Nat) : Int) = _ from copiesR_yes hc (by omega) (by omega)]
                  simp only [hog]
                  exact ⟨s1, by rw [← g3]; rfl, g4, g5⟩

theorem rCopies_ok (M : Mem) (l : (Sl PeerV)) (x : Plc) (r : Int) (hl0 : SlK M PeerV.segs 21 l) : Esp.Fn Tryd.prog 19 [Sl.val l, aggV [idSeg x], .int .i64 r] M (fun M' v => IntsE M' v (copiesR l.l x r)) := by
  obtain ⟨l_a, l_c, l_l⟩ := l
  have k_l : SlK M PeerV.segs 21 ⟨l_a, l_c, l_l⟩ := hl0
  have s_l : SlM M l_a (l_l.map PeerV.segs) 21 := k_l.h1
  have n_l : (l_l.map PeerV.segs).length = l_l.length := List.length_map ..
  have m_l : l_l.length ≤ 9223372036854775807 := k_l.h2
  have c_l : l_l.length ≤ l_c := k_l.h3
  refine fn_enter Tryd.func19 rfl Tryd.ntmps19 rfl ?_; intro H
  refine C_seq ?_
  refine C_region (l := [0, 1, 2]) rfl ?_
  refine X_box rfl rfl rfl (by constructor) rfl ?_; intro b1
  refine X_assign rfl rfl rfl rfl ?_
  refine X_assign rfl rfl rfl rfl ?_
  refine XD_end ?_
  refine K_then ?_
  refine C_pick (.cons (k := 7) rfl (.cons (k := 6) rfl (.cons (k := 4) rfl (.cons (k := 0) rfl (.cons (k := 2) rfl .nil))))) ?_
  refine C_seq ?_
  refine C_region (l := [0, 1, 2, 3, 4, 5, 6, 7]) rfl ?_
  refine X_move rfl rfl rfl rfl ?_
  first | refine X_load rfl rfl rfl (by repeat first | exact List.Mem.head _ | refine List.Mem.tail _ ?_ | refine List.mem_append_right _ ?_) F.lay32 rfl rfl rfl ?_ | refine X_load_el rfl rfl rfl (by first | assumption | exact SlM.mono (by assumption) (by assumption)) (by first | exact row_map (by omega) | exact List.getElem?_eq_getElem (by omega) | exact rfl | exact row_map (by first | (simp; done) | (simp; omega))) F.lay32 rfl rfl rfl ?_ | refine X_load_rd rfl rfl rfl (by assumption) (by first | exact row_map (by omega) | exact List.getElem?_eq_getElem (by omega) | exact rfl | exact row_map (by first | (simp; done) | (simp; omega))) F.lay32 rfl rfl rfl ?_ | refine X_load_mem rfl rfl rfl (by first | assumption | exact Mem.get_of (by assumption) (by repeat first | assumption | refine Mem.le.trans (by assumption) ?_)) F.lay32 rfl rfl rfl ?_ | refine X_load_osl rfl rfl rfl (by assumption) (by repeat first | exact Rem.here _ | exact Rem.two | apply Rem.skip | apply Rem.over) (by first | exact row_map (by omega) | exact List.getElem?_eq_getElem (by omega) | exact rfl | exact row_map (by first | (simp; done) | (simp; omega))) F.lay32 rfl rfl rfl ?_
  refine X_fs rfl rfl F.ok18 rfl (rOwner_ok _ ⟨l_a, l_c, l_l⟩ x k_l) rfl ?_
  rintro _ hv
  obtain ⟨⟨ow, co⟩, howe⟩ : ∃ q, ownerR l_l x = q := ⟨_, rfl⟩
  replace hv : _ = ofII (ownerR l_l x) := hv
  rw [howe] at hv
  subst hv
  have hcc : co = 0 → IsCircle l_l := fun e => by unfold ownerR at howe; split at howe; assumption; cases howe; cases e
  have hcn : co ≠ 0 → ¬ IsCircle l_l := fun e h9 => by unfold ownerR at howe; rw [if_pos h9] at howe; cases howe; exact e rfl
  refine X_move rfl rfl rfl rfl ?_
  refine X_extract rfl rfl rfl rfl rfl ?_
  refine X_extract rfl rfl rfl rfl rfl ?_
  refine X_assign rfl rfl rfl rfl ?_
  refine X_assign rfl rfl rfl rfl ?_
  refine XD_end ?_
  refine K_then ?_
  refine C_pick (.cons (k := 9) rfl (.cons (k := 8) rfl (.cons (k := 7) rfl (.cons (k := 6) rfl (.cons (k := 0) rfl (.cons (k := 2) rfl .nil)))))) ?_
  refine C_seq ?_
  refine C_seq ?_
  refine C_region (l := [0, 1, 2, 3, 4, 5, 6, 7, 8, 9]) rfl ?_
  refine X_move rfl rfl rfl rfl ?_
  refine X_cmp rfl rfl rfl rfl rfl rfl ?_
  refine X_move rfl rfl rfl rfl ?_
  refine XD_part 20 rfl (fun hc2 => ?_) (fun hc2 => ?_)
  · first | replace hc2 := dT hc2 | replace hc2 := dF hc2 | replace hc2 := nT hc2 | replace hc2 := nF hc2 | skip
    try simp only [PeerV.eta] at hc2
    first
    | (exfalso; omega)
    | (exfalso; simp [eqX] at hc2; done)
    | contradiction
    | skip
      refine X_skip rfl rfl rfl ?_
      refine X_skip rfl rfl rfl ?_
      refine X_pick rfl rfl rfl rfl rfl ?_
      refine X_move rfl rfl rfl rfl ?_
      refine X_skip rfl rfl rfl ?_
      refine X_skip rfl rfl rfl ?_
      refine X_pick rfl rfl rfl rfl rfl ?_
      refine XD_end ?_
      refine K_then ?_
      refine C_pick (.cons (k := 27) rfl (.cons (k := 8) rfl (.cons (k := 7) rfl (.cons (k := 6) rfl (.cons (k := 0) rfl (.cons (k := 2) rfl .nil)))))) ?_
      refine C_true rfl ?_
      refine C_seq ?_
      refine C_region (l := [0, 1]) rfl ?_
      refine X_assign rfl rfl rfl rfl ?_
      refine X_assign rfl rfl rfl rfl ?_
      refine XD_end ?_
      refine K_then ?_
      refine C_pick (.cons (k := 7) rfl (.cons (k := 6) rfl (.cons (k := 8) rfl (.cons (k := 0) rfl (.cons (k := 2) rfl .nil))))) ?_
      refine C_ret ?_
      refine K_ret ?_
      refine K_end (.inr rfl) (.tmp rfl (.tmp rfl .nil)) (fun w hw => ?_)
      refine ⟨_, M, rfl, Mem.le.refl M, hw.cnt (by intro zz; first | exact Nat.le_refl _ | (simp only [cnt_app, cnt_cons, cnt_nil, cat, List.append_eq, List.append_assoc, List.cons_append, List.nil_append, List.append_nil]; omega) | (simp only [cnt_app, cnt_cons, cnt_nil, cat, List.append_eq, List.append_assoc, List.cons_append, List.nil_append, List.append_nil, PeerV.segs]; omega)), ?_⟩
      rw [show copiesR l_l x r = ([], 1) from copiesR_no (by rintro ⟨g1, g2, g3⟩; first | exact absurd g1 (by assumption) | omega | exact hcn (by assumption) g1)]
      exact ⟨⟨none, 0, []⟩, rfl, rfl, SlK.nil⟩
  · first | replace hc2 := dT hc2 | replace hc2 := dF hc2 | replace hc2 := nT hc2 | replace hc2 := nF hc2 | skip
    try simp only [PeerV.eta] at hc2
    first
    | (exfalso; omega)
    | (exfalso; simp [eqX] at hc2; done)
    | contradiction
    | skip
      refine X_move rfl rfl rfl rfl ?_
      refine X_cmp rfl rfl rfl rfl rfl rfl ?_
      refine X_pick rfl rfl rfl rfl rfl ?_
      refine X_move rfl rfl rfl rfl ?_
      refine XD_part 24 rfl (fun hc3 => ?_) (fun hc3 => ?_)
      · first | replace hc3 := dT hc3 | replace hc3 := dF hc3 | replace hc3 := nT hc3 | replace hc3 := nF hc3 | skip
        try simp only [PeerV.eta] at hc3
        first
        | (exfalso; omega)
        | (exfalso; simp [eqX] at hc3; done)
        | contradiction
        | skip
          refine X_skip rfl rfl rfl ?_
          refine X_skip rfl rfl rfl ?_
          refine X_pick rfl rfl rfl rfl rfl ?_
          refine XD_end ?_
          refine K_then ?_
          refine C_pick (.cons (k := 27) rfl (.cons (k := 8) rfl (.cons (k := 7) rfl (.cons (k := 6) rfl (.cons (k := 0) rfl (.cons (k := 2) rfl .nil)))))) ?_
          refine C_true rfl ?_
          refine C_seq ?_
          refine C_region (l := [0, 1]) rfl ?_
          refine X_assign rfl rfl rfl rfl ?_
          refine X_assign rfl rfl rfl rfl ?_
          refine XD_end ?_
          refine K_then ?_
          refine C_pick (.cons (k := 7) rfl (.cons (k := 6) rfl (.cons (k := 8) rfl (.cons (k := 0) rfl (.cons (k := 2) rfl .nil))))) ?_
          refine C_ret ?_
          refine K_ret ?_
          refine K_end (.inr rfl) (.tmp rfl (.tmp rfl .nil)) (fun w hw => ?_)
          refine ⟨_, M, rfl, Mem.le.refl M, hw.cnt (by intro zz; first | exact Nat.le_refl _ | (simp only [cnt_app, cnt_cons, cnt_nil, cat, List.append_eq, List.append_assoc, List.cons_append, List.nil_append, List.append_nil]; omega) | (simp only [cnt_app, cnt_cons, cnt_nil, cat, List.append_eq, List.append_assoc, List.cons_append, List.nil_append, List.append_nil, PeerV.segs]; omega)), ?_⟩
          rw [show copiesR l_l x r = ([], 1) from copiesR_no (by rintro ⟨g1, g2, g3⟩; first | exact absurd g1 (by assumption) | omega | exact hcn (by assumption) g1)]
          exact ⟨⟨none, 0, []⟩, rfl, rfl, SlK.nil⟩
      · first | replace hc3 := dT hc3 | replace hc3 := dF hc3 | replace hc3 := nT hc3 | replace hc3 := nF hc3 | skip
        try simp only [PeerV.eta] at hc3
        first
        | (exfalso; omega)
        | (exfalso; simp [eqX] at hc3; done)
        | contradiction
        | skip
          refine X_move rfl rfl rfl rfl ?_
          refine X_cmp rfl rfl rfl rfl rfl rfl ?_
          refine X_pick rfl rfl rfl rfl rfl ?_
          refine XD_end ?_
          refine K_then ?_
          refine C_pick (.cons (k := 27) rfl (.cons (k := 8) rfl (.cons (k := 7) rfl (.cons (k := 6) rfl (.cons (k := 0) rfl (.cons (k := 2) rfl .nil)))))) ?_
          refine C_cond rfl (fun hc4 => ?_) (fun hc4 => ?_)
          · first | replace hc4 := dT hc4 | replace hc4 := dF hc4 | replace hc4 := nT hc4 | replace hc4 := nF hc4 | skip
            try simp only [PeerV.eta] at hc4
            first
            | (exfalso; omega)
            | (exfalso; simp [eqX] at hc4; done)
            | contradiction
            | skip
              refine C_seq ?_
              refine C_region (l := [0, 1]) rfl ?_
              refine X_assign rfl rfl rfl rfl ?_
              refine X_assign rfl rfl rfl rfl ?_
              refine XD_end ?_
              refine K_then ?_
              refine C_pick (.cons (k := 7) rfl (.cons (k := 6) rfl (.cons (k := 8) rfl (.cons (k := 0) rfl (.cons (k := 2) rfl .nil))))) ?_
              refine C_ret ?_
              refine K_ret ?_
              refine K_end (.inr rfl) (.tmp rfl (.tmp rfl .nil)) (fun w hw => ?_)
              refine ⟨_, M, rfl, Mem.le.refl M, hw.cnt (by intro zz; first | exact Nat.le_refl _ | (simp only [cnt_app, cnt_cons, cnt_nil, cat, List.append_eq, List.append_assoc, List.cons_append, List.nil_append, List.append_nil]; omega) | (simp only [cnt_app, cnt_cons, cnt_nil, cat, List.append_eq, List.append_assoc, List.cons_append, List.nil_append, List.append_nil, PeerV.segs]; omega)), ?_⟩
              rw [show copiesR l_l x r = ([], 1) from copiesR_no (by rintro ⟨g1, g2, g3⟩; first | exact absurd g1 (by assumption) | omega | exact hcn (by assumption) g1)]
              exact ⟨⟨none, 0, []⟩, rfl, rfl, SlK.nil⟩
          · first | replace hc4 := dT hc4 | replace hc4 := dF hc4 | replace hc4 := nT hc4 | replace hc4 := nF hc4 | skip
            try simp only [PeerV.eta] at hc4
            first
            | (exfalso; omega)
            | (exfalso; simp [eqX] at hc4; done)
            | contradiction
            | skip
              refine C_skip ?_
              refine K_then ?_
              refine C_pick (.cons (k := 8) rfl (.cons (k := 7) rfl (.cons (k := 6) rfl (.cons (k := 0) rfl (.cons (k := 2) rfl .nil))))) ?_
              refine C_seq ?_
              obtain ⟨rn, rfl⟩ : ∃ n : Nat, r = n := ⟨r.toNat, by omega⟩
              have hc : IsCircle l_l := by first | assumption | exact hcc (by assumption)
              have hc1 := hc.1
              obtain ⟨o9, hog⟩ : ∃ o, ownerI l_l x = o := ⟨_, rfl⟩
              have ho9 : o9 < l_l.length := by rw [← hog]; exact ownerI_lt (by omega)
              obtain ⟨rfl, rfl⟩ : ((o9 : Nat) : Int) = ow ∧ (0 : Int) = co := by unfold ownerR at howe; rw [if_pos hc, hog] at howe; exact ⟨congrArg Prod.fst howe, congrArg Prod.snd howe⟩
              refine C_region (l := [0]) rfl ?_
              refine X_assign rfl rfl rfl rfl ?_
              refine XD_end ?_
              refine K_then ?_
              refine C_seq ?_
              refine C_seq ?_
              refine C_region (l := [0]) rfl ?_
              refine X_assign rfl rfl rfl rfl ?_
              refine XD_end ?_
              refine K_then ?_
              refine C_block ?_
              refine C_pick (.cons (k := 11) rfl (.cons (k := 10) rfl (.cons (k := 8) rfl (.cons (k := 7) rfl (.cons (k := 6) rfl (.cons (k := 0) rfl (.cons (k := 2) rfl .nil))))))) ?_
              refine C_loopO (Hin := []) (.succ (.succ .zero)) (by repeat first | exact Rem.here _ | exact Rem.two | apply Rem.skip | apply Rem.over) (fun (k : Nat) M1 h1 z => ∃ v, M1 = M ∧ z = [(11, .int .i64 (k : Int)), (10, v)] ∧ k ≤ rn ∧ k ≤ l_l.length ∧ OSl 3 1 v h1 (((List.range k).map fun k => (((o9 + k) % l_l.length : Nat) : Int)).map (oneI .i64))) (fun k => l_l.length - k) (0) (⟨_, rfl, rfl, by omega, by omega, OSl.nil⟩) ?_
              rintro k M1 h1 z hm1 ⟨v0, hM1, rfl, hk, hk2, ho⟩
              subst hM1
              obtain ⟨ad0, cp0, rfl⟩ := ho.val
              have hml : (((List.range k).map fun k => (((o9 + k) % l_l.length : Nat) : Int)).map (oneI .i64)).length = k := by simp
              rw [hml] at ho ⊢
              refine C_seq ?_
              refine C_seq ?_
              refine C_region (l := [0, 1, 2, 3, 4, 5, 6, 7, 8]) rfl ?_
              refine X_move rfl rfl rfl rfl ?_
              refine X_move rfl rfl rfl rfl ?_
              refine X_cmp rfl rfl rfl rfl rfl rfl ?_
              refine X_move rfl rfl rfl rfl ?_
              refine XD_part 31 rfl (fun hc5 => ?_) (fun hc5 => ?_)
              · first | replace hc5 := dT hc5 | replace hc5 := dF hc5 | replace hc5 := nT hc5 | replace hc5 := nF hc5 | skip
                try simp only [PeerV.eta] at hc5
                first
                | (exfalso; omega)
                | (exfalso; simp [eqX] at hc5; done)
                | contradiction
                | skip
                  refine X_move rfl rfl rfl rfl ?_
                  refine X_move rfl rfl rfl rfl ?_
                  refine X_len_sl rfl rfl rfl rfl F.elem23 rfl ?_
                  refine X_cmp rfl rfl rfl rfl rfl rfl ?_
                  refine X_pick rfl rfl rfl rfl rfl ?_
                  refine XD_end ?_
                  refine K_then ?_
                  refine C_cond rfl (fun hc6 => ?_) (fun hc6 => ?_)
                  · first | replace hc6 := dT hc6 | replace hc6 := dF hc6 | replace hc6 := nT hc6 | replace hc6 := nF hc6 | skip
                    try simp only [PeerV.eta] at hc6
                    first
                    | (exfalso; omega)
                    | (exfalso; simp [eqX] at hc6; done)
                    | contradiction
                    | skip
                      refine C_skip ?_
                      refine K_then ?_
                      refine C_seq ?_
                      refine C_block ?_
                      refine C_region (l := [0, 1, 2, 3, 4, 5, 6, 7, 8, 9]) rfl ?_
                      refine X_move rfl rfl rfl rfl ?_
                      refine X_move rfl rfl rfl rfl ?_
                      refine X_move rfl rfl rfl rfl ?_
                      refine X_ari rfl rfl rfl rfl rfl (by first | exact wrap_in (by decide) (by omega) | exact wrap_u64_in (by decide) (by omega) | exact wrap_u8_in (by decide) (by omega) | exact wrap_u32_in (by decide) (by omega) | exact wrap_u64 _ | exact wrap_u8 _ | exact wrap_u32 _ | exact rfl) rfl ?_
                      refine X_move rfl rfl rfl rfl ?_
                      refine X_len_sl rfl rfl rfl rfl F.elem23 rfl ?_
                      refine X_rem rfl rfl rfl rfl (by first | decide | omega) (by first | exact rem_nn (by omega) | rfl) rfl ?_
                      have hq0 : (((o9 : Nat) : Int) + (k : Int)) % (l_l.length : Int) = (((o9 + k) % l_l.length : Nat) : Int) := by rw [Int.natCast_emod]; first | rfl | (congr 1; omega)
                      rw [hq0]
                      refine X_buildSliceF rfl rfl F.elem22 F.zero3 rfl rfl (.cons rfl (by constructor) .nil) rfl rfl (by simp only [List.map_cons, List.map_nil] <;> rfl) rfl ?_; intro b7 hob8
                      refine X_append (m := 1000000) rfl rfl rfl rfl rfl F.elem22 F.zero3 (by first | rfl | exact agg_size rfl) rfl (by first | assumption | exact OSl.nil) (by repeat first | exact Rem.here _ | exact Rem.two | apply Rem.skip | apply Rem.over) (Src.own hob8.lens (by first | exact PeerV.flat1 _ | exact PeerV.flat1 ⟨_, _⟩ | (refine rows_one1 ?_; (repeat (first | exact flat_nil | refine flat_id ?_ | (refine flat_one ?_ ?_; rfl))); done) | (refine rows_one1 ?_; exact PeerV.flat _) | (simp [rowsCells, Segs.cells, Seg.cells, Value.oneCell']; done)) rfl (by repeat first | exact List.Mem.head _ | refine List.Mem.tail _ ?_ | refine List.mem_append_right _ ?_)) (by first | omega | (simp; done) | (simp; omega)) (by decide) rfl ?_; intro v11 hs10 ho9; obtain ⟨adv11, cpv11, rfl⟩ := ho9.valAt (n := k + 1) (by first | (simp; done) | (simp; omega))
                      refine X_assign rfl rfl rfl rfl ?_
                      refine XD_end ?_
                      refine K_out ?_
                      refine K_then ?_
                      refine C_region (l := [0, 1, 2]) rfl ?_
                      refine X_move rfl rfl rfl rfl ?_
                      refine X_ari rfl rfl rfl rfl rfl (by first | exact wrap_in (by decide) (by omega) | exact wrap_u64_in (by decide) (by omega) | exact wrap_u8_in (by decide) (by omega) | exact wrap_u32_in (by decide) (by omega) | exact wrap_u64 _ | exact wrap_u8 _ | exact wrap_u32 _ | exact rfl) rfl ?_
                      refine X_assign rfl rfl rfl rfl ?_
                      refine XD_end ?_
                      refine K_roundO (a' := [(11, _), (10, _)]) (k + 1) (hs10) (.cons (k := 11) rfl (.cons (k := 10) rfl (.cons (k := 8) rfl (.cons (k := 7) rfl (.cons (k := 6) rfl (.cons (k := 0) rfl (.cons (k := 2) rfl (.nil)))))))) (by first | exact Mem.le.refl _ | assumption | (repeat first | assumption | refine Mem.le.trans (by assumption) ?_)) (fun w hw => by first | exact hw | exact hw.cnt (by intro zz; first | exact Nat.le_refl _ | (simp only [cnt_app, cnt_cons, cnt_nil, cat, List.append_eq, List.append_assoc, List.cons_append, List.nil_append, List.append_nil]; omega) | (simp only [cnt_app, cnt_cons, cnt_nil, cat, List.append_eq, List.append_assoc, List.cons_append, List.nil_append, List.append_nil, PeerV.segs]; omega))) ?_ ?_
                      · refine ⟨_, rfl, rfl, by omega, by omega, ?_⟩
                        rw [List.range_succ, List.map_append, List.map_append]
                        exact ho9
                      · omega
                  · first | replace hc6 := dT hc6 | replace hc6 := dF hc6 | replace hc6 := nT hc6 | replace hc6 := nF hc6 | skip
                    try simp only [PeerV.eta] at hc6
                    first
                    | (exfalso; omega)
                    | (exfalso; simp [eqX] at hc6; done)
                    | contradiction
                    | skip
                      refine C_exit ?_
                      refine K_exit ?_
                      refine K_exit ?_
                      refine K_hit ?_
                      refine K_then ?_
                      refine C_pick (.cons (k := 10) rfl (.cons (k := 7) rfl (.cons (k := 6) rfl .nil))) ?_
                      refine C_seq ?_
                      refine C_region (l := [0, 1, 2]) rfl ?_
                      refine X_move rfl rfl rfl rfl ?_
                      refine X_assign rfl rfl rfl rfl ?_
                      refine X_assign rfl rfl rfl rfl ?_
                      refine XD_end ?_
                      refine K_then ?_
                      refine C_pick (.cons (k := 7) rfl (.cons (k := 6) rfl .nil)) ?_
                      refine C_ret ?_
                      refine K_end (.inr rfl) (.tmp rfl (.tmp rfl .nil)) (fun w hw => ?_)
                      obtain rfl : k = min rn l_l.length := by omega
                      obtain ⟨M9, s1, g1, g2, g3, g4, g5⟩ := OSl.freezeK (f := oneI .i64) (H := H) (l := (List.range (min rn l_l.length)).map fun k => (((o9 + k) % l_l.length : Nat) : Int)) (ho) (hw.cnt (by intro zz; first | exact Nat.le_refl _ | (simp only [cnt_app, cnt_cons, cnt_nil, cat, List.append_eq, List.append_assoc, List.cons_append, List.nil_append, List.append_nil]; omega) | (simp only [cnt_app, cnt_cons, cnt_nil, cat, List.append_eq, List.append_assoc, List.cons_append, List.nil_append, List.append_nil, PeerV.segs]; omega)))
                      refine ⟨_, M9, rfl, g1, g2, ?_⟩
                      rw [show copiesR l_l x ((rn : Nat) : Int) = _ from copiesR_yes hc (by omega) (by omega)]
                      simp only [hog]
                      exact ⟨s1, by rw [← g3]; rfl, g4, g5⟩
              · first | replace hc5 := dT hc5 | replace hc5 := dF hc5 | replace hc5 := nT hc5 | replace hc5 := nF hc5 | skip
                try simp only [PeerV.eta] at hc5
                first
                | (exfalso; omega)
                | (exfalso; simp [eqX] at hc5; done)
                | contradiction
                | skip
                  refine X_skip rfl rfl rfl ?_
                  refine X_skip rfl rfl rfl ?_
                  refine X_skip rfl rfl rfl ?_
                  refine X_skip rfl rfl rfl ?_
                  refine X_pick rfl rfl rfl rfl rfl ?_
                  refine XD_end ?_
                  refine K_then ?_
                  refine C_false rfl ?_
                  refine C_exit ?_
                  refine K_exit ?_
                  refine K_exit ?_
                  refine K_hit ?_
                  refine K_then ?_
                  refine C_pick (.cons (k := 10) rfl (.cons (k := 7) rfl (.cons (k := 6) rfl .nil))) ?_
                  refine C_seq ?_
                  refine C_region (l := [0, 1, 2]) rfl ?_
                  refine X_move rfl rfl rfl rfl ?_
                  refine X_assign rfl rfl rfl rfl ?_
                  refine X_assign rfl rfl rfl rfl ?_
                  refine XD_end ?_
                  refine K_then ?_
                  refine C_pick (.cons (k := 7) rfl (.cons (k := 6) rfl .nil)) ?_
                  refine C_ret ?_
                  refine K_end (.inr rfl) (.tmp rfl (.tmp rfl .nil)) (fun w hw => ?_)
                  obtain rfl : k = min rn l_l.length := by omega
                  obtain ⟨M9, s1, g1, g2, g3, g4, g5⟩ := OSl.freezeK (f := oneI .i64) (H := H) (l := (List.range (min rn l_l.length)).map fun k => (((o9 + k) % l_l.length : Nat) : Int)) (ho) (hw.cnt (by intro zz; first | exact Nat.le_refl _ | (simp only [cnt_app, cnt_cons, cnt_nil, cat, List.append_eq, List.append_assoc, List.cons_append, List.nil_append, List.append_nil]; omega) | (simp only [cnt_app, cnt_cons, cnt_nil, cat, List.append_eq, List.append_assoc, List.cons_append, List.nil_append, List.append_nil, PeerV.segs]; omega)))
                  refine ⟨_, M9, rfl, g1, g2, ?_⟩
                  rw [show copiesR l_l x ((rn : Nat) : Int) = _ from copiesR_yes hc (by omega) (by omega)]
                  simp only [hog]
                  exact ⟨s1, by rw [← g3]; rfl, g4, g5⟩

theorem Ints_ok (M : Mem) (a : (Sl Int)) (b : (Sl Int)) (ha0 : SlK M (oneI .i64) 1 a) (hb1 : SlK M (oneI .i64) 1 b) : Fs Tryd.prog 23 [Sl.val a, Sl.val b] M (fun v => v = Value.bool (decide (a.l = b.l))) := by
  obtain ⟨a_a, a_c, a_l⟩ := a
  obtain ⟨b_a, b_c, b_l⟩ := b
  have k_a : SlK M (oneI .i64) 1 ⟨a_a, a_c, a_l⟩ := ha0
  have s_a : SlM M a_a (a_l.map (oneI .i64)) 1 := k_a.h1
  have n_a : (a_l.map (oneI .i64)).length = a_l.length := List.length_map ..
  have m_a : a_l.length ≤ 9223372036854775807 := k_a.h2
  have c_a : a_l.length ≤ a_c := k_a.h3
  have k_b : SlK M (oneI .i64) 1 ⟨b_a, b_c, b_l⟩ := hb1
  have s_b : SlM M b_a (b_l.map (oneI .i64)) 1 := k_b.h1
  have n_b : (b_l.map (oneI .i64)).length = b_l.length := List.length_map ..
  have m_b : b_l.length ≤ 9223372036854775807 := k_b.h2
  have c_b : b_l.length ≤ b_c := k_b.h3
  refine fs_enter Tryd.func23 rfl Tryd.ntmps23 rfl ?_; intro H
  refine C_seq ?_
  refine C_region (l := [0]) rfl ?_
  refine X_assign rfl rfl rfl rfl ?_
  refine XD_end ?_
  refine K_then ?_
  refine C_seq ?_
  refine C_seq ?_
  refine C_region (l := [0, 1, 2, 3, 4]) rfl ?_
  refine X_move rfl rfl rfl rfl ?_
  refine X_len_sl rfl rfl rfl rfl F.elem22 rfl ?_
  refine X_move rfl rfl rfl rfl ?_
  refine X_len_sl rfl rfl rfl rfl F.elem22 rfl ?_
  refine X_cmp rfl rfl rfl rfl rfl rfl ?_
  refine XD_end ?_
  refine K_then ?_
  refine C_pick (.cons (k := 10) rfl (.cons (k := 4) rfl (.cons (k := 0) rfl (.cons (k := 1) rfl .nil)))) ?_
  refine C_cond rfl (fun hc1 => ?_) (fun hc1 => ?_)
  · first | replace hc1 := dT hc1 | replace hc1 := dF hc1 | replace hc1 := nT hc1 | replace hc1 := nF hc1 | skip
    try simp only [PeerV.eta] at hc1
    first
    | (exfalso; omega)
    | (exfalso; simp [eqX] at hc1; done)
    | contradiction
    | skip
      refine C_seq ?_
      refine C_region (l := [0]) rfl ?_
      refine X_assign rfl rfl rfl rfl ?_
      refine XD_end ?_
      refine K_then ?_
      refine C_pick (.cons (k := 4) rfl (.cons (k := 0) rfl (.cons (k := 1) rfl .nil))) ?_
      refine C_ret ?_
      refine K_ret ?_
      refine K_end (.inr rfl) (.tmp rfl .nil) (fun w hw => ?_)
      refine ⟨_, rfl, (hw.cnt (by intro zz; first | exact Nat.le_refl _ | (simp only [cnt_app, cnt_cons, cnt_nil, cat, List.append_eq, List.append_assoc, List.cons_append, List.nil_append, List.append_nil]; omega) | (simp only [cnt_app, cnt_cons, cnt_nil, cat, List.append_eq, List.append_assoc, List.cons_append, List.nil_append, List.append_nil, PeerV.segs]; omega))), ?_⟩
      clear hw
      refine congrArg Value.bool ?_
      first | exact (decide_eq_false (fun h9 => by have := congrArg List.length h9; omega)).symm | exact (decide_eq_true (List.ext_getElem (by omega) (fun j h2 h3 => hI j h2 h3 (by omega)))).symm | exact (decide_eq_false (fun h9 => by subst h9; simp_all)).symm
  · first | replace hc1 := dT hc1 | replace hc1 := dF hc1 | replace hc1 := nT hc1 | replace hc1 := nF hc1 | skip
    try simp only [PeerV.eta] at hc1
    first
    | (exfalso; omega)
    | (exfalso; simp [eqX] at hc1; done)
    | contradiction
    | skip
      refine C_skip ?_
      refine K_then ?_
      refine C_pick (.cons (k := 4) rfl (.cons (k := 0) rfl (.cons (k := 1) rfl .nil))) ?_
      refine C_seq ?_
      refine C_seq ?_
      refine C_region (l := [0]) rfl ?_
      refine X_assign rfl rfl rfl rfl ?_
      refine XD_end ?_
      refine K_then ?_
      refine C_block ?_
      refine C_pick (.cons (k := 5) rfl (.cons (k := 4) rfl (.cons (k := 0) rfl (.cons (k := 1) rfl .nil)))) ?_
      refine C_loopS (.succ .zero) (fun (k : Nat) z => z = [(5, .int .i64 (k : Int))] ∧ k ≤ a_l.length ∧ (∀ j (h2 : j < a_l.length) (h3 : j < b_l.length), j < k → a_l[j] = b_l[j])) (fun k => a_l.length - k) (0) (⟨rfl, by omega, by (intro j h2 h3 hj; omega)⟩) ?_
      rintro k _ ⟨rfl, hk, hI⟩
      refine C_seq ?_
      refine C_seq ?_
      refine C_region (l := [0, 1, 2, 3]) rfl ?_
      refine X_move rfl rfl rfl rfl ?_
      refine X_move rfl rfl rfl rfl ?_
      refine X_len_sl rfl rfl rfl rfl F.elem22 rfl ?_
      refine X_cmp rfl rfl rfl rfl rfl rfl ?_
      refine XD_end ?_
      refine K_then ?_
      refine C_cond rfl (fun hc2 => ?_) (fun hc2 => ?_)
      · first | replace hc2 := dT hc2 | replace hc2 := dF hc2 | replace hc2 := nT hc2 | replace hc2 := nF hc2 | skip
        try simp only [PeerV.eta] at hc2
        first
        | (exfalso; omega)
        | (exfalso; simp [eqX] at hc2; done)
        | contradiction
        | skip
          refine C_skip ?_
          refine K_then ?_
          refine C_seq ?_
          refine C_block ?_
          refine C_seq ?_
          refine C_region_any (l := [0, 1, 2, 3, 4, 5, 6, 7, 8]) #[0, 0, 3, 7, 0, 0, 48, 112, 255] _ rfl (by kernel_rfl) (by kernel_rfl) St.drawn (fun _ h => h) ?_
          refine X_move rfl rfl rfl rfl ?_
          refine X_move rfl rfl rfl rfl ?_
          refine X_indexAddr rfl rfl rfl rfl F.elem22 (by first | rfl | exact (Int.toNat_of_nonneg (by omega)).symm) (by first | omega | (simp; done) | (simp; omega)) (by first | exact ⟨_, _, rfl⟩ | assumption | exact SlM.plain (by assumption) (by first | (simp; done) | (simp; omega)) | exact RdS.plain (by assumption) (by first | (simp; done) | (simp; omega)) | exact OSl.plain (by assumption) (by first | (simp; done) | (simp; omega))) rfl ?_
          first | refine X_load rfl rfl rfl (by repeat first | exact List.Mem.head _ | refine List.Mem.tail _ ?_ | refine List.mem_append_right _ ?_) F.lay3 rfl rfl rfl ?_ | refine X_load_el rfl rfl rfl (by first | assumption | exact SlM.mono (by assumption) (by assumption)) (by first | exact row_map (by omega) | exact List.getElem?_eq_getElem (by omega) | exact rfl | exact row_map (by first | (simp; done) | (simp; omega))) F.lay3 rfl rfl rfl ?_ | refine X_load_rd rfl rfl rfl (by assumption) (by first | exact row_map (by omega) | exact List.getElem?_eq_getElem (by omega) | exact rfl | exact row_map (by first | (simp; done) | (simp; omega))) F.lay3 rfl rfl rfl ?_ | refine X_load_mem rfl rfl rfl (by first | assumption | exact Mem.get_of (by assumption) (by repeat first | assumption | refine Mem.le.trans (by assumption) ?_)) F.lay3 rfl rfl rfl ?_ | refine X_load_osl rfl rfl rfl (by assumption) (by repeat first | exact Rem.here _ | exact Rem.two | apply Rem.skip | apply Rem.over) (by first | exact row_map (by omega) | exact List.getElem?_eq_getElem (by omega) | exact rfl | exact row_map (by first | (simp; done) | (simp; omega))) F.lay3 rfl rfl rfl ?_ | refine X_load_cell rfl rfl rfl (by repeat first | exact List.Mem.head _ | refine List.Mem.tail _ ?_ | refine List.mem_append_right _ ?_) F.lay3 (by first | exact id_at (by first | omega | decide) | exact arr_at (by first | omega | decide)) rfl ?_
          refine X_move rfl rfl rfl rfl ?_
          refine X_move rfl rfl rfl rfl ?_
          refine X_indexAddr rfl rfl rfl rfl F.elem22 (by first | rfl | exact (Int.toNat_of_nonneg (by omega)).symm) (by first | omega | (simp; done) | (simp; omega)) (by first | exact ⟨_, _, rfl⟩ | assumption | exact SlM.plain (by assumption) (by first | (simp; done) | (simp; omega)) | exact RdS.plain (by assumption) (by first | (simp; done) | (simp; omega)) | exact OSl.plain (by assumption) (by first | (simp; done) | (simp; omega))) rfl ?_
          first | refine X_load rfl rfl rfl (by repeat first | exact List.Mem.head _ | refine List.Mem.tail _ ?_ | refine List.mem_append_right _ ?_) F.lay3 rfl rfl rfl ?_ | refine X_load_el rfl rfl rfl (by first | assumption | exact SlM.mono (by assumption) (by assumption)) (by first | exact row_map (by omega) | exact List.getElem?_eq_getElem (by omega) | exact rfl | exact row_map (by first | (simp; done) | (simp; omega))) F.lay3 rfl rfl rfl ?_ | refine X_load_rd rfl rfl rfl (by assumption) (by first | exact row_map (by omega) | exact List.getElem?_eq_getElem (by omega) | exact rfl | exact row_map (by first | (simp; done) | (simp; omega))) F.lay3 rfl rfl rfl ?_ | refine X_load_mem rfl rfl rfl (by first | assumption | exact Mem.get_of (by assumption) (by repeat first | assumption | refine Mem.le.trans (by assumption) ?_)) F.lay3 rfl rfl rfl ?_ | refine X_load_osl rfl rfl rfl (by assumption) (by repeat first | exact Rem.here _ | exact Rem.two | apply Rem.skip | apply Rem.over) (by first | exact row_map (by omega) | exact List.getElem?_eq_getElem (by omega) | exact rfl | exact row_map (by first | (simp; done) | (simp; omega))) F.lay3 rfl rfl rfl ?_ | refine X_load_cell rfl rfl rfl (by repeat first | exact List.Mem.head _ | refine List.Mem.tail _ ?_ | refine List.mem_append_right _ ?_) F.lay3 (by first | exact id_at (by first | omega | decide) | exact arr_at (by first | omega | decide)) rfl ?_
          refine X_cmp rfl rfl rfl rfl rfl rfl ?_
          refine XD_end ?_
          refine K_then ?_
          refine C_cond rfl (fun hc3 => ?_) (fun hc3 => ?_)
          · first | replace hc3 := dT hc3 | replace hc3 := dF hc3 | replace hc3 := nT hc3 | replace hc3 := nF hc3 | skip
            try simp only [PeerV.eta] at hc3
            first
            | (exfalso; omega)
            | (exfalso; simp [eqX] at hc3; done)
            | contradiction
            | skip
              refine C_seq ?_
              refine C_region (l := [0]) rfl ?_
              refine X_assign rfl rfl rfl rfl ?_
              refine XD_end ?_
              refine K_then ?_
              refine C_ret ?_
              refine K_retB ?_
              refine K_ret ?_
              refine K_ret ?_
              refine K_retB ?_
              refine K_ret ?_
              refine K_end (.inr rfl) (.tmp rfl .nil) (fun w hw => ?_)
              refine ⟨_, rfl, (hw.cnt (by intro zz; first | exact Nat.le_refl _ | (simp only [cnt_app, cnt_cons, cnt_nil, cat, List.append_eq, List.append_assoc, List.cons_append, List.nil_append, List.append_nil]; omega) | (simp only [cnt_app, cnt_cons, cnt_nil, cat, List.append_eq, List.append_assoc, List.cons_append, List.nil_append, List.append_nil, PeerV.segs]; omega))), ?_⟩
              clear hw
              refine congrArg Value.bool ?_
              first | exact (decide_eq_false (fun h9 => by have := congrArg List.length h9; omega)).symm | exact (decide_eq_true (List.ext_getElem (by omega) (fun j h2 h3 => hI j h2 h3 (by omega)))).symm | exact (decide_eq_false (fun h9 => by subst h9; simp_all)).symm
          · first | replace hc3 := dT hc3 | replace hc3 := dF hc3 | replace hc3 := nT hc3 | replace hc3 := nF hc3 | skip
            try simp only [PeerV.eta] at hc3
            first
            | (exfalso; omega)
            | (exfalso; simp [eqX] at hc3; done)
            | contradiction
            | skip
              refine C_skip ?_
              refine K_out ?_
              refine K_then ?_
              refine C_region (l := [0, 1, 2]) rfl ?_
              refine X_move rfl rfl rfl rfl ?_
              refine X_ari rfl rfl rfl rfl rfl (by first | exact wrap_in (by decide) (by omega) | exact wrap_u64_in (by decide) (by omega) | exact wrap_u8_in (by decide) (by omega) | exact wrap_u32_in (by decide) (by omega) | exact wrap_u64 _ | exact wrap_u8 _ | exact wrap_u32 _ | exact rfl) rfl ?_
              refine X_assign rfl rfl rfl rfl ?_
              refine XD_end ?_
              refine K_roundS (a' := [(5, _)]) (k + 1) (.cons (k := 5) rfl (.cons (k := 4) rfl (.cons (k := 0) rfl (.cons (k := 1) rfl (.nil))))) (fun w hw => by first | exact hw | exact hw.cnt (by intro zz; first | exact Nat.le_refl _ | (simp only [cnt_app, cnt_cons, cnt_nil, cat, List.append_eq, List.append_assoc, List.cons_append, List.nil_append, List.append_nil]; omega) | (simp only [cnt_app, cnt_cons, cnt_nil, cat, List.append_eq, List.append_assoc, List.cons_append, List.nil_append, List.append_nil, PeerV.segs]; omega))) ?_ ?_
              · refine ⟨rfl, by omega, ?_⟩
                (intro j h2 h3 hj; rcases Nat.lt_or_ge j k with h9 | h9; exact hI j h2 h3 h9; obtain rfl : j = k := (by omega); simp_all)
              · omega
      · first | replace hc2 := dT hc2 | replace hc2 := dF hc2 | replace hc2 := nT hc2 | replace hc2 := nF hc2 | skip
        try simp only [PeerV.eta] at hc2
        first
        | (exfalso; omega)
        | (exfalso; simp [eqX] at hc2; done)
        | contradiction
        | skip
          refine C_exit ?_
          refine K_exit ?_
          refine K_exit ?_
          refine K_hit ?_
          refine K_then ?_
          refine C_pick (.cons (k := 4) rfl .nil) ?_
          refine C_seq ?_
          refine C_region (l := [0]) rfl ?_
          refine X_assign rfl rfl rfl rfl ?_
          refine XD_end ?_
          refine K_then ?_
          refine C_ret ?_
          refine K_end (.inr rfl) (.tmp rfl .nil) (fun w hw => ?_)
          refine ⟨_, rfl, (hw.cnt (by intro zz; first | exact Nat.le_refl _ | (simp only [cnt_app, cnt_cons, cnt_nil, cat, List.append_eq, List.append_assoc, List.cons_append, List.nil_append, List.append_nil]; omega) | (simp only [cnt_app, cnt_cons, cnt_nil, cat, List.append_eq, List.append_assoc, List.cons_append, List.nil_append, List.append_nil, PeerV.segs]; omega))), ?_⟩
          clear hw
          refine congrArg Value.bool ?_
          first | exact (decide_eq_false (fun h9 => by have := congrArg List.length h9; omega)).symm | exact (decide_eq_true (List.ext_getElem (by omega) (fun j h2 h3 => hI j h2 h3 (by omega)))).symm | exact (decide_eq_false (fun h9 => by subst h9; simp_all)).symm

theorem SameP_ok (M : Mem) (a : (Sl PeerV)) (b : (Sl PeerV)) (ha0 : SlK M PeerV.segs 21 a) (hb1 : SlK M PeerV.segs 21 b) : Fs Tryd.prog 11 [Sl.val a, Sl.val b] M (fun v => v = Value.bool (decide (a.l = b.l))) := by
  obtain ⟨a_a, a_c, a_l⟩ := a
  obtain ⟨b_a, b_c, b_l⟩ := b
  have k_a : SlK M PeerV.segs 21 ⟨a_a, a_c, a_l⟩ := ha0
  have s_a : SlM M a_a (a_l.map PeerV.segs) 21 := k_a.h1
  have n_a : (a_l.map PeerV.segs).length = a_l.length := List.length_map ..
  have m_a : a_l.length ≤ 9223372036854775807 := k_a.h2
  have c_a : a_l.length ≤ a_c := k_a.h3
  have k_b : SlK M PeerV.segs 21 ⟨b_a, b_c, b_l⟩ := hb1
  have s_b : SlM M b_a (b_l.map PeerV.segs) 21 := k_b.h1
  have n_b : (b_l.map PeerV.segs).length = b_l.length := List.length_map ..
  have m_b : b_l.length ≤ 9223372036854775807 := k_b.h2
  have c_b : b_l.length ≤ b_c := k_b.h3
  refine fs_enter Tryd.func11 rfl Tryd.ntmps11 rfl ?_; intro H
  refine C_seq ?_
  refine C_region (l := [0]) rfl ?_
  refine X_assign rfl rfl rfl rfl ?_
  refine XD_end ?_
  refine K_then ?_
  refine C_seq ?_
  refine C_seq ?_
  refine C_region (l := [0, 1, 2, 3, 4]) rfl ?_
  refine X_move rfl rfl rfl rfl ?_
  refine X_len_sl rfl rfl rfl rfl F.elem23 rfl ?_
  refine X_move rfl rfl rfl rfl ?_
  refine X_len_sl rfl rfl rfl rfl F.elem23 rfl ?_
  refine X_cmp rfl rfl rfl rfl rfl rfl ?_
  refine XD_end ?_
  refine K_then ?_
  refine C_pick (.cons (k := 10) rfl (.cons (k := 4) rfl (.cons (k := 0) rfl (.cons (k := 1) rfl .nil)))) ?_
  refine C_cond rfl (fun hc1 => ?_) (fun hc1 => ?_)
  · first | replace hc1 := dT hc1 | replace hc1 := dF hc1 | replace hc1 := nT hc1 | replace hc1 := nF hc1 | skip
    try simp only [PeerV.eta] at hc1
    first
    | (exfalso; omega)
    | (exfalso; simp [eqX] at hc1; done)
    | contradiction
    | skip
      refine C_seq ?_
      refine C_region (l := [0]) rfl ?_
      refine X_assign rfl rfl rfl rfl ?_
      refine XD_end ?_
      refine K_then ?_
      refine C_pick (.cons (k := 4) rfl (.cons (k := 0) rfl (.cons (k := 1) rfl .nil))) ?_
      refine C_ret ?_
      refine K_ret ?_
      refine K_end (.inr rfl) (.tmp rfl .nil) (fun w hw => ?_)
      refine ⟨_, rfl, (hw.cnt (by intro zz; first | exact Nat.le_refl _ | (simp only [cnt_app, cnt_cons, cnt_nil, cat, List.append_eq, List.append_assoc, List.cons_append, List.nil_append, List.append_nil]; omega) | (simp only [cnt_app, cnt_cons, cnt_nil, cat, List.append_eq, List.append_assoc, List.cons_append, List.nil_append, List.append_nil, PeerV.segs]; omega))), ?_⟩
      clear hw
      refine congrArg Value.bool ?_
      first | exact (decide_eq_false (fun h9 => by have := congrArg List.length h9; omega)).symm | exact (decide_eq_true (List.ext_getElem (by omega) (fun j h2 h3 => hI j h2 h3 (by omega)))).symm | exact (decide_eq_false (fun h9 => by subst h9; simp_all)).symm
  · first | replace hc1 := dT hc1 | replace hc1 := dF hc1 | replace hc1 := nT hc1 | replace hc1 := nF hc1 | skip
    try simp only [PeerV.eta] at hc1
    first
    | (exfalso; omega)
    | (exfalso; simp [eqX] at hc1; done)
    | contradiction
    | skip
      refine C_skip ?_
      refine K_then ?_
      refine C_pick (.cons (k := 4) rfl (.cons (k := 0) rfl (.cons (k := 1) rfl .nil))) ?_
      refine C_seq ?_
      refine C_seq ?_
      refine C_region (l := [0]) rfl ?_
      refine X_assign rfl rfl rfl rfl ?_
      refine XD_end ?_
      refine K_then ?_
      refine C_block ?_
      refine C_pick (.cons (k := 5) rfl (.cons (k := 4) rfl (.cons (k := 0) rfl (.cons (k := 1) rfl .nil)))) ?_
      refine C_loopS (.succ .zero) (fun (k : Nat) z => z = [(5, .int .i64 (k : Int))] ∧ k ≤ a_l.length ∧ (∀ j (h2 : j < a_l.length) (h3 : j < b_l.length), j < k → a_l[j] = b_l[j])) (fun k => a_l.length - k) (0) (⟨rfl, by omega, by (intro j h2 h3 hj; omega)⟩) ?_
      rintro k _ ⟨rfl, hk, hI⟩
      refine C_seq ?_
      refine C_seq ?_
      refine C_region (l := [0, 1, 2, 3]) rfl ?_
      refine X_move rfl rfl rfl rfl ?_
      refine X_move rfl rfl rfl rfl ?_
      refine X_len_sl rfl rfl rfl rfl F.elem23 rfl ?_
      refine X_cmp rfl rfl rfl rfl rfl rfl ?_
      refine XD_end ?_
      refine K_then ?_
      refine C_cond rfl (fun hc2 => ?_) (fun hc2 => ?_)
      · first | replace hc2 := dT hc2 | replace hc2 := dF hc2 | replace hc2 := nT hc2 | replace hc2 := nF hc2 | skip
        try simp only [PeerV.eta] at hc2
        first
        | (exfalso; omega)
        | (exfalso; simp [eqX] at hc2; done)
        | contradiction
        | skip
          refine C_skip ?_
          refine K_then ?_
          refine C_seq ?_
          refine C_block ?_
          refine C_seq ?_
          refine C_region_any (l := [0, 1, 2, 3, 4, 5, 6, 7, 8]) #[0, 0, 3, 7, 0, 0, 48, 112, 255] _ rfl (by kernel_rfl) (by kernel_rfl) St.drawn (fun _ h => h) ?_
          refine X_move rfl rfl rfl rfl ?_
          refine X_move rfl rfl rfl rfl ?_
          refine X_indexAddr rfl rfl rfl rfl F.elem23 (by first | rfl | exact (Int.toNat_of_nonneg (by omega)).symm) (by first | omega | (simp; done) | (simp; omega)) (by first | exact ⟨_, _, rfl⟩ | assumption | exact SlM.plain (by assumption) (by first | (simp; done) | (simp; omega)) | exact RdS.plain (by assumption) (by first | (simp; done) | (simp; omega)) | exact OSl.plain (by assumption) (by first | (simp; done) | (simp; omega))) rfl ?_
          first | refine X_load rfl rfl rfl (by repeat first | exact List.Mem.head _ | refine List.Mem.tail _ ?_ | refine List.mem_append_right _ ?_) F.lay38 rfl rfl rfl ?_ | refine X_load_el rfl rfl rfl (by first | assumption | exact SlM.mono (by assumption) (by assumption)) (by first | exact row_map (by omega) | exact List.getElem?_eq_getElem (by omega) | exact rfl | exact row_map (by first | (simp; done) | (simp; omega))) F.lay38 rfl rfl rfl ?_ | refine X_load_rd rfl rfl rfl (by assumption) (by first | exact row_map (by omega) | exact List.getElem?_eq_getElem (by omega) | exact rfl | exact row_map (by first | (simp; done) | (simp; omega))) F.lay38 rfl rfl rfl ?_ | refine X_load_mem rfl rfl rfl (by first | assumption | exact Mem.get_of (by assumption) (by repeat first | assumption | refine Mem.le.trans (by assumption) ?_)) F.lay38 rfl rfl rfl ?_ | refine X_load_osl rfl rfl rfl (by assumption) (by repeat first | exact Rem.here _ | exact Rem.two | apply Rem.skip | apply Rem.over) (by first | exact row_map (by omega) | exact List.getElem?_eq_getElem (by omega) | exact rfl | exact row_map (by first | (simp; done) | (simp; omega))) F.lay38 rfl rfl rfl ?_
          refine X_move rfl rfl rfl rfl ?_
          refine X_move rfl rfl rfl rfl ?_
          refine X_indexAddr rfl rfl rfl rfl F.elem23 (by first | rfl | exact (Int.toNat_of_nonneg (by omega)).symm) (by first | omega | (simp; done) | (simp; omega)) (by first | exact ⟨_, _, rfl⟩ | assumption | exact SlM.plain (by assumption) (by first | (simp; done) | (simp; omega)) | exact RdS.plain (by assumption) (by first | (simp; done) | (simp; omega)) | exact OSl.plain (by assumption) (by first | (simp; done) | (simp; omega))) rfl ?_
          first | refine X_load rfl rfl rfl (by repeat first | exact List.Mem.head _ | refine List.Mem.tail _ ?_ | refine List.mem_append_right _ ?_) F.lay38 rfl rfl rfl ?_ | refine X_load_el rfl rfl rfl (by first | assumption | exact SlM.mono (by assumption) (by assumption)) (by first | exact row_map (by omega) | exact List.getElem?_eq_getElem (by omega) | exact rfl | exact row_map (by first | (simp; done) | (simp; omega))) F.lay38 rfl rfl rfl ?_ | refine X_load_rd rfl rfl rfl (by assumption) (by first | exact row_map (by omega) | exact List.getElem?_eq_getElem (by omega) | exact rfl | exact row_map (by first | (simp; done) | (simp; omega))) F.lay38 rfl rfl rfl ?_ | refine X_load_mem rfl rfl rfl (by first | assumption | exact Mem.get_of (by assumption) (by repeat first | assumption | refine Mem.le.trans (by assumption) ?_)) F.lay38 rfl rfl rfl ?_ | refine X_load_osl rfl rfl rfl (by assumption) (by repeat first | exact Rem.here _ | exact Rem.two | apply Rem.skip | apply Rem.over) (by first | exact row_map (by omega) | exact List.getElem?_eq_getElem (by omega) | exact rfl | exact row_map (by first | (simp; done) | (simp; omega))) F.lay38 rfl rfl rfl ?_
          refine X_same (m := 20) rfl rfl rfl rfl rfl (by constructor) (by constructor) F.lay38 F.kinds38 rfl F.guard38 (by first | exact FitPeerV _ | exact FitPeerV (⟨_, _⟩) | (repeat first | exact trivial | exact rfl | refine And.intro ?_ ?_ | refine idFits _ ?_)) (by first | exact FitPeerV _ | exact FitPeerV (⟨_, _⟩) | (repeat first | exact trivial | exact rfl | refine And.intro ?_ ?_ | refine idFits _ ?_)) rfl rfl rfl ?_; intro c3 he4
          replace he4 : c3 = true ↔ ¬ (Segs.cells _ = Segs.cells _) := he4
          obtain rfl := neD he4 (PeerV.inj (x := ⟨_, _⟩) (y := ⟨_, _⟩)); clear he4
          refine XD_end ?_
          refine K_then ?_
          refine C_cond rfl (fun hc5 => ?_) (fun hc5 => ?_)
          · first | replace hc5 := dT hc5 | replace hc5 := dF hc5 | replace hc5 := nT hc5 | replace hc5 := nF hc5 | skip
            try simp only [PeerV.eta] at hc5
            first
            | (exfalso; omega)
            | (exfalso; simp [eqX] at hc5; done)
            | contradiction
            | skip
              refine C_seq ?_
              refine C_region (l := [0]) rfl ?_
              refine X_assign rfl rfl rfl rfl ?_
              refine XD_end ?_
              refine K_then ?_
              refine C_ret ?_
              refine K_retB ?_
              refine K_ret ?_
              refine K_ret ?_
              refine K_retB ?_
              refine K_ret ?_
              refine K_end (.inr rfl) (.tmp rfl .nil) (fun w hw => ?_)
              refine ⟨_, rfl, (hw.cnt (by intro zz; first | exact Nat.le_refl _ | (simp only [cnt_app, cnt_cons, cnt_nil, cat, List.append_eq, List.append_assoc, List.cons_append, List.nil_append, List.append_nil]; omega) | (simp only [cnt_app, cnt_cons, cnt_nil, cat, List.append_eq, List.append_assoc, List.cons_append, List.nil_append, List.append_nil, PeerV.segs]; omega))), ?_⟩
              clear hw
              refine congrArg Value.bool ?_
              first | exact (decide_eq_false (fun h9 => by have := congrArg List.length h9; omega)).symm | exact (decide_eq_true (List.ext_getElem (by omega) (fun j h2 h3 => hI j h2 h3 (by omega)))).symm | exact (decide_eq_false (fun h9 => by subst h9; simp_all)).symm
          · first | replace hc5 := dT hc5 | replace hc5 := dF hc5 | replace hc5 := nT hc5 | replace hc5 := nF hc5 | skip
            try simp only [PeerV.eta] at hc5
            first
            | (exfalso; omega)
            | (exfalso; simp [eqX] at hc5; done)
            | contradiction
            | skip
              refine C_skip ?_
              refine K_out ?_
              refine K_then ?_
              refine C_region (l := [0, 1, 2]) rfl ?_
              refine X_move rfl rfl rfl rfl ?_
              refine X_ari rfl rfl rfl rfl rfl (by first | exact wrap_in (by decide) (by omega) | exact wrap_u64_in (by decide) (by omega) | exact wrap_u8_in (by decide) (by omega) | exact wrap_u32_in (by decide) (by omega) | exact wrap_u64 _ | exact wrap_u8 _ | exact wrap_u32 _ | exact rfl) rfl ?_
              refine X_assign rfl rfl rfl rfl ?_
              refine XD_end ?_
              refine K_roundS (a' := [(5, _)]) (k + 1) (.cons (k := 5) rfl (.cons (k := 4) rfl (.cons (k := 0) rfl (.cons (k := 1) rfl (.nil))))) (fun w hw => by first | exact hw | exact hw.cnt (by intro zz; first | exact Nat.le_refl _ | (simp only [cnt_app, cnt_cons, cnt_nil, cat, List.append_eq, List.append_assoc, List.cons_append, List.nil_append, List.append_nil]; omega) | (simp only [cnt_app, cnt_cons, cnt_nil, cat, List.append_eq, List.append_assoc, List.cons_append, List.nil_append, List.append_nil, PeerV.segs]; omega))) ?_ ?_
              · refine ⟨rfl, by omega, ?_⟩
                (intro j h2 h3 hj; rcases Nat.lt_or_ge j k with h9 | h9; exact hI j h2 h3 h9; obtain rfl : j = k := (by omega); simp_all)
              · omega
      · first | replace hc2 := dT hc2 | replace hc2 := dF hc2 | replace hc2 := nT hc2 | replace hc2 := nF hc2 | skip
        try simp only [PeerV.eta] at hc2
        first
        | (exfalso; omega)
        | (exfalso; simp [eqX] at hc2; done)
        | contradiction
        | skip
          refine C_exit ?_
          refine K_exit ?_
          refine K_exit ?_
          refine K_hit ?_
          refine K_then ?_
          refine C_pick (.cons (k := 4) rfl .nil) ?_
          refine C_seq ?_
          refine C_region (l := [0]) rfl ?_
          refine X_assign rfl rfl rfl rfl ?_
          refine XD_end ?_
          refine K_then ?_
          refine C_ret ?_
          refine K_end (.inr rfl) (.tmp rfl .nil) (fun w hw => ?_)
          refine ⟨_, rfl, (hw.cnt (by intro zz; first | exact Nat.le_refl _ | (simp only [cnt_app, cnt_cons, cnt_nil, cat, List.append_eq, List.append_assoc, List.cons_append, List.nil_append, List.append_nil]; omega) | (simp only [cnt_app, cnt_cons, cnt_nil, cat, List.append_eq, List.append_assoc, List.cons_append, List.nil_append, List.append_nil, PeerV.segs]; omega))), ?_⟩
          clear hw
          refine congrArg Value.bool ?_
          first | exact (decide_eq_false (fun h9 => by have := congrArg List.length h9; omega)).symm | exact (decide_eq_true (List.ext_getElem (by omega) (fun j h2 h3 => hI j h2 h3 (by omega)))).symm | exact (decide_eq_false (fun h9 => by subst h9; simp_all)).symm

end Go.Proofs.YtbafnjniijodfaaDoor
/-
  SHA-1 over numbers, in plain Lean.
-/
set_option linter.unusedSimpArgs false
set_option linter.unusedVariables false
set_option linter.unnecessarySimpa false
namespace Go.Esp
def rotl (v n : Nat) : Nat := (v <<< n ||| v >>> (32 - n)) % 4294967296
def add32 (a b : Nat) : Nat := (a + b) % 4294967296
/-- A word of four bytes. -/
def word4 (a b c d : Nat) : Nat := ((a * 256 + b) * 256 + c) * 256 + d
/-- The words of some bytes, the last one first. -/
def words16 : List Nat → List Nat → List Nat
  | a :: b :: c :: d :: r, acc => words16 r (word4 a b c d :: acc)
  | _, acc => acc
/-- n more words. -/
def wordsMore : Nat → List Nat → List Nat
  | 0, w => w
  | n + 1, w => match w with
    | _ :: _ :: x3 :: _ :: _ :: _ :: _ :: x8 :: _ :: _ :: _ :: _ :: _ :: x14 :: _ :: x16 :: _ => wordsMore n (rotl (x3 ^^^ x8 ^^^ x14 ^^^ x16) 1 :: w)
    | _ => w
structure St5 where
  a : Nat
  b : Nat
  c : Nat
  d : Nat
  e : Nat
  deriving DecidableEq
def mixN (t b c d : Nat) : Nat :=
  if t < 20 then (b &&& c) ||| ((4294967295 ^^^ b) &&& d) else if t < 40 then b ^^^ c ^^^ d else if t < 60 then (b &&& c) ||| (b &&& d) ||| (c &&& d) else b ^^^ c ^^^ d
def addN (t : Nat) : Nat := if t < 20 then 0x5a827999 else if t < 40 then 0x6ed9eba1 else if t < 60 then 0x8f1bbcdc else 0xca62c1d6
def roundN (t : Nat) (s : St5) (w : Nat) : St5 := ⟨(rotl s.a 5 + mixN t s.b s.c s.d + s.e + addN t + w) % 4294967296, s.a, rotl s.b 30, s.c, s.d⟩
def roundsN : Nat → List Nat → St5 → St5
  | _, [], s => s
  | t, w :: ws, s => roundsN (t + 1) ws (roundN t s w)
def stepN (h : St5) (block : List Nat) : St5 :=
  let s := roundsN 0 (wordsMore 64 (words16 block [])).reverse h
  ⟨add32 h.a s.a, add32 h.b s.b, add32 h.c s.c, add32 h.d s.d, add32 h.e s.e⟩
def start5 : St5 := ⟨0x67452301, 0xefcdab89, 0x98badcfe, 0x10325476, 0xc3d2e1f0⟩
def blocksN : Nat → List Nat → St5 → St5
  | 0, _, h => h
  | n + 1, l, h => match l with
    | [] => h
    | _ => blocksN n (l.drop 64) (stepN h (l.take 64))
def padN (s : List Nat) : List Nat :=
  s ++ 128 :: (List.replicate ((119 - s.length % 64) % 64) 0 ++ (List.range 8).map fun i => (8 * s.length) / 256 ^ (7 - i) % 256)
def sumN (s : List Nat) : Nat :=
  let h := blocksN (s.length / 64 + 2) (padN s) start5
  (((h.a * 4294967296 + h.b) * 4294967296 + h.c) * 4294967296 + h.d) * 4294967296 + h.e
def digitsN (n : Nat) : List Nat := if n < 10 then [48 + n] else if n < 100 then [48 + n / 10, 48 + n % 10] else [48 + n / 100, 48 + n / 10 % 10, 48 + n % 10]
def nodeN (n : Nat) : Nat := sumN (110 :: 111 :: 100 :: 101 :: digitsN n)

/-! Bits of words. -/
theorem ofInt_nat {n a : Nat} : BitVec.ofInt n (a : Int) = BitVec.ofNat n a := by
  apply BitVec.eq_of_toInt_eq; simp
theorem u32_of {a : Nat} (h : a < 4294967296) : IntKind.wrap .u32 (a : Int) = (a : Int) := by
  rw [wrap_u32]; unfold w32; omega
theorem or32 {a b : Nat} (ha : a < 4294967296) (hb : b < 4294967296) : bitsK .or .u32 (a : Int) (b : Int) = some ((a ||| b : Nat) : Int) := by
  have h := Nat.or_lt_two_pow (n := 32) (x := a) (y := b) (by simpa using ha) (by simpa using hb)
  show some (IntKind.wrap .u32 ((BitVec.ofInt 32 (a : Int) ||| BitVec.ofInt 32 (b : Int)).toNat : Int)) = _
  rw [ofInt_nat, ofInt_nat, BitVec.toNat_or, BitVec.toNat_ofNat, BitVec.toNat_ofNat, Nat.mod_eq_of_lt (by simpa using ha), Nat.mod_eq_of_lt (by simpa using hb), u32_of (by simpa using h)]
theorem and32 {a b : Nat} (ha : a < 4294967296) (hb : b < 4294967296) : bitsK .and .u32 (a : Int) (b : Int) = some ((a &&& b : Nat) : Int) := by
  have h := Nat.and_lt_two_pow (n := 32) a (y := b) (by simpa using hb)
  show some (IntKind.wrap .u32 ((BitVec.ofInt 32 (a : Int) &&& BitVec.ofInt 32 (b : Int)).toNat : Int)) = _
  rw [ofInt_nat, ofInt_nat, BitVec.toNat_and, BitVec.toNat_ofNat, BitVec.toNat_ofNat, Nat.mod_eq_of_lt (by simpa using ha), Nat.mod_eq_of_lt (by simpa using hb), u32_of (by simpa using h)]
theorem xor32 {a b : Nat} (ha : a < 4294967296) (hb : b < 4294967296) : bitsK .xor .u32 (a : Int) (b : Int) = some ((a ^^^ b : Nat) : Int) := by
  have h := Nat.xor_lt_two_pow (n := 32) (x := a) (y := b) (by simpa using ha) (by simpa using hb)
  show some (IntKind.wrap .u32 ((BitVec.ofInt 32 (a : Int) ^^^ BitVec.ofInt 32 (b : Int)).toNat : Int)) = _
  rw [ofInt_nat, ofInt_nat, BitVec.toNat_xor, BitVec.toNat_ofNat, BitVec.toNat_ofNat, Nat.mod_eq_of_lt (by simpa using ha), Nat.mod_eq_of_lt (by simpa using hb), u32_of (by simpa using h)]
theorem compl32 {a : Nat} (ha : a < 4294967296) : bitsK .xor .u32 (if IntKind.u32.signed then -1 else IntKind.u32.max) (a : Int) = some ((4294967295 ^^^ a : Nat) : Int) := by
  have : (if IntKind.u32.signed then (-1 : Int) else IntKind.u32.max) = ((4294967295 : Nat) : Int) := by decide
  rw [this]; exact xor32 (by decide) ha
theorem lt_or {a b : Nat} (ha : a < 4294967296) (hb : b < 4294967296) : a ||| b < 4294967296 := by
  have h := Nat.or_lt_two_pow (n := 32) (x := a) (y := b) (by simpa using ha) (by simpa using hb); simpa using h
theorem lt_and {a b : Nat} (hb : b < 4294967296) : a &&& b < 4294967296 := by
  have h := Nat.and_lt_two_pow (n := 32) a (y := b) (by simpa using hb); simpa using h
theorem lt_xor {a b : Nat} (ha : a < 4294967296) (hb : b < 4294967296) : a ^^^ b < 4294967296 := by
  have h := Nat.xor_lt_two_pow (n := 32) (x := a) (y := b) (by simpa using ha) (by simpa using hb); simpa using h
theorem rotl_lt (v n : Nat) : rotl v n < 4294967296 := Nat.mod_lt _ (by decide)
theorem rotl_is {v n : Nat} (hv : v < 4294967296) (hn : n ≤ 32) : (v * 2 ^ n % 4294967296) ||| (v / 2 ^ (32 - n)) = rotl v n := by
  unfold rotl
  rw [Nat.shiftLeft_eq, Nat.shiftRight_eq_div_pow, show (4294967296 : Nat) = 2 ^ 32 from rfl, Nat.or_mod_two_pow]
  congr 1
  refine (Nat.mod_eq_of_lt ?_).symm
  exact Nat.lt_of_le_of_lt (Nat.div_le_self _ _) (by simpa using hv)
theorem and31 {n : Nat} (h : n < 32) : bitsK .and .u64 (n : Int) 31 = some (n : Int) := by
  have : ∀ x : Fin 32, bitsK .and .u64 ((x.val : Nat) : Int) 31 = some ((x.val : Nat) : Int) := by decide +kernel
  exact this ⟨n, h⟩
theorem shl32 {v n : Nat} (hn : n ≤ 32) : shiftK .shl .u32 (v : Int) (n : Int) = some ((v * 2 ^ n % 4294967296 : Nat) : Int) := by
  simp only [shiftK, Int.toNat_natCast, IntKind.bits, Nat.min_eq_left hn, wrap_u32]
  unfold w32
  rw [show ((v : Int) * 2 ^ n) = ((v * 2 ^ n : Nat) : Int) by simp]
  refine congrArg some ?_
  omega
theorem shr32 {v n : Nat} (hn : n ≤ 32) : shiftK .shr .u32 (v : Int) (n : Int) = some ((v / 2 ^ n : Nat) : Int) := by
  rw [shr_lit n (by simpa [IntKind.bits] using hn)]
  simp
end Go.Esp
/-
  Bits of words.
-/
set_option linter.unusedSimpArgs false
set_option linter.unusedVariables false
set_option linter.unnecessarySimpa false
set_option maxRecDepth 8000
set_option maxHeartbeats 1000000
namespace Go.Proofs.YtbafnjniijodfaaDoor
open Go.Esp


theorem Rotl_ok (M : Mem) (x : Nat) (n : Nat) (hv : x < 4294967296) (hn : n < 32) : Fs Tryd.prog 61 [.int .u32 ((x : Nat) : Int), .int .i64 (n : Int)] M (fun v => v = Value.int .u32 (((rotl x n : Nat) : Int))) := by
  refine fs_enter Tryd.func61 rfl Tryd.ntmps61 rfl ?_; intro H
  refine C_seq ?_
  refine C_region (l := [0]) rfl ?_
  refine X_assign rfl rfl rfl rfl ?_
  refine XD_end ?_
  refine K_then ?_
  refine C_seq ?_
  refine C_region (l := [0, 1, 2, 3]) rfl ?_
  refine X_move rfl rfl rfl rfl ?_
  refine X_conv rfl rfl rfl Tryd.underlying3 Tryd.underlying63 (by first | exact wrap_in (by decide) (by omega) | exact wrap_u64_in (by decide) (by omega) | exact wrap_u8_in (by decide) (by omega) | exact wrap_u32_in (by decide) (by omega) | exact wrap_u64 _ | exact wrap_u8 _ | exact wrap_u32 _ | exact rfl) rfl ?_
  refine X_bits rfl rfl rfl rfl (and31 hn) rfl rfl ?_
  refine X_assign rfl rfl rfl rfl ?_
  refine XD_end ?_
  refine K_then ?_
  refine C_pick (.cons (k := 5) rfl (.cons (k := 4) rfl (.cons (k := 0) rfl .nil))) ?_
  refine C_seq ?_
  refine C_region (l := [0, 1, 2, 3, 4, 5, 6, 7, 8]) rfl ?_
  refine X_move rfl rfl rfl rfl ?_
  refine X_move rfl rfl rfl rfl ?_
  refine X_shift rfl rfl rfl rfl (by omega) (shl32 (n := n) (by omega)) rfl rfl ?_
  refine X_move rfl rfl rfl rfl ?_
  refine X_move rfl rfl rfl rfl ?_
  refine X_ari rfl rfl rfl rfl rfl (by first | exact wrap_in (by decide) (by omega) | exact wrap_u64_in (by decide) (by omega) | exact wrap_u8_in (by decide) (by omega) | exact wrap_u32_in (by decide) (by omega) | exact wrap_u64 _ | exact wrap_u8 _ | exact wrap_u32 _ | exact rfl) rfl ?_
  rw [show (32 : Int) - (n : Int) = ((32 - n : Nat) : Int) by omega]
  refine X_shift rfl rfl rfl rfl (by omega) (shr32 (n := 32 - n) (by omega)) rfl rfl ?_
  refine X_bits rfl rfl rfl rfl (or32 (Nat.mod_lt _ (by decide)) (Nat.lt_of_le_of_lt (Nat.div_le_self _ _) hv)) rfl rfl ?_
  refine X_assign rfl rfl rfl rfl ?_
  refine XD_end ?_
  refine K_then ?_
  refine C_pick (.cons (k := 4) rfl .nil) ?_
  refine C_ret ?_
  refine K_end (.inr rfl) (.tmp rfl .nil) (fun w hw => ?_)
  refine ⟨_, rfl, (hw.cnt (by intro zz; first | exact Nat.le_refl _ | (simp only [cnt_app, cnt_cons, cnt_nil, cat, List.append_eq, List.append_assoc, List.cons_append, List.nil_append, List.append_nil]; omega) | (simp only [cnt_app, cnt_cons, cnt_nil, cat, List.append_eq, List.append_assoc, List.cons_append, List.nil_append, List.append_nil, PeerV.segs]; omega))), ?_⟩
  clear hw
  refine congrArg (fun x : Nat => Value.int .u32 (x : Int)) (rotl_is hv (by omega))

theorem choose_ok (M : Mem) (b : Nat) (c : Nat) (d : Nat) (hb : b < 4294967296) (hc : c < 4294967296) (hd : d < 4294967296) : Fs Tryd.prog 83 [.int .u32 ((b : Nat) : Int), .int .u32 ((c : Nat) : Int), .int .u32 ((d : Nat) : Int)] M (fun v => v = Value.int .u32 ((((b &&& c) ||| ((4294967295 ^^^ b) &&& d) : Nat) : Int))) := by
  refine fs_enter Tryd.func83 rfl Tryd.ntmps83 rfl ?_; intro H
  refine C_seq ?_
  refine C_region (l := [0]) rfl ?_
  refine X_assign rfl rfl rfl rfl ?_
  refine XD_end ?_
  refine K_then ?_
  refine C_seq ?_
  refine C_region (l := [0, 1, 2, 3, 4, 5, 6, 7, 8]) rfl ?_
  refine X_move rfl rfl rfl rfl ?_
  refine X_move rfl rfl rfl rfl ?_
  refine X_bits rfl rfl rfl rfl (and32 hb hc) rfl rfl ?_
  refine X_move rfl rfl rfl rfl ?_
  refine X_compl rfl rfl rfl (compl32 hb) rfl rfl ?_
  refine X_move rfl rfl rfl rfl ?_
  refine X_bits rfl rfl rfl rfl (and32 (lt_xor (by decide) hb) hd) rfl rfl ?_
  refine X_bits rfl rfl rfl rfl (or32 (lt_and hc) (lt_and hd)) rfl rfl ?_
  refine X_assign rfl rfl rfl rfl ?_
  refine XD_end ?_
  refine K_then ?_
  refine C_pick (.cons (k := 6) rfl .nil) ?_
  refine C_ret ?_
  refine K_end (.inr rfl) (.tmp rfl .nil) (fun w hw => ?_)
  refine ⟨_, rfl, (hw.cnt (by intro zz; first | exact Nat.le_refl _ | (simp only [cnt_app, cnt_cons, cnt_nil, cat, List.append_eq, List.append_assoc, List.cons_append, List.nil_append, List.append_nil]; omega) | (simp only [cnt_app, cnt_cons, cnt_nil, cat, List.append_eq, List.append_assoc, List.cons_append, List.nil_append, List.append_nil, PeerV.segs]; omega))), ?_⟩
  clear hw
  rfl

theorem unlike_ok (M : Mem) (b : Nat) (c : Nat) (d : Nat) (hb : b < 4294967296) (hc : c < 4294967296) (hd : d < 4294967296) : Fs Tryd.prog 84 [.int .u32 ((b : Nat) : Int), .int .u32 ((c : Nat) : Int), .int .u32 ((d : Nat) : Int)] M (fun v => v = Value.int .u32 (((b ^^^ c ^^^ d : Nat) : Int))) := by
  refine fs_enter Tryd.func84 rfl Tryd.ntmps84 rfl ?_; intro H
  refine C_seq ?_
  refine C_region (l := [0]) rfl ?_
  refine X_assign rfl rfl rfl rfl ?_
  refine XD_end ?_
  refine K_then ?_
  refine C_seq ?_
  refine C_region (l := [0, 1, 2, 3, 4, 5]) rfl ?_
  refine X_move rfl rfl rfl rfl ?_
  refine X_move rfl rfl rfl rfl ?_
  refine X_bits rfl rfl rfl rfl (xor32 hb hc) rfl rfl ?_
  refine X_move rfl rfl rfl rfl ?_
  refine X_bits rfl rfl rfl rfl (xor32 (lt_xor hb hc) hd) rfl rfl ?_
  refine X_assign rfl rfl rfl rfl ?_
  refine XD_end ?_
  refine K_then ?_
  refine C_pick (.cons (k := 6) rfl .nil) ?_
  refine C_ret ?_
  refine K_end (.inr rfl) (.tmp rfl .nil) (fun w hw => ?_)
  refine ⟨_, rfl, (hw.cnt (by intro zz; first | exact Nat.le_refl _ | (simp only [cnt_app, cnt_cons, cnt_nil, cat, List.append_eq, List.append_assoc, List.cons_append, List.nil_append, List.append_nil]; omega) | (simp only [cnt_app, cnt_cons, cnt_nil, cat, List.append_eq, List.append_assoc, List.cons_append, List.nil_append, List.append_nil, PeerV.segs]; omega))), ?_⟩
  clear hw
  rfl

theorem most_ok (M : Mem) (b : Nat) (c : Nat) (d : Nat) (hb : b < 4294967296) (hc : c < 4294967296) (hd : d < 4294967296) : Fs Tryd.prog 85 [.int .u32 ((b : Nat) : Int), .int .u32 ((c : Nat) : Int), .int .u32 ((d : Nat) : Int)] M (fun v => v = Value.int .u32 ((((b &&& c) ||| (b &&& d) ||| (c &&& d) : Nat) : Int))) := by
  refine fs_enter Tryd.func85 rfl Tryd.ntmps85 rfl ?_; intro H
  refine C_seq ?_
  refine C_region (l := [0]) rfl ?_
  refine X_assign rfl rfl rfl rfl ?_
  refine XD_end ?_
  refine K_then ?_
  refine C_seq ?_
  refine C_region (l := [0, 1, 2, 3, 4, 5, 6, 7, 8, 9, 10, 11]) rfl ?_
  refine X_move rfl rfl rfl rfl ?_
  refine X_move rfl rfl rfl rfl ?_
  refine X_bits rfl rfl rfl rfl (and32 hb hc) rfl rfl ?_
  refine X_move rfl rfl rfl rfl ?_
  refine X_move rfl rfl rfl rfl ?_
  refine X_bits rfl rfl rfl rfl (and32 hb hd) rfl rfl ?_
  refine X_bits rfl rfl rfl rfl (or32 (lt_and hc) (lt_and hd)) rfl rfl ?_
  refine X_move rfl rfl rfl rfl ?_
  refine X_move rfl rfl rfl rfl ?_
  refine X_bits rfl rfl rfl rfl (and32 hc hd) rfl rfl ?_
  refine X_bits rfl rfl rfl rfl (or32 (lt_or (lt_and hc) (lt_and hd)) (lt_and hd)) rfl rfl ?_
  refine X_assign rfl rfl rfl rfl ?_
  refine XD_end ?_
  refine K_then ?_
  refine C_pick (.cons (k := 6) rfl .nil) ?_
  refine C_ret ?_
  refine K_end (.inr rfl) (.tmp rfl .nil) (fun w hw => ?_)
  refine ⟨_, rfl, (hw.cnt (by intro zz; first | exact Nat.le_refl _ | (simp only [cnt_app, cnt_cons, cnt_nil, cat, List.append_eq, List.append_assoc, List.cons_append, List.nil_append, List.append_nil]; omega) | (simp only [cnt_app, cnt_cons, cnt_nil, cat, List.append_eq, List.append_assoc, List.cons_append, List.nil_append, List.append_nil, PeerV.segs]; omega))), ?_⟩
  clear hw
  rfl

end Go.Proofs.YtbafnjniijodfaaDoor
/-
  More rules: strings put together, cut, copied into an array; bytes made a string; a part of an array.
-/

set_option linter.unusedSimpArgs false
set_option linter.unusedVariables false
set_option linter.unnecessarySimpa false
namespace Go.Esp
section
variable {P : Program} {n : Sh} {ops : Array Oper} {Q : Exit → Act → World → Prop} {rest : List Nat} {M M' : Mem} {H H' H0 : Hp} {e : Env} {J S : World → Prop} {A : As} {i : Nat}
  {dst : Option Tmp} {d : Tmp} {op : Op} {ty : TypeId} {pos : String} {af : Array Edge} {gd : Option (Nat × Bool)}

theorem X_cat {t t' : TypeId} {x y : Operand} {a b c : ByteArray} (hi : ops[i]? = some ⟨some d, .binOp .add t x y t', ty, pos, af, gd⟩) (hg : want ops e gd = some true)
    (hx : ev e x = some (.string a)) (hy : ev e y = some (.string b)) (hn : a.size + b.size ≤ 9223372036854775807) (hc : a ++ b = c) (hd : Nat.ble (d + 1) n.sz = true)
    (hk : XD P n ops Q rest J A ((d, .string c) :: e)) : XD P n ops Q (i :: rest) J A e :=
  X_pure hi rfl hg (fun a' w ha => runs_of (by
    subst hc
    simp only [execOp, ha.ev hx, ha.ev hy]
    refine run_v ?_
    have h9 : ¬ (((a.size + b.size : Nat) : Int) > IntKind.i64.max) := by
      rw [show IntKind.i64.max = (9223372036854775807 : Int) by decide]; omega
    rw [Sem.run_bind]
    simp only [eqGuard, binOp, Op.stringOp, if_neg h9]
    rfl)) (fun a ha => ha.put hd _) hk

theorem run_bounds {a' : Act} {w : World} {lo hi : Option Operand} {olo ohi : Option Nat} {l c : Nat} {isS : Bool} (ha : Sat n e a') (h1 : Bnd e lo olo) (h2 : Bnd e hi ohi) (hlc : l ≤ c) (hh : ohi.getD l ≤ c) (hl : olo.getD 0 ≤ ohi.getD l) :
    (Instr.sliceBounds isS l c (lo.map a'.eval) (hi.map a'.eval) none).run P w = .ok (olo.getD 0, ohi.getD l, c) w := by
  unfold Instr.sliceBounds
  simp only []
  rw [run_bind_ok (show (pure c : Sem Nat).run P w = .ok c w from rfl)]
  cases h2 with
  | none =>
    simp only [Option.map_none, Option.getD_none] at hh hl ⊢
    rw [run_bind_ok (show (pure l : Sem Nat).run P w = .ok l w from rfl)]
    cases h1 with
    | none => rfl
    | some hz hzk =>
      subst hzk
      simp only [Option.map_some, ha.ev hz, Option.getD_some] at hl ⊢
      rw [run_bind_ok (run_sliceBound hl)]; rfl
  | some hy hyk =>
    subst hyk
    simp only [Option.map_some, ha.ev hy, Option.getD_some] at hh hl ⊢
    rw [run_bind_ok (run_sliceBound hh)]
    cases h1 with
    | none => rfl
    | some hz hzk =>
      subst hzk
      simp only [Option.map_some, ha.ev hz, Option.getD_some] at hl ⊢
      rw [run_bind_ok (run_sliceBound hl)]; rfl

theorem X_slice_str {t : TypeId} {x : Operand} {lo hi : Option Operand} {olo ohi : Option Nat} {s c : ByteArray} (hi' : ops[i]? = some ⟨some d, .slice t x lo hi none, ty, pos, af, gd⟩) (hg : want ops e gd = some true)
    (hx : ev e x = some (.string s)) (h1 : Bnd e lo olo) (h2 : Bnd e hi ohi) (hu : P.underlying t = some .string) (hh : ohi.getD s.size ≤ s.size) (hl : olo.getD 0 ≤ ohi.getD s.size) (hc : s.extract (olo.getD 0) (ohi.getD s.size) = c) (hd : Nat.ble (d + 1) n.sz = true)
    (hk : XD P n ops Q rest J A ((d, .string c) :: e)) : XD P n ops Q (i :: rest) J A e :=
  X_pure hi' rfl hg (fun a' w ha => runs_of (by
    subst hc
    simp only [execOp]
    refine run_v ?_
    unfold Instr.sliceAt
    rw [run_bind_ok (run_underlying' hu)]
    simp only [ha.ev hx]
    unfold Instr.slice
    rw [run_bind_ok (run_underlying' hu)]
    simp only [Option.map_none, Option.isSome_none, Bool.false_eq_true, if_false]
    have hb := run_bounds (P := P) (w := w) (isS := false) ha h1 h2 (Nat.le_refl s.size) hh hl
    rw [run_bind_ok hb]
    rfl)) (fun a ha => ha.put hd _) hk

theorem X_slice_arrB {t el b off len : Nat} {x : Operand} {lo hi : Option Operand} {olo ohi : Option Nat} {v : Value} (hi' : ops[i]? = some ⟨some d, .slice t x lo hi none, ty, pos, af, gd⟩) (hg : want ops e gd = some true)
    (hx : ev e x = some (.pointer (some ⟨b, off, none⟩))) (h1 : Bnd e lo olo) (h2 : Bnd e hi ohi) (ht : arOf P t = some (len, el)) (hh : ohi.getD len ≤ len) (hl : olo.getD 0 ≤ ohi.getD len)
    (hv : pieceV (some ⟨b, off, none⟩) 1 (olo.getD 0) (ohi.getD len) len = v) (hd : Nat.ble (d + 1) n.sz = true)
    (hK : XD P n ops Q rest J A ((d, v) :: e)) : XD P n ops Q (i :: rest) J A e :=
  X_pure hi' rfl hg (fun a' w ha => runs_of (by
    subst hv
    simp only [execOp, ha.ev hx]
    refine run_v ?_
    obtain ⟨it, hu, hit, h9⟩ := arOf_spec ht
    unfold Instr.sliceAt
    rw [run_bind_ok (run_underlying' hu)]
    simp only [Option.map_none]
    have hb := run_bounds (P := P) (w := w) (isS := false) ha h1 h2 (Nat.le_refl len) hh hl
    rw [run_bind_ok (show (Instr.sureAddr (.pointer (some ⟨b, off, none⟩))).run P w = .ok ⟨b, off, none⟩ w from rfl), run_bind_ok hb, run_bind_ok (run_sizeOf' hit)]
    simp only [h9]
    unfold pieceV
    split <;> rfl)) (fun a ha => ha.put hd _) hK

/-- The bytes of a string, as values. -/
def byteVs (s : ByteArray) : List Value := s.data.toList.map fun b => .int .u8 (b.toNat : Int)

/-- copy of a string into a whole array of ours. -/
theorem X_copyS {t t' E by_ : Nat} {x y : Operand} {s : ByteArray} {b m T : Nat} {r u : Segs} {ats : Array TypeId} (hi : ops[i]? = some ⟨some d, .call ⟨.builtin .copy, #[x, y], ats⟩, ty, pos, af, gd⟩) (hg : want ops e gd = some true)
    (hx : ev e x = some (.slice (some ⟨b, 0, Option.none⟩) m m)) (hy : ev e y = some (.string s)) (hat : ats = #[t, t']) (ht : slOf P t = some (E, 1, by_)) (hs : s.size = m)
    (hu : Upd b (rowO r T) (rowO u T) H H') (hr : (Segs.cells r).length = m) (hc : Segs.cells u = byteVs s) (hd : Nat.ble (d + 1) n.sz = true)
    (hk : XD P n ops Q rest (St M H') ⟨M, H'⟩ ((d, .int .i64 (m : Int)) :: e)) (hnw : n.wrs.contains i = false := by rfl) : XD P n ops Q (i :: rest) J ⟨M, H⟩ e := by
  subst hat
  refine X_mut hi rfl hg (fun a w ha hw => ?_) hnw
  obtain ⟨it, hun, hit, hsz, rfl⟩ := elemOf_spec ht
  have hb := hw.own _ _ hu.mem
  have hcl : (byteVs s).length = m := by
    unfold byteVs
    rw [List.length_map, Array.length_toList]; exact hs
  have hstore := run_storeCells_at P b 0 T (byteVs s) 0 (Segs.cells r).toArray w hb (by simp; omega) (fun v hv => by
    obtain ⟨b9, -, rfl⟩ := List.mem_map.1 hv; rfl)
  have e1 : (List.take 0 (Segs.cells r) ++ byteVs s ++ List.drop (0 + (byteVs s).length) (Segs.cells r)) = Segs.cells u := by
    rw [hc, List.take_zero, List.nil_append, Nat.zero_add, List.drop_eq_nil_of_le (by omega), List.append_nil]
  have hrun : (Builtin.copy_ #[t, t'] ty #[.slice (some ⟨b, 0, Option.none⟩) m m, .string s]).run P w = .ok (goInt m) (w.setRow b (Segs.cells u).toArray) := by
    have e9 : Nat.min s.size m = m := by rw [hs]; exact Nat.min_self m
    have e8 : ((s.extract 0 m).data.map fun b => Value.int .u8 (b.toNat : Int)).toList = byteVs s := by
      rw [← hs]; simp [byteVs]
    have h5 := hstore
    simp only [Nat.add_zero, List.append_assoc, Nat.zero_add] at h5
    simp [Builtin.copy_, run_underlying hun, Builtin.lenOf, Builtin.firstCells, sizeOf, typeInfo, hit, e9, hsz]
    have e7 : List.take m (List.map (fun b : UInt8 => Value.int .u8 (b.toNat : Int)) s.data.toList) = byteVs s := by
      show List.take m (byteVs s) = byteVs s
      exact List.take_of_length_le (by omega)
    rw [e7, h5]
    have e6 : List.take 0 (Segs.cells r) ++ (byteVs s ++ List.drop (byteVs s).length (Segs.cells r)) = Segs.cells u := by
      rw [← e1, Nat.zero_add, List.append_assoc]
    rw [e6]; rfl
  unfold Oper.does
  have : (execOp a.eval ⟨some d, .call ⟨.builtin .copy, #[x, y], #[t, t']⟩, ty, pos, af, gd⟩).run P w = .ok (.value (.int .i64 (m : Int))) (w.setRow b (Segs.cells u).toArray) := by
    simp only [execOp, resolve]
    simp only [invoke, builtin]
    have e1 : #[x, y].map a.eval = #[.slice (some ⟨b, 0, Option.none⟩) m m, .string s] := by simp [ha.ev hx, ha.ev hy]
    rw [e1]
    rw [Sem.run_bind]
    show (Result.ok _ w).andThen _ = _
    rw [Result.andThen_ok]
    exact run_v hrun
  rw [this]
  exact ⟨⟨M, H'⟩, _, hw.upd hu (setRow_heap w b _ _ T _ hb) (fun c hc z hz => by rw [setRow_other w b c _ hc]; exact hz) (SameIO.refl _), ha.put hd _, hk⟩
/-- A call of a function that a value names: no captures. -/
theorem X_fsV {f : FuncId} {g : Operand} {xs : List Operand} {ats : Array TypeId} {vs : List Value} {R : Value → Prop} (hi : ops[i]? = some ⟨some d, .call ⟨.value g, xs.toArray, ats⟩, ty, pos, af, gd⟩) (hcl : clOf P (.call ⟨.value g, xs.toArray, ats⟩) = .eff) (hg : want ops e gd = some true)
    (hf : okFn P f = true) (hgv : ev e g = some (.func (.func f) #[] #[])) (hx : evs e xs = some vs) (hc : Fs P f vs M R) (hd : Nat.ble (d + 1) n.sz = true)
    (hk : ∀ v, R v → XD P n ops Q rest J ⟨M, H⟩ ((d, v) :: e)) : XD P n ops Q (i :: rest) J ⟨M, H⟩ e := by
  obtain ⟨fn, h1, h2, h3⟩ := okFn_spec hf
  refine X_eff hi hcl hg (fun a F w ha hw => does_callV (caps := []) h1 h2 h3 (ha.ev hgv) (by simpa using ha.evs hx) ?_)
  have := hc (F ++ H) w hw
  rw [List.append_nil]
  exact this.mono fun e' w' ⟨v, he, hs, hr⟩ => ⟨v, he, ⟨M, H⟩, _, hs, fun _ h => h, ha.put hd v, hk v hr⟩

/-- The address of an element of an array, the elements of which have some cells. -/
def arOfN (P : Program) (t : TypeId) : Option (Nat × TypeId × Nat) := match P.underlying t with
  | some (.array k el) => match P.info? el with
    | some i => some (k, el, i.size)
    | none => none
  | _ => none
theorem arOfN_spec {t el k sz : Nat} (h : arOfN P t = some (k, el, sz)) : ∃ i, P.underlying t = some (.array k el) ∧ P.info? el = some i ∧ i.size = sz := by
  unfold arOfN at h
  split at h
  · rename_i k' el' hu
    split at h
    · rename_i i hi
      cases h
      exact ⟨i, hu, hi, rfl⟩
    · cases h
  · cases h
theorem X_indexAddr_arrN {t el b off len k sz : Nat} {x ix : Operand} {q : IntKind} {z : Int} (hi : ops[i]? = some ⟨some d, .indexAddr t x ix, ty, pos, af, gd⟩) (hg : want ops e gd = some true)
    (hx : ev e x = some (.pointer (some ⟨b, off, none⟩))) (hix : ev e ix = some (.int q z)) (ht : arOfN P t = some (len, el, sz)) (hz : z = (k : Int)) (hk : k < len) (hd : Nat.ble (d + 1) n.sz = true)
    (hK : XD P n ops Q rest J A ((d, .pointer (some ⟨b, off + k * sz, none⟩)) :: e)) : XD P n ops Q (i :: rest) J A e :=
  X_pure hi rfl hg (fun a' w hA => runs_of (by
    simp only [execOp, hA.ev hx, hA.ev hix]
    refine run_v ?_
    obtain ⟨it, hu, hit, h1⟩ := arOfN_spec ht
    subst hz
    simp [Instr.indexAt, asIntOf, run_underlying hu, sizeOf, typeInfo, hit, hk, h1, Instr.sureAddr, Addr.add_lit])) (fun a ha => ha.put hd _) hK
/-- A row of bytes. -/
def u8R (n : Nat) : Segs := [.one (.int .u8 (n : Int))]
theorem u8_cells : ∀ l : List Nat, rowsCells (l.map u8R) = (l.map fun n : Nat => (n : Int)).map (Value.int .u8)
  | [] => rfl
  | x :: l => by
    have := u8_cells l
    show (Value.int .u8 (x : Int)) :: rowsCells (l.map u8R) = _
    rw [this]; rfl
/-- A row of bytes, as a string. -/
theorem X_convS {src dst' E by_ : Nat} {x : Operand} {u : Value} {l : List Nat} {s : ByteArray} {MJ : Mem} {HJ : Hp} (hi : ops[i]? = some ⟨some d, .convert src dst' x, ty, pos, af, gd⟩) (hg : want ops e gd = some true)
    (hx : ev e x = some u) (hsrc : Src MJ HJ 1 u (l.map u8R)) (ht : slOf P src = some (E, 1, by_)) (he : P.underlying E = some (.int .u8)) (hd' : P.underlying dst' = some .string) (hs : strOfNums (l.map fun n : Nat => (n : Int)) = s) (hd : Nat.ble (d + 1) n.sz = true)
    (hk : XD P n ops Q rest (St MJ HJ) A ((d, .string s) :: e)) : XD P n ops Q (i :: rest) (St MJ HJ) A e := by
  obtain ⟨it, hun, hit, hsz, rfl⟩ := elemOf_spec ht
  have hcl : clOf P (.convert src dst' x) = .read := by simp [clOf, hun, hd']
  obtain ⟨hln, h1, ad, c2, rfl, hsr⟩ := hsrc
  refine X_read hi hcl hg (fun a w ha hw => runs_of ?_) (fun a ha => ha.put hd _) hk
  have hload := run_loadCells_list (P := P) w ad (rowsCells (l.map u8R)) (fun j v hj => hsr w hw j v hj)
  rw [u8_cells, List.length_map, List.length_map] at hload
  have hr : (convert src dst' (.slice (some ad) (l.map u8R).length c2)).run P w = .ok (.string s) w := by
    rw [run_convert_bytes_string w src dst' E _ _ c2 hun he hd', List.length_map, run_bytesToString w ad l.length c2 _ hload, foldl_push_bytes, ← hs]
    simp [strOfNums, ByteArray.empty, ByteArray.emptyWithCapacity]
    first | done | rfl
  simp only [execOp, ha.ev hx]
  exact run_v hr
end

/-- The bytes of a string, as numbers. -/
def natsOf (s : ByteArray) : List Nat := s.data.toList.map fun b => b.toNat
theorem natsOf_len (s : ByteArray) : (natsOf s).length = s.size := by
  unfold natsOf; rw [List.length_map, Array.length_toList]; rfl
theorem natsOf_lt (s : ByteArray) : ∀ b ∈ natsOf s, b < 256 := fun b hb => by
  obtain ⟨u, -, rfl⟩ := List.mem_map.1 hb
  exact u.toNat_lt
theorem getD_lt {B : List Nat} (h : ∀ b ∈ B, b < 256) (j : Nat) : B.getD j 0 < 256 := by
  rw [List.getD_eq_getElem?_getD]
  cases hg : B[j]? with
  | none => simp
  | some v => exact h v (List.mem_of_getElem? hg)
theorem byteVs_nats (s : ByteArray) : byteVs s = (natsOf s).map fun n => .int .u8 (n : Int) := by
  unfold byteVs natsOf; rw [List.map_map]; rfl
theorem byteVec (s : ByteArray) {m : Nat} (hs : s.size = m) : ∃ bv : Vector Value m, bv.toList = byteVs s :=
  ⟨⟨(byteVs s).toArray, by rw [List.size_toArray, byteVs_nats, List.length_map, natsOf_len, hs]⟩, rfl⟩
theorem byteCell {s : ByteArray} {m j : Nat} {bv : Vector Value m} (h : bv.toList = byteVs s) (hs : s.size = m) (hj : j < m) : (Segs.cells [.arr m bv])[j]? = some (.int .u8 (((natsOf s).getD j 0 : Nat) : Int)) := by
  rw [arr_cells, h, byteVs_nats, List.getElem?_map, List.getD_eq_getElem?_getD, List.getElem?_eq_getElem (by rw [natsOf_len]; omega)]
  rfl
theorem pieceV_at {b off lo hi m : Nat} (h : lo < m) : pieceV (some ⟨b, off, none⟩) 1 lo hi m = .slice (some ⟨b, off + lo, none⟩) (hi - lo) (m - lo) := by
  unfold pieceV
  rw [if_neg (by omega)]
  simp [Addr.add_lit]
/-- A row of words. -/
def u32R (n : Nat) : Segs := [.one (.int .u32 (n : Int))]
end Go.Esp
/-
  SHA-1's words, as they are written one by one; plain Lean.
-/
set_option linter.unusedSimpArgs false
set_option linter.unusedVariables false
set_option linter.unnecessarySimpa false
namespace Go.Esp
/-- The words of a block of bytes. -/
def wordsOf (B : List Nat) : List Nat := (wordsMore 64 (words16 B [])).reverse

/-- A row that is written from its front on. -/
def partW (V : List Nat) (t : Nat) : List Nat := V.take t ++ List.replicate (V.length - t) 0
theorem partW_len {V : List Nat} {t : Nat} (h : t ≤ V.length) : (partW V t).length = V.length := by unfold partW; simp; omega
theorem partW_get {V : List Nat} {t j : Nat} (hj : j < t) (h : t ≤ V.length) : (partW V t)[j]? = some (V[j]'(by omega)) := by
  unfold partW
  rw [List.getElem?_append_left (by simp; omega), List.getElem?_take_of_lt hj, List.getElem?_eq_getElem]
theorem partW_at {V : List Nat} {t : Nat} (h : t < V.length) : (partW V t)[t]? = some 0 := by
  unfold partW
  rw [List.getElem?_append_right (by simp; omega), List.getElem?_replicate, if_pos (by simp; omega)]
theorem partW_set {V : List Nat} {t : Nat} (h : t < V.length) : (partW V t).set t (V[t]) = partW V (t + 1) := by
  apply List.ext_getElem?
  intro j
  by_cases hj : j = t
  · subst hj
    rw [List.getElem?_set_self (by rw [partW_len (by omega)]; exact h), partW_get (by omega) (by omega)]
  · rw [List.getElem?_set_ne (by omega)]
    unfold partW
    rcases Nat.lt_or_ge j t with h1 | h1
    · rw [List.getElem?_append_left (by simp; omega), List.getElem?_append_left (by simp; omega), List.getElem?_take_of_lt h1, List.getElem?_take_of_lt (by omega)]
    · rw [List.getElem?_append_right (by simp; omega), List.getElem?_append_right (by simp; omega)]
      simp only [List.length_take, List.getElem?_replicate]
      rw [Nat.min_eq_left (by omega), Nat.min_eq_left (by omega)]
      by_cases h2 : j - t < V.length - t
      · rw [if_pos h2, if_pos (by omega)]
      · rw [if_neg h2, if_neg (by omega)]
theorem partW_set0 {V : List Nat} {t : Nat} (h : t < V.length) : (partW V t).set t 0 = partW V t := by
  apply List.ext_getElem?
  intro j
  by_cases hj : j = t
  · subst hj
    rw [List.getElem?_set_self (by rw [partW_len (by omega)]; exact h), partW_at h]
  · rw [List.getElem?_set_ne (by omega)]
theorem partW_zero {V : List Nat} : partW V 0 = List.replicate V.length 0 := by simp [partW]
theorem partW_all {V : List Nat} : partW V V.length = V := by simp [partW]

theorem wordsMore_step (n : Nat) (w : List Nat) (h : 16 ≤ w.length) : wordsMore (n + 1) w = wordsMore n (rotl (w.getD 2 0 ^^^ w.getD 7 0 ^^^ w.getD 13 0 ^^^ w.getD 15 0) 1 :: w) := by
  match w, h with
  | _ :: _ :: x3 :: _ :: _ :: _ :: _ :: x8 :: _ :: _ :: _ :: _ :: _ :: x14 :: _ :: x16 :: _, _ => rfl

theorem getD_rev {l : List Nat} {j : Nat} (h : j < l.length) : l.reverse.getD j 0 = l.getD (l.length - 1 - j) 0 := by
  simp only [List.getD_eq_getElem?_getD]
  rw [List.getElem?_reverse h]

theorem wordsMore_spec : ∀ (n : Nat) (w : List Nat), 16 ≤ w.length → (wordsMore n w).length = n + w.length ∧ (∀ t, t < w.length → (wordsMore n w).reverse.getD t 0 = w.reverse.getD t 0) ∧
    ∀ t, w.length ≤ t → t < n + w.length → (wordsMore n w).reverse.getD t 0 = rotl ((wordsMore n w).reverse.getD (t - 3) 0 ^^^ (wordsMore n w).reverse.getD (t - 8) 0 ^^^ (wordsMore n w).reverse.getD (t - 14) 0 ^^^ (wordsMore n w).reverse.getD (t - 16) 0) 1
  | 0, w, h => ⟨by simp [wordsMore], fun t _ => rfl, fun t h1 h2 => by omega⟩
  | n + 1, w, h => by
    rw [wordsMore_step n w h]
    generalize hx : rotl (w.getD 2 0 ^^^ w.getD 7 0 ^^^ w.getD 13 0 ^^^ w.getD 15 0) 1 = x
    obtain ⟨h1, h2, h3⟩ := wordsMore_spec n (x :: w) (by simp; omega)
    simp only [List.length_cons] at h1 h2 h3
    have hw : ∀ t, t < w.length → (wordsMore n (x :: w)).reverse.getD t 0 = w.reverse.getD t 0 := fun t ht => by
      rw [h2 t (by omega)]
      simp only [List.reverse_cons, List.getD_eq_getElem?_getD]
      rw [List.getElem?_append_left (by simpa using ht)]
    refine ⟨by omega, hw, fun t ht ht2 => ?_⟩
    rcases Nat.lt_or_ge w.length t with h9 | h9
    · exact h3 t h9 (by omega)
    · obtain rfl : t = w.length := by omega
      have e3 := hw (w.length - 3) (by omega)
      have e8 := hw (w.length - 8) (by omega)
      have e14 := hw (w.length - 14) (by omega)
      have e16 := hw (w.length - 16) (by omega)
      rw [getD_rev (l := w) (by omega), show w.length - 1 - (w.length - 3) = 2 by omega] at e3
      rw [getD_rev (l := w) (by omega), show w.length - 1 - (w.length - 8) = 7 by omega] at e8
      rw [getD_rev (l := w) (by omega), show w.length - 1 - (w.length - 14) = 13 by omega] at e14
      rw [getD_rev (l := w) (by omega), show w.length - 1 - (w.length - 16) = 15 by omega] at e16
      rw [e3, e8, e14, e16, hx, h2 _ (by omega), getD_rev (by simp)]
      simp

theorem words16_spec : ∀ (B acc : List Nat), (words16 B acc).length = B.length / 4 + acc.length ∧ (∀ t, t < acc.length → (words16 B acc).reverse.getD t 0 = acc.reverse.getD t 0) ∧
    ∀ t, 4 * t + 3 < B.length → (words16 B acc).reverse.getD (acc.length + t) 0 = word4 (B.getD (4 * t) 0) (B.getD (4 * t + 1) 0) (B.getD (4 * t + 2) 0) (B.getD (4 * t + 3) 0)
  | a :: b :: c :: d :: r, acc => by
    obtain ⟨h1, h2, h3⟩ := words16_spec r (word4 a b c d :: acc)
    simp only [List.length_cons] at h1 h2 h3
    have e : words16 (a :: b :: c :: d :: r) acc = words16 r (word4 a b c d :: acc) := rfl
    rw [e]
    refine ⟨by simp only [List.length_cons]; omega, fun t ht => ?_, fun t ht => ?_⟩
    · rw [h2 t (by omega)]
      simp only [List.reverse_cons, List.getD_eq_getElem?_getD]
      rw [List.getElem?_append_left (by simpa using ht)]
    · simp only [List.length_cons] at ht
      rcases t with _ | t
      · rw [h2 _ (by omega)]
        simp only [List.reverse_cons, List.getD_eq_getElem?_getD]
        rw [List.getElem?_append_right (by simp)]
        simp
      · have := h3 t (by omega)
        rw [show acc.length + 1 + t = acc.length + (t + 1) by omega] at this
        rw [this]
        simp [List.getD_eq_getElem?_getD, show 4 * (t + 1) = 4 * t + 4 by omega]
  | [], acc => ⟨by simp [words16], fun t _ => rfl, fun t h => by simp only [List.length_nil] at h; omega⟩
  | [a], acc => ⟨by simp [words16], fun t _ => rfl, fun t h => by simp only [List.length_cons, List.length_nil] at h; omega⟩
  | [a, b], acc => ⟨by simp [words16], fun t _ => rfl, fun t h => by simp only [List.length_cons, List.length_nil] at h; omega⟩
  | [a, b, c], acc => ⟨by simp [words16], fun t _ => rfl, fun t h => by simp only [List.length_cons, List.length_nil] at h; omega⟩

structure IsWords (B V : List Nat) : Prop where
  len : V.length = 80
  lo : ∀ t, (h : t < 16) → V[t]'(by omega) = word4 (B.getD (4 * t) 0) (B.getD (4 * t + 1) 0) (B.getD (4 * t + 2) 0) (B.getD (4 * t + 3) 0)
  hi : ∀ t, (h : 16 ≤ t) → (h2 : t < 80) → V[t]'(by omega) = rotl (V[t - 3]'(by omega) ^^^ V[t - 8]'(by omega) ^^^ V[t - 14]'(by omega) ^^^ V[t - 16]'(by omega)) 1

theorem wordsOf_is {B : List Nat} (h : B.length = 64) : IsWords B (wordsOf B) := by
  obtain ⟨a1, a2, a3⟩ := words16_spec B []
  obtain ⟨b1, b2, b3⟩ := wordsMore_spec 64 (words16 B []) (by simp at a1; omega)
  have hl : (wordsOf B).length = 80 := by unfold wordsOf; rw [List.length_reverse, b1, a1, h]; rfl
  have g : ∀ j, (hj : j < 80) → (wordsOf B)[j]'(by omega) = (wordsOf B).getD j 0 := fun j hj => by
    rw [List.getD_eq_getElem?_getD, List.getElem?_eq_getElem (by omega)]; rfl
  refine ⟨hl, fun t ht => ?_, fun t h1 h2 => ?_⟩
  · rw [g t (by omega)]
    unfold wordsOf
    rw [b2 t (by simp at a1; omega)]
    have := a3 t (by omega)
    simpa using this
  · rw [g t h2, g (t - 3) (by omega), g (t - 8) (by omega), g (t - 14) (by omega), g (t - 16) (by omega)]
    exact b3 t (by simp at a1; omega) (by simp at a1; omega)

/-- Some bytes of a word. -/
def bytesOf (B : List Nat) (t : Nat) : Nat → Nat
  | 0 => 0
  | k + 1 => bytesOf B t k * 256 + B.getD (4 * t + k) 0
theorem bytesOf_lt {B : List Nat} {t : Nat} (h : ∀ b ∈ B, b < 256) : ∀ k, bytesOf B t k < 256 ^ k
  | 0 => by simp [bytesOf]
  | k + 1 => by
    have := bytesOf_lt (t := t) h k
    have hb : B.getD (4 * t + k) 0 < 256 := by
      rw [List.getD_eq_getElem?_getD]
      cases hg : B[4 * t + k]? with
      | none => simp
      | some v => exact h v (List.mem_of_getElem? hg)
    unfold bytesOf
    rw [Nat.pow_succ]
    omega
theorem bytesOf_four (B : List Nat) (t : Nat) : bytesOf B t 4 = word4 (B.getD (4 * t) 0) (B.getD (4 * t + 1) 0) (B.getD (4 * t + 2) 0) (B.getD (4 * t + 3) 0) := by
  simp [bytesOf, word4]
theorem shl8_or {p c : Nat} (hp : p < 16777216) (hc : c < 256) : (p * 2 ^ 8 % 4294967296) ||| c = p * 256 + c := by
  rw [Nat.mod_eq_of_lt (by omega), ← Nat.shiftLeft_eq, ← Nat.shiftLeft_add_eq_or_of_lt (by simpa using hc), Nat.shiftLeft_eq]
theorem words_lt {B V : List Nat} (h : IsWords B V) (hB : ∀ b ∈ B, b < 256) (t : Nat) (ht : t < 80) : V[t]'(by have := h.len; omega) < 4294967296 := by
  rcases Nat.lt_or_ge t 16 with h1 | h1
  · rw [h.lo t h1, ← bytesOf_four]; exact bytesOf_lt hB 4
  · rw [h.hi t h1 ht]; exact rotl_lt _ _
/-- What words are, as a result. -/
def WordsE (M : Mem) (v : Value) (V : List Nat) : Prop := ∃ sl : Sl Nat, v = .tuple #[sl.val, .int .i64 0] ∧ sl.l = V ∧ SlK M u32R 1 sl
end Go.Esp
/-
  The words of a block.
-/
set_option linter.unusedSimpArgs false
set_option linter.unusedVariables false
set_option linter.unnecessarySimpa false
set_option maxRecDepth 8000
set_option maxHeartbeats 1000000
namespace Go.Proofs.YtbafnjniijodfaaDoor
open Go.Esp
theorem F.arr115 : arOf Tryd.prog 115 = some (64, 5) := by kernel_rfl
theorem F.elem65 : slOf Tryd.prog 65 = some (5, 1, 1) := by kernel_rfl
theorem F.elem81 : slOf Tryd.prog 81 = some (69, 1, 4) := by kernel_rfl
theorem F.lay69 : lay Tryd.prog 69 = some (false, 1) := by kernel_rfl
theorem F.ok61 : okFn Tryd.prog 61 = true := by kernel_rfl
theorem F.zero115 : zeroOf Tryd.prog 115 = some (aggV [.arr 64 (Vector.replicate 64 (.int .u8 0))]) := by kernel_rfl
theorem F.zero69 : zeroOf Tryd.prog 69 = some ((.int .u32 0)) := by kernel_rfl

theorem Words_ok (M : Mem) (s : ByteArray) (hs : s.size = 64) (V : List Nat) (hV : IsWords (natsOf s) V) : Esp.Fn Tryd.prog 59 [.string s] M (fun M' v => WordsE M' v V) := by
  have hl80 := hV.len
  have hB := natsOf_lt s
  obtain ⟨bv, hbv⟩ := byteVec s hs
  refine fn_enter Tryd.func59 rfl Tryd.ntmps59 rfl ?_; intro H
  refine C_seq ?_
  refine C_region (l := [0, 1]) rfl ?_
  refine X_assign rfl rfl rfl rfl ?_
  refine X_assign rfl rfl rfl rfl ?_
  refine XD_end ?_
  refine K_then ?_
  refine C_seq ?_
  refine C_seq ?_
  refine C_region (l := [0, 1, 2]) rfl ?_
  refine X_move rfl rfl rfl rfl ?_
  refine X_len_str rfl rfl rfl rfl Tryd.underlying9 rfl ?_
  refine X_cmp rfl rfl rfl rfl rfl rfl ?_
  refine XD_end ?_
  refine K_then ?_
  refine C_pick (.cons (k := 12) rfl (.cons (k := 3) rfl (.cons (k := 2) rfl (.cons (k := 0) rfl .nil)))) ?_
  refine C_cond rfl (fun hc1 => ?_) (fun hc1 => ?_)
  · first | replace hc1 := dT hc1 | replace hc1 := dF hc1 | replace hc1 := nT hc1 | replace hc1 := nF hc1 | skip
    try simp only [PeerV.eta] at hc1
    first | (exfalso; omega) | (exfalso; simp [eqX] at hc1; done) | contradiction
  · first | replace hc1 := dT hc1 | replace hc1 := dF hc1 | replace hc1 := nT hc1 | replace hc1 := nF hc1 | skip
    try simp only [PeerV.eta] at hc1
    first
    | (exfalso; omega)
    | (exfalso; simp [eqX] at hc1; done)
    | contradiction
    | skip
      refine C_skip ?_
      refine K_then ?_
      refine C_pick (.cons (k := 3) rfl (.cons (k := 2) rfl (.cons (k := 0) rfl .nil))) ?_
      refine C_seq ?_
      refine C_region (l := [0]) rfl ?_
      refine X_alloc rfl rfl F.zero115 (by constructor) rfl ?_; intro b2
      refine XD_end ?_
      refine K_then ?_
      refine C_seq ?_
      refine C_region (l := [0, 1, 2]) rfl ?_
      refine X_slice_arr rfl rfl rfl F.arr115 rfl ?_
      refine X_move rfl rfl rfl rfl ?_
      refine X_copyS (s := s) (u := [.arr 64 bv]) rfl rfl rfl rfl rfl F.elem65 hs (by repeat first | exact Upd.head | apply Upd.tail | apply Upd.over) (by rw [arr_cells]; simp) ((arr_cells bv).trans hbv) rfl ?_
      refine XD_end ?_
      refine K_then ?_
      refine C_pick (.cons (k := 4) rfl (.cons (k := 3) rfl (.cons (k := 2) rfl .nil))) ?_
      refine C_seq ?_
      refine C_region (l := [0, 1]) rfl ?_
      refine X_makeSliceO (k := 80) (zr := u32R 0) rfl rfl rfl rfl F.elem81 F.zero69 rfl rfl rfl (by decide) (by decide) rfl ?_; intro b2 hs1 ho1
      refine X_assign rfl rfl rfl rfl ?_
      refine XD_end ?_
      refine K_then ?_
      refine C_pick (.cons (k := 5) rfl (.cons (k := 4) rfl (.cons (k := 3) rfl (.cons (k := 2) rfl .nil)))) ?_
      refine C_seq ?_
      refine C_seq ?_
      refine C_region (l := [0]) rfl ?_
      refine X_move rfl rfl rfl rfl ?_
      refine XD_end ?_
      refine K_then ?_
      refine C_block ?_
      refine C_pick (.cons (k := 17) rfl (.cons (k := 5) rfl (.cons (k := 4) rfl (.cons (k := 3) rfl (.cons (k := 2) rfl .nil))))) ?_
      refine C_loopO (Hin := hs1) (.succ .zero) (by repeat first | exact Rem.here _ | exact Rem.two | apply Rem.skip | apply Rem.over) (fun (k : Nat) M1 h1 z => M1 = M ∧ z = [(17, .int .i64 (k : Int))] ∧ k ≤ 16 ∧ OSl 69 1 (.slice (some ⟨b2, 0, none⟩) 80 80) h1 ((partW V (k)).map u32R)) (fun k => 16 - k) (0) (⟨rfl, rfl, by omega, by rw [partW_zero, hV.len, List.map_replicate]; exact ho1⟩) ?_
      rintro k M1 h1 z hm1 ⟨hM1, rfl, hk, ho⟩
      subst hM1
      refine C_seq ?_
      refine C_region (l := [0]) rfl ?_
      refine X_cmp rfl rfl rfl rfl rfl rfl ?_
      refine XD_end ?_
      refine K_then ?_
      refine C_seq ?_
      refine C_cond rfl (fun hc3 => ?_) (fun hc3 => ?_)
      · first | replace hc3 := dT hc3 | replace hc3 := dF hc3 | replace hc3 := nT hc3 | replace hc3 := nF hc3 | skip
        try simp only [PeerV.eta] at hc3
        first
        | (exfalso; omega)
        | (exfalso; simp [eqX] at hc3; done)
        | contradiction
        | skip
          refine C_skip ?_
          refine K_then ?_
          refine C_seq ?_
          refine C_block ?_
          refine C_seq ?_
          refine C_region (l := [0, 1]) rfl ?_
          refine X_move rfl rfl rfl rfl ?_
          refine X_assign rfl rfl rfl rfl ?_
          refine XD_end ?_
          refine K_then ?_
          refine C_seq ?_
          refine C_region (l := [0, 1, 2, 3, 4, 5]) rfl ?_
          refine X_move rfl rfl rfl rfl ?_
          refine X_ari rfl rfl rfl rfl rfl (by first | exact wrap_in (by decide) (by omega) | exact wrap_u64_in (by decide) (by omega) | exact wrap_u8_in (by decide) (by omega) | exact wrap_u32_in (by decide) (by omega) | exact wrap_u64 _ | exact wrap_u8 _ | exact wrap_u32 _ | exact rfl) rfl ?_
          rw [show (4 : Int) * (k : Int) = ((4 * k : Nat) : Int) by omega]
          refine X_slice_arrB rfl rfl rfl (.some rfl rfl) .none F.arr115 (Nat.le_refl _) (by show 4 * k ≤ 64; omega) (show pieceV (some ⟨_, 0, none⟩) 1 (4 * k) 64 64 = .slice (some ⟨_, 4 * k, none⟩) (64 - 4 * k) (64 - 4 * k) from by rw [pieceV_at (by omega), Nat.zero_add]) rfl ?_
          refine X_slice (olo := none) (ohi := some 4) (omx := none) rfl rfl rfl .none (.some rfl rfl) .none F.elem65 (Nat.le_refl _) (by show 4 ≤ 64 - 4 * k; omega) (Nat.zero_le _) (by intro h; cases h) (show pieceV (some ⟨_, 4 * k, none⟩) 1 0 4 (64 - 4 * k) = .slice (some ⟨_, 4 * k, none⟩) 4 (64 - 4 * k) from by rw [pieceV_at (by omega)]; rfl) rfl ?_
          refine X_len_sl rfl rfl rfl rfl F.elem65 rfl ?_
          refine X_move rfl rfl rfl rfl ?_
          refine XD_end ?_
          refine K_then ?_
          refine C_block ?_
          refine C_pick (.cons (k := 25) rfl (.cons (k := 24) rfl (.cons (k := 23) rfl (.cons (k := 22) rfl (.cons (k := 21) rfl (.cons (k := 20) rfl (.cons (k := 6) rfl (.cons (k := 19) rfl (.cons (k := 18) rfl (.cons (k := 17) rfl (.cons (k := 5) rfl (.cons (k := 4) rfl (.cons (k := 3) rfl (.cons (k := 2) rfl .nil)))))))))))))) ?_
          refine C_loopO (Hin := h1) (.succ .zero) (by repeat first | exact Rem.here _ | exact Rem.two | apply Rem.skip | apply Rem.over) (fun (q : Nat) M2 h2 z => M2 = M1 ∧ z = [(25, .int .i64 (q : Int))] ∧ q ≤ 4 ∧ OSl 69 1 (.slice (some ⟨b2, 0, none⟩) 80 80) h2 (((partW V k).set k (bytesOf (natsOf s) k (q))).map u32R)) (fun q => 4 - q) (0) (⟨rfl, rfl, by omega, by rw [show bytesOf (natsOf s) k 0 = 0 from rfl, partW_set0 (by omega)]; exact ho⟩) ?_
          rintro q M2 h2 z hm2 ⟨hM2, rfl, hq, hoq⟩
          subst hM2
          have hby := getD_lt hB (4 * k + q)
          refine C_seq ?_
          refine C_region (l := [0]) rfl ?_
          refine X_cmp rfl rfl rfl rfl rfl rfl ?_
          refine XD_end ?_
          refine K_then ?_
          refine C_seq ?_
          refine C_cond rfl (fun hc4 => ?_) (fun hc4 => ?_)
          · first | replace hc4 := dT hc4 | replace hc4 := dF hc4 | replace hc4 := nT hc4 | replace hc4 := nF hc4 | skip
            try simp only [PeerV.eta] at hc4
            first
            | (exfalso; omega)
            | (exfalso; simp [eqX] at hc4; done)
            | contradiction
            | skip
              refine C_skip ?_
              refine K_then ?_
              refine C_seq ?_
              refine C_block ?_
              refine C_seq ?_
              refine C_region (l := [0, 1, 2]) rfl ?_
              refine X_indexAddr rfl rfl rfl rfl F.elem65 (by first | rfl | exact (Int.toNat_of_nonneg (by omega)).symm) (by first | omega | (simp; done) | (simp; omega)) (by first | exact ⟨_, _, rfl⟩ | assumption | exact SlM.plain (by assumption) (by first | (simp; done) | (simp; omega)) | exact RdS.plain (by assumption) (by first | (simp; done) | (simp; omega)) | exact OSl.plain (by assumption) (by first | (simp; done) | (simp; omega))) rfl ?_
              rw [eptr_some, show 4 * k + (q * 1 + 0) = 4 * k + q by omega]
              refine X_load_cell rfl rfl rfl (by repeat first | exact List.Mem.head _ | refine List.Mem.tail _ ?_ | refine List.mem_append_right _ ?_) F.lay5 (byteCell hbv hs (by omega)) rfl ?_
              refine X_assign rfl rfl rfl rfl ?_
              refine XD_end ?_
              refine K_then ?_
              refine C_region (l := [0, 1, 2, 3, 4, 5, 6, 7, 8, 9, 10, 11]) rfl ?_
              refine X_move rfl rfl rfl rfl ?_
              refine X_move rfl rfl rfl rfl ?_
              refine X_move rfl rfl rfl rfl ?_
              refine X_move rfl rfl rfl rfl ?_
              refine X_indexAddr rfl rfl rfl rfl F.elem81 (by first | rfl | exact (Int.toNat_of_nonneg (by omega)).symm) (by first | omega | (simp; done) | (simp; omega)) (by first | exact ⟨_, _, rfl⟩ | assumption | exact SlM.plain (by assumption) (by first | (simp; done) | (simp; omega)) | exact RdS.plain (by assumption) (by first | (simp; done) | (simp; omega)) | exact OSl.plain (by assumption) (by first | (simp; done) | (simp; omega))) rfl ?_
              have hp : bytesOf (natsOf s) k q < 16777216 := Nat.lt_of_lt_of_le (bytesOf_lt hB q) (Nat.pow_le_pow_right (by decide) (show q ≤ 3 by omega))
              refine X_load_osl rfl rfl rfl hoq (by repeat first | exact Rem.here _ | exact Rem.two | apply Rem.skip | apply Rem.over) (by rw [List.getElem?_map, List.getElem?_set_self (by rw [partW_len (by omega)]; omega)]; rfl) F.lay69 rfl rfl rfl ?_
              refine X_shift rfl rfl rfl rfl (by decide) (shl32 (n := 8) (by omega)) rfl rfl ?_
              refine X_move rfl rfl rfl rfl ?_
              refine X_conv rfl rfl rfl Tryd.underlying5 Tryd.underlying69 (by first | exact wrap_in (by decide) (by omega) | exact wrap_u64_in (by decide) (by omega) | exact wrap_u8_in (by decide) (by omega) | exact wrap_u32_in (by decide) (by omega) | exact wrap_u64 _ | exact wrap_u8 _ | exact wrap_u32 _ | exact rfl) rfl ?_
              refine X_bits rfl rfl rfl rfl (or32 (Nat.mod_lt _ (by decide)) (by omega)) rfl rfl ?_
              rw [shl8_or hp hby]
              refine X_indexAddr rfl rfl rfl rfl F.elem81 (by first | rfl | exact (Int.toNat_of_nonneg (by omega)).symm) (by first | omega | (simp; done) | (simp; omega)) (by first | exact ⟨_, _, rfl⟩ | assumption | exact SlM.plain (by assumption) (by first | (simp; done) | (simp; omega)) | exact RdS.plain (by assumption) (by first | (simp; done) | (simp; omega)) | exact OSl.plain (by assumption) (by first | (simp; done) | (simp; omega))) rfl ?_
              refine X_storeO (b := b2) (j := k) rfl rfl rfl rfl (by constructor) (flat_one rfl flat_nil) F.lay69 rfl rfl hoq (by repeat first | exact Rem.here _ | exact Rem.two | apply Rem.skip | apply Rem.over) (by rw [List.length_map]; first | (rw [partW_len (by omega)]; omega) | (rw [List.length_set, partW_len (by omega)]; omega)) ?_; intro hs2 ho2
              replace ho2 : OSl 69 1 (.slice (some ⟨b2, 0, none⟩) 80 80) hs2 (((partW V k).set k (bytesOf (natsOf s) k (q + 1))).map u32R) := by rw [show (((partW V k).set k (bytesOf (natsOf s) k (q + 1))).map u32R) = ((((partW V k).set k (bytesOf (natsOf s) k (q))).map u32R)).set k (u32R (bytesOf (natsOf s) k (q + 1))) by rw [← List.map_set, List.set_set]]; exact ho2.as (by simp [partW_len, hl80, show k ≤ 80 by omega])
              refine XD_end ?_
              refine K_out ?_
              refine K_then ?_
              refine C_region (l := [0, 1]) rfl ?_
              refine X_ari rfl rfl rfl rfl rfl (by first | exact wrap_in (by decide) (by omega) | exact wrap_u64_in (by decide) (by omega) | exact wrap_u8_in (by decide) (by omega) | exact wrap_u32_in (by decide) (by omega) | exact wrap_u64 _ | exact wrap_u8 _ | exact wrap_u32 _ | exact rfl) rfl ?_
              refine X_move rfl rfl rfl rfl ?_
              refine XD_end ?_
              refine K_roundO (a' := [(25, _)]) (q + 1) (hs2) (.cons (k := 25) rfl (.cons (k := 24) rfl (.cons (k := 23) rfl (.cons (k := 22) rfl (.cons (k := 21) rfl (.cons (k := 20) rfl (.cons (k := 6) rfl (.cons (k := 19) rfl (.cons (k := 18) rfl (.cons (k := 17) rfl (.cons (k := 5) rfl (.cons (k := 4) rfl (.cons (k := 3) rfl (.cons (k := 2) rfl (.nil))))))))))))))) (by first | exact Mem.le.refl _ | assumption | (repeat first | assumption | refine Mem.le.trans (by assumption) ?_)) (fun w hw => by first | exact hw | exact hw.cnt (by intro zz; first | exact Nat.le_refl _ | (simp only [cnt_app, cnt_cons, cnt_nil, cat, List.append_eq, List.append_assoc, List.cons_append, List.nil_append, List.append_nil]; omega) | (simp only [cnt_app, cnt_cons, cnt_nil, cat, List.append_eq, List.append_assoc, List.cons_append, List.nil_append, List.append_nil, PeerV.segs]; omega))) ?_ ?_
              · exact ⟨rfl, rfl, by omega, ho2⟩
              · omega
          · first | replace hc4 := dT hc4 | replace hc4 := dF hc4 | replace hc4 := nT hc4 | replace hc4 := nF hc4 | skip
            try simp only [PeerV.eta] at hc4
            first
            | (exfalso; omega)
            | (exfalso; simp [eqX] at hc4; done)
            | contradiction
            | skip
              refine C_exit ?_
              refine K_exit ?_
              refine K_exit ?_
              refine K_hit ?_
              refine K_out ?_
              refine K_then ?_
              refine C_region (l := [0, 1]) rfl ?_
              refine X_ari rfl rfl rfl rfl rfl (by first | exact wrap_in (by decide) (by omega) | exact wrap_u64_in (by decide) (by omega) | exact wrap_u8_in (by decide) (by omega) | exact wrap_u32_in (by decide) (by omega) | exact wrap_u64 _ | exact wrap_u8 _ | exact wrap_u32 _ | exact rfl) rfl ?_
              refine X_move rfl rfl rfl rfl ?_
              refine XD_end ?_
              refine K_roundO (a' := [(17, _)]) (k + 1) (h2) (.cons (k := 17) rfl (.cons (k := 5) rfl (.cons (k := 4) rfl (.cons (k := 3) rfl (.cons (k := 2) rfl (.nil)))))) (by first | exact Mem.le.refl _ | assumption | (repeat first | assumption | refine Mem.le.trans (by assumption) ?_)) (fun w hw => by first | exact hw | exact hw.cnt (by intro zz; first | exact Nat.le_refl _ | (simp only [cnt_app, cnt_cons, cnt_nil, cat, List.append_eq, List.append_assoc, List.cons_append, List.nil_append, List.append_nil]; omega) | (simp only [cnt_app, cnt_cons, cnt_nil, cat, List.append_eq, List.append_assoc, List.cons_append, List.nil_append, List.append_nil, PeerV.segs]; omega))) ?_ ?_
              · refine ⟨rfl, rfl, by omega, ?_⟩
                obtain rfl : q = 4 := by omega
                rw [bytesOf_four, ← hV.lo k (by omega), partW_set (by omega)] at hoq
                exact hoq
              · omega
      · first | replace hc3 := dT hc3 | replace hc3 := dF hc3 | replace hc3 := nT hc3 | replace hc3 := nF hc3 | skip
        try simp only [PeerV.eta] at hc3
        first
        | (exfalso; omega)
        | (exfalso; simp [eqX] at hc3; done)
        | contradiction
        | skip
          refine C_exit ?_
          refine K_exit ?_
          refine K_exit ?_
          refine K_hit ?_
          refine K_then ?_
          refine C_pick (.cons (k := 5) rfl (.cons (k := 3) rfl (.cons (k := 2) rfl .nil))) ?_
          refine C_seq ?_
          refine C_seq ?_
          refine C_region (l := [0]) rfl ?_
          obtain rfl : k = 16 := by omega
          refine X_assign rfl rfl rfl rfl ?_
          refine XD_end ?_
          refine K_then ?_
          refine C_block ?_
          refine C_pick (.cons (k := 9) rfl (.cons (k := 5) rfl (.cons (k := 3) rfl (.cons (k := 2) rfl .nil)))) ?_
          refine C_loopO (Hin := h1) (.succ .zero) (by repeat first | exact Rem.here _ | exact Rem.two | apply Rem.skip | apply Rem.over) (fun (t : Nat) M3 h3 z => M3 = M1 ∧ z = [(9, .int .i64 (t : Int))] ∧ 16 ≤ t ∧ t ≤ 80 ∧ OSl 69 1 (.slice (some ⟨b2, 0, none⟩) 80 80) h3 ((partW V (t)).map u32R)) (fun t => 80 - t) (16) (⟨rfl, rfl, by omega, by omega, ho⟩) ?_
          rintro t M3 h3 z hm3 ⟨hM3, rfl, ht1, ht2, hot⟩
          subst hM3
          refine C_seq ?_
          refine C_seq ?_
          refine C_region (l := [0, 1]) rfl ?_
          refine X_move rfl rfl rfl rfl ?_
          refine X_cmp rfl rfl rfl rfl rfl rfl ?_
          refine XD_end ?_
          refine K_then ?_
          refine C_cond rfl (fun hc5 => ?_) (fun hc5 => ?_)
          · first | replace hc5 := dT hc5 | replace hc5 := dF hc5 | replace hc5 := nT hc5 | replace hc5 := nF hc5 | skip
            try simp only [PeerV.eta] at hc5
            first
            | (exfalso; omega)
            | (exfalso; simp [eqX] at hc5; done)
            | contradiction
            | skip
              refine C_skip ?_
              refine K_then ?_
              refine C_seq ?_
              refine C_block ?_
              refine C_region_any (l := [0, 1, 2, 3, 4, 5, 6, 7, 8, 9, 10, 11, 12, 13, 14, 15, 16, 17, 18, 19, 20, 21, 22, 23, 24, 25, 26, 27]) #[0, 0, 0, 0, 8, 28, 60, 0, 0, 256, 896, 1920, 4092, 0, 0, 16384, 57344, 122880, 262140, 0, 0, 1048576, 3670016, 7864320, 16777212, 33554428, 67108863, 134217727] _ rfl (by kernel_rfl) (by kernel_rfl) St.drawn (fun _ h => h) ?_
              refine X_move rfl rfl rfl rfl ?_
              refine X_move rfl rfl rfl rfl ?_
              refine X_move rfl rfl rfl rfl ?_
              refine X_move rfl rfl rfl rfl ?_
              refine X_ari rfl rfl rfl rfl rfl (by first | exact wrap_in (by decide) (by omega) | exact wrap_u64_in (by decide) (by omega) | exact wrap_u8_in (by decide) (by omega) | exact wrap_u32_in (by decide) (by omega) | exact wrap_u64 _ | exact wrap_u8 _ | exact wrap_u32 _ | exact rfl) rfl ?_
              rw [show (t : Int) - 3 = ((t - 3 : Nat) : Int) by omega]
              refine X_indexAddr rfl rfl rfl rfl F.elem81 (by first | rfl | exact (Int.toNat_of_nonneg (by omega)).symm) (by first | omega | (simp; done) | (simp; omega)) (by first | exact ⟨_, _, rfl⟩ | assumption | exact SlM.plain (by assumption) (by first | (simp; done) | (simp; omega)) | exact RdS.plain (by assumption) (by first | (simp; done) | (simp; omega)) | exact OSl.plain (by assumption) (by first | (simp; done) | (simp; omega))) rfl ?_
              refine X_load_osl rfl rfl rfl hot (by repeat first | exact Rem.here _ | exact Rem.two | apply Rem.skip | apply Rem.over) (by rw [List.getElem?_map, partW_get (V := V) (t := t) (j := t - 3) (by omega) (by omega)]; rfl) F.lay69 rfl rfl rfl ?_
              refine X_move rfl rfl rfl rfl ?_
              refine X_move rfl rfl rfl rfl ?_
              refine X_ari rfl rfl rfl rfl rfl (by first | exact wrap_in (by decide) (by omega) | exact wrap_u64_in (by decide) (by omega) | exact wrap_u8_in (by decide) (by omega) | exact wrap_u32_in (by decide) (by omega) | exact wrap_u64 _ | exact wrap_u8 _ | exact wrap_u32 _ | exact rfl) rfl ?_
              rw [show (t : Int) - 8 = ((t - 8 : Nat) : Int) by omega]
              refine X_indexAddr rfl rfl rfl rfl F.elem81 (by first | rfl | exact (Int.toNat_of_nonneg (by omega)).symm) (by first | omega | (simp; done) | (simp; omega)) (by first | exact ⟨_, _, rfl⟩ | assumption | exact SlM.plain (by assumption) (by first | (simp; done) | (simp; omega)) | exact RdS.plain (by assumption) (by first | (simp; done) | (simp; omega)) | exact OSl.plain (by assumption) (by first | (simp; done) | (simp; omega))) rfl ?_
              refine X_load_osl rfl rfl rfl hot (by repeat first | exact Rem.here _ | exact Rem.two | apply Rem.skip | apply Rem.over) (by rw [List.getElem?_map, partW_get (V := V) (t := t) (j := t - 8) (by omega) (by omega)]; rfl) F.lay69 rfl rfl rfl ?_
              refine X_bits rfl rfl rfl rfl (xor32 (words_lt hV hB (t - 3) (by omega)) (words_lt hV hB (t - 8) (by omega))) rfl rfl ?_
              refine X_move rfl rfl rfl rfl ?_
              refine X_move rfl rfl rfl rfl ?_
              refine X_ari rfl rfl rfl rfl rfl (by first | exact wrap_in (by decide) (by omega) | exact wrap_u64_in (by decide) (by omega) | exact wrap_u8_in (by decide) (by omega) | exact wrap_u32_in (by decide) (by omega) | exact wrap_u64 _ | exact wrap_u8 _ | exact wrap_u32 _ | exact rfl) rfl ?_
              rw [show (t : Int) - 14 = ((t - 14 : Nat) : Int) by omega]
              refine X_indexAddr rfl rfl rfl rfl F.elem81 (by first | rfl | exact (Int.toNat_of_nonneg (by omega)).symm) (by first | omega | (simp; done) | (simp; omega)) (by first | exact ⟨_, _, rfl⟩ | assumption | exact SlM.plain (by assumption) (by first | (simp; done) | (simp; omega)) | exact RdS.plain (by assumption) (by first | (simp; done) | (simp; omega)) | exact OSl.plain (by assumption) (by first | (simp; done) | (simp; omega))) rfl ?_
              refine X_load_osl rfl rfl rfl hot (by repeat first | exact Rem.here _ | exact Rem.two | apply Rem.skip | apply Rem.over) (by rw [List.getElem?_map, partW_get (V := V) (t := t) (j := t - 14) (by omega) (by omega)]; rfl) F.lay69 rfl rfl rfl ?_
              refine X_bits rfl rfl rfl rfl (xor32 (lt_xor (words_lt hV hB (t - 3) (by omega)) (words_lt hV hB (t - 8) (by omega))) (words_lt hV hB (t - 14) (by omega))) rfl rfl ?_
              refine X_move rfl rfl rfl rfl ?_
              refine X_move rfl rfl rfl rfl ?_
              refine X_ari rfl rfl rfl rfl rfl (by first | exact wrap_in (by decide) (by omega) | exact wrap_u64_in (by decide) (by omega) | exact wrap_u8_in (by decide) (by omega) | exact wrap_u32_in (by decide) (by omega) | exact wrap_u64 _ | exact wrap_u8 _ | exact wrap_u32 _ | exact rfl) rfl ?_
              rw [show (t : Int) - 16 = ((t - 16 : Nat) : Int) by omega]
              refine X_indexAddr rfl rfl rfl rfl F.elem81 (by first | rfl | exact (Int.toNat_of_nonneg (by omega)).symm) (by first | omega | (simp; done) | (simp; omega)) (by first | exact ⟨_, _, rfl⟩ | assumption | exact SlM.plain (by assumption) (by first | (simp; done) | (simp; omega)) | exact RdS.plain (by assumption) (by first | (simp; done) | (simp; omega)) | exact OSl.plain (by assumption) (by first | (simp; done) | (simp; omega))) rfl ?_
              refine X_load_osl rfl rfl rfl hot (by repeat first | exact Rem.here _ | exact Rem.two | apply Rem.skip | apply Rem.over) (by rw [List.getElem?_map, partW_get (V := V) (t := t) (j := t - 16) (by omega) (by omega)]; rfl) F.lay69 rfl rfl rfl ?_
              refine X_bits rfl rfl rfl rfl (xor32 (lt_xor (lt_xor (words_lt hV hB (t - 3) (by omega)) (words_lt hV hB (t - 8) (by omega))) (words_lt hV hB (t - 14) (by omega))) (words_lt hV hB (t - 16) (by omega))) rfl rfl ?_
              refine X_fs rfl rfl F.ok61 rfl (Rotl_ok _ _ 1 (lt_xor (lt_xor (lt_xor (words_lt hV hB (t - 3) (by omega)) (words_lt hV hB (t - 8) (by omega))) (words_lt hV hB (t - 14) (by omega))) (words_lt hV hB (t - 16) (by omega))) (by decide)) rfl ?_
              rintro _ rfl
              refine X_indexAddr rfl rfl rfl rfl F.elem81 (by first | rfl | exact (Int.toNat_of_nonneg (by omega)).symm) (by first | omega | (simp; done) | (simp; omega)) (by first | exact ⟨_, _, rfl⟩ | assumption | exact SlM.plain (by assumption) (by first | (simp; done) | (simp; omega)) | exact RdS.plain (by assumption) (by first | (simp; done) | (simp; omega)) | exact OSl.plain (by assumption) (by first | (simp; done) | (simp; omega))) rfl ?_
              refine X_storeO (b := b2) (j := t) rfl rfl rfl rfl (by constructor) (flat_one rfl flat_nil) F.lay69 rfl rfl hot (by repeat first | exact Rem.here _ | exact Rem.two | apply Rem.skip | apply Rem.over) (by rw [List.length_map]; first | (rw [partW_len (by omega)]; omega) | (rw [List.length_set, partW_len (by omega)]; omega)) ?_; intro hs3 ho3
              replace ho3 : OSl 69 1 (.slice (some ⟨b2, 0, none⟩) 80 80) hs3 ((partW V (t + 1)).map u32R) := by rw [← partW_set (by omega), List.map_set, hV.hi t ht1 (by omega)]; exact ho3.as (by simp [partW_len, hl80, show t ≤ 80 by omega])
              refine XD_end ?_
              refine K_out ?_
              refine K_then ?_
              refine C_region (l := [0, 1, 2]) rfl ?_
              refine X_move rfl rfl rfl rfl ?_
              refine X_ari rfl rfl rfl rfl rfl (by first | exact wrap_in (by decide) (by omega) | exact wrap_u64_in (by decide) (by omega) | exact wrap_u8_in (by decide) (by omega) | exact wrap_u32_in (by decide) (by omega) | exact wrap_u64 _ | exact wrap_u8 _ | exact wrap_u32 _ | exact rfl) rfl ?_
              refine X_assign rfl rfl rfl rfl ?_
              refine XD_end ?_
              refine K_roundO (a' := [(9, _)]) (t + 1) (hs3) (.cons (k := 9) rfl (.cons (k := 5) rfl (.cons (k := 3) rfl (.cons (k := 2) rfl (.nil))))) (by first | exact Mem.le.refl _ | assumption | (repeat first | assumption | refine Mem.le.trans (by assumption) ?_)) (fun w hw => by first | exact hw | exact hw.cnt (by intro zz; first | exact Nat.le_refl _ | (simp only [cnt_app, cnt_cons, cnt_nil, cat, List.append_eq, List.append_assoc, List.cons_append, List.nil_append, List.append_nil]; omega) | (simp only [cnt_app, cnt_cons, cnt_nil, cat, List.append_eq, List.append_assoc, List.cons_append, List.nil_append, List.append_nil, PeerV.segs]; omega))) ?_ ?_
              · exact ⟨rfl, rfl, by omega, by omega, ho3⟩
              · omega
          · first | replace hc5 := dT hc5 | replace hc5 := dF hc5 | replace hc5 := nT hc5 | replace hc5 := nF hc5 | skip
            try simp only [PeerV.eta] at hc5
            first
            | (exfalso; omega)
            | (exfalso; simp [eqX] at hc5; done)
            | contradiction
            | skip
              refine C_exit ?_
              refine K_exit ?_
              refine K_exit ?_
              refine K_hit ?_
              refine K_then ?_
              refine C_pick (.cons (k := 5) rfl (.cons (k := 3) rfl (.cons (k := 2) rfl .nil))) ?_
              refine C_seq ?_
              refine C_region (l := [0, 1, 2]) rfl ?_
              refine X_move rfl rfl rfl rfl ?_
              refine X_assign rfl rfl rfl rfl ?_
              refine X_assign rfl rfl rfl rfl ?_
              refine XD_end ?_
              refine K_then ?_
              refine C_pick (.cons (k := 3) rfl (.cons (k := 2) rfl .nil)) ?_
              refine C_ret ?_
              refine K_end (.inr rfl) (.tmp rfl (.tmp rfl .nil)) (fun w hw => ?_)
              obtain rfl : t = 80 := by omega
              have e80 : partW V 80 = V := by have := partW_all (V := V); rwa [hl80] at this
              rw [e80] at hot
              obtain ⟨M9, s1, g1, g2, g3, g4, g5⟩ := OSl.freezeK (f := u32R) (H := H) (l := V) hot (hw.cnt (by intro zz; first | exact Nat.le_refl _ | (simp only [cnt_app, cnt_cons, cnt_nil, cat, List.append_eq, List.append_assoc, List.cons_append, List.nil_append, List.append_nil]; omega) | (simp only [cnt_app, cnt_cons, cnt_nil, cat, List.append_eq, List.append_assoc, List.cons_append, List.nil_append, List.append_nil, PeerV.segs]; omega)))
              refine ⟨_, M9, rfl, g1, g2, ?_⟩
              exact ⟨s1, by rw [← g3]; rfl, g4, g5⟩

end Go.Proofs.YtbafnjniijodfaaDoor
/-
  A step of SHA-1, round by round; plain Lean.
-/
set_option linter.unusedSimpArgs false
set_option linter.unusedVariables false
set_option linter.unnecessarySimpa false
namespace Go.Esp
/-- A state, as the five cells of an array. -/
def stV (s : St5) : Vector Value 5 := ⟨#[.int .u32 (s.a : Int), .int .u32 (s.b : Int), .int .u32 (s.c : Int), .int .u32 (s.d : Int), .int .u32 (s.e : Int)], rfl⟩
def stSeg (s : St5) : Seg := .arr 5 (stV s)
def St5.nth (s : St5) : Nat → Nat
  | 0 => s.a
  | 1 => s.b
  | 2 => s.c
  | 3 => s.d
  | _ => s.e
structure St5.ok (s : St5) : Prop where
  a : s.a < 4294967296
  b : s.b < 4294967296
  c : s.c < 4294967296
  d : s.d < 4294967296
  e : s.e < 4294967296
theorem St5.ok.nth {s : St5} (h : s.ok) (j : Nat) : s.nth j < 4294967296 := by
  obtain ⟨h1, h2, h3, h4, h5⟩ := h
  unfold St5.nth; split <;> assumption
theorem stV_at (s : St5) {j : Nat} (h : j < 5) : (stV s)[j] = .int .u32 ((s.nth j : Nat) : Int) := by
  match j, h with
  | 0, _ => rfl
  | 1, _ => rfl
  | 2, _ => rfl
  | 3, _ => rfl
  | 4, _ => rfl
theorem stCell (s : St5) {j : Nat} (h : j < 5) : (Segs.cells [stSeg s])[0 + j]? = some (.int .u32 ((s.nth j : Nat) : Int)) := by
  rw [← stV_at s h]; exact arr_at h
theorem stFlat (s : St5) : flat [stSeg s] := fun u hu => by
  have : u = .int .u32 (s.a : Int) ∨ u = .int .u32 (s.b : Int) ∨ u = .int .u32 (s.c : Int) ∨ u = .int .u32 (s.d : Int) ∨ u = .int .u32 (s.e : Int) := by
    have h9 : u ∈ [Value.int .u32 (s.a : Int), .int .u32 (s.b : Int), .int .u32 (s.c : Int), .int .u32 (s.d : Int), .int .u32 (s.e : Int)] := hu
    simpa using h9
  rcases this with rfl | rfl | rfl | rfl | rfl <;> rfl
theorem start5_ok : start5.ok := ⟨by decide, by decide, by decide, by decide, by decide⟩
theorem mixN_lt {t b c d : Nat} (hb : b < 4294967296) (hc : c < 4294967296) (hd : d < 4294967296) : mixN t b c d < 4294967296 := by
  unfold mixN
  split
  · exact lt_or (lt_and hc) (lt_and hd)
  · split
    · exact lt_xor (lt_xor hb hc) hd
    · split
      · exact lt_or (lt_or (lt_and hc) (lt_and hd)) (lt_and hd)
      · exact lt_xor (lt_xor hb hc) hd
theorem roundN_ok {s : St5} (t w : Nat) (h : s.ok) : (roundN t s w).ok := ⟨Nat.mod_lt _ (by decide), h.a, rotl_lt _ _, h.c, h.d⟩
theorem roundsN_app : ∀ (l : List Nat) (t w : Nat) (s : St5), roundsN t (l ++ [w]) s = roundN (t + l.length) (roundsN t l s) w
  | [], t, w, s => rfl
  | x :: l, t, w, s => by
    show roundsN (t + 1) (l ++ [w]) (roundN t s x) = _
    rw [roundsN_app l (t + 1) w]
    rw [List.length_cons, show t + 1 + l.length = t + (l.length + 1) by omega]
    rfl
theorem roundsN_ok : ∀ (l : List Nat) (t : Nat) {s : St5}, s.ok → (roundsN t l s).ok
  | [], t, s, h => h
  | x :: l, t, s, h => roundsN_ok l (t + 1) (roundN_ok t x h)
/-- A state behind some rounds. -/
def behind (V : List Nat) (h : St5) (t : Nat) : St5 := roundsN 0 (V.take t) h
theorem behind_succ {V : List Nat} {h : St5} {t : Nat} (ht : t < V.length) : behind V h (t + 1) = roundN t (behind V h t) V[t] := by
  unfold behind
  rw [List.take_succ_eq_append_getElem ht, roundsN_app, List.length_take, Nat.min_eq_left (by omega), Nat.zero_add]
theorem behind_ok {V : List Nat} {h : St5} (t : Nat) (hh : h.ok) : (behind V h t).ok := roundsN_ok _ _ hh
theorem behind_all {V : List Nat} {h : St5} : behind V h V.length = roundsN 0 V h := by unfold behind; rw [List.take_length]
theorem round_sum {r f e a w : Nat} : w32 (w32 (w32 (w32 ((r : Int) + (f : Int)) + (e : Int)) + (a : Int)) + (w : Int)) = (((r + f + e + a + w) % 4294967296 : Nat) : Int) := by
  unfold w32; omega
theorem add_sum {a b : Nat} : w32 ((a : Int) + (b : Int)) = ((add32 a b : Nat) : Int) := by
  unfold w32 add32; omega
/-- Sums, cell by cell. -/
def sumTo (h s : St5) (i : Nat) : St5 := ⟨if 0 < i then add32 h.a s.a else h.a, if 1 < i then add32 h.b s.b else h.b, if 2 < i then add32 h.c s.c else h.c, if 3 < i then add32 h.d s.d else h.d, if 4 < i then add32 h.e s.e else h.e⟩
theorem sumTo_zero (h s : St5) : sumTo h s 0 = h := rfl
theorem sumTo_at {h s : St5} {i : Nat} (hi : i < 5) : (sumTo h s i).nth i = h.nth i := by
  match i, hi with
  | 0, _ => rfl
  | 1, _ => rfl
  | 2, _ => rfl
  | 3, _ => rfl
  | 4, _ => rfl
theorem sumTo_set {h s : St5} {i : Nat} (hi : i < 5) : (stV (sumTo h s i)).set i (.int .u32 ((add32 (h.nth i) (s.nth i) : Nat) : Int)) hi = stV (sumTo h s (i + 1)) := by
  match i, hi with
  | 0, _ => rfl
  | 1, _ => rfl
  | 2, _ => rfl
  | 3, _ => rfl
  | 4, _ => rfl
theorem sumTo_ok {h s : St5} (i : Nat) (hh : h.ok) : (sumTo h s i).ok := by
  have hl : ∀ a b, add32 a b < 4294967296 := fun a b => Nat.mod_lt _ (by decide)
  refine ⟨?_, ?_, ?_, ?_, ?_⟩ <;> (show (if _ then _ else _) < _; split)
  · exact hl _ _
  · exact hh.a
  · exact hl _ _
  · exact hh.b
  · exact hl _ _
  · exact hh.c
  · exact hl _ _
  · exact hh.d
  · exact hl _ _
  · exact hh.e
theorem stepN_is {h : St5} {B : List Nat} (hB : B.length = 64) : sumTo h (behind (wordsOf B) h 80) 5 = stepN h B := by
  have hl := (wordsOf_is hB).len
  have : behind (wordsOf B) h 80 = roundsN 0 (wordsMore 64 (words16 B [])).reverse h := by
    rw [← hl]; exact behind_all
  rw [this]; rfl
theorem stepN_ok {h : St5} {B : List Nat} : (stepN h B).ok := ⟨Nat.mod_lt _ (by decide), Nat.mod_lt _ (by decide), Nat.mod_lt _ (by decide), Nat.mod_lt _ (by decide), Nat.mod_lt _ (by decide)⟩
end Go.Esp
/-
  What a round mixes, and adds.
-/
set_option linter.unusedSimpArgs false
set_option linter.unusedVariables false
set_option linter.unnecessarySimpa false
set_option maxRecDepth 8000
set_option maxHeartbeats 1000000
namespace Go.Proofs.YtbafnjniijodfaaDoor
open Go.Esp
theorem F.bld86 : Bld Tryd.prog 86 [[.one .nilFunc], [.one (.int .u32 0)]] := ⟨by kernel_rfl, by kernel_rfl⟩
theorem F.lay87 : lay Tryd.prog 87 = some (true, 8) := by kernel_rfl
theorem F.ok83 : okFn Tryd.prog 83 = true := by kernel_rfl
theorem F.ok84 : okFn Tryd.prog 84 = true := by kernel_rfl
theorem F.ok85 : okFn Tryd.prog 85 = true := by kernel_rfl
theorem F.phs (w : World) : (Instr.build 87 #[(0, aggV [.one (.func (.func 83) #[] #[]), .one (.int .u32 ((1518500249 : Nat) : Int))]), (1, aggV [.one (.func (.func 84) #[] #[]), .one (.int .u32 ((1859775393 : Nat) : Int))]), (2, aggV [.one (.func (.func 85) #[] #[]), .one (.int .u32 ((2400959708 : Nat) : Int))]), (3, aggV [.one (.func (.func 84) #[] #[]), .one (.int .u32 ((3395469782 : Nat) : Int))])]).run Tryd.prog w = .ok (aggV [.one (.func (.func 83) #[] #[]), .one (.int .u32 ((1518500249 : Nat) : Int)), .one (.func (.func 84) #[] #[]), .one (.int .u32 ((1859775393 : Nat) : Int)), .one (.func (.func 85) #[] #[]), .one (.int .u32 ((2400959708 : Nat) : Int)), .one (.func (.func 84) #[] #[]), .one (.int .u32 ((3395469782 : Nat) : Int))]) w := by kernel_rfl
theorem F.zero87 : zeroOf Tryd.prog 87 = some (aggV [.one .nilFunc, .one (.int .u32 0), .one .nilFunc, .one (.int .u32 0), .one .nilFunc, .one (.int .u32 0), .one .nilFunc, .one (.int .u32 0)]) := by kernel_rfl

def mixF (k : Nat) : FuncId := if k = 0 then 83 else if k = 1 then 84 else if k = 2 then 85 else 84
def addC (k : Nat) : Nat := if k = 0 then 1518500249 else if k = 1 then 1859775393 else if k = 2 then 2400959708 else 3395469782
def phS (k : Nat) : Segs := [.one (.func (.func (mixF k)) #[] #[]), .one (.int .u32 ((addC k : Nat) : Int))]
def phR : Segs := [.one (.func (.func 83) #[] #[]), .one (.int .u32 ((1518500249 : Nat) : Int)), .one (.func (.func 84) #[] #[]), .one (.int .u32 ((1859775393 : Nat) : Int)), .one (.func (.func 85) #[] #[]), .one (.int .u32 ((2400959708 : Nat) : Int)), .one (.func (.func 84) #[] #[]), .one (.int .u32 ((3395469782 : Nat) : Int))]

theorem phSub {j : Nat} (h : j < 4) : Segs.sub phR (0 + j * 2) 2 = some (phS j) := by
  match j, h with
  | 0, _ => rfl
  | 1, _ => rfl
  | 2, _ => rfl
  | 3, _ => rfl
theorem mixF_ok {j : Nat} (h : j < 4) : okFn Tryd.prog (mixF j) = true := by
  match j, h with
  | 0, _ => exact F.ok83
  | 1, _ => exact F.ok84
  | 2, _ => exact F.ok85
  | 3, _ => exact F.ok84
theorem phS_flat (j : Nat) : flat (phS j) := flat_one rfl (flat_one rfl flat_nil)
theorem phR_flat : flat phR := flat_one rfl (flat_one rfl (flat_one rfl (flat_one rfl (flat_one rfl (flat_one rfl (flat_one rfl (flat_one rfl flat_nil)))))))
theorem addC_is {k : Nat} (h : k < 80) : addC (k / 20) = addN k := by
  unfold addC addN
  repeat (first | rfl | omega | split)

theorem mix_ok (M : Mem) {k b c d : Nat} (h : k < 80) (hb : b < 4294967296) (hc : c < 4294967296) (hd : d < 4294967296) : Fs Tryd.prog (mixF (k / 20)) [.int .u32 ((b : Nat) : Int), .int .u32 ((c : Nat) : Int), .int .u32 ((d : Nat) : Int)] M (fun v => v = .int .u32 ((mixN k b c d : Nat) : Int)) := by
  unfold mixN
  rcases (show k / 20 = 0 ∧ k < 20 ∨ k / 20 = 1 ∧ ¬ k < 20 ∧ k < 40 ∨ k / 20 = 2 ∧ ¬ k < 20 ∧ ¬ k < 40 ∧ k < 60 ∨ k / 20 = 3 ∧ ¬ k < 20 ∧ ¬ k < 40 ∧ ¬ k < 60 by omega) with ⟨e, h1⟩ | ⟨e, h1, h2⟩ | ⟨e, h1, h2, h3⟩ | ⟨e, h1, h2, h3⟩
  · rw [e, if_pos h1]; exact choose_ok M b c d hb hc hd
  · rw [e, if_neg h1, if_pos h2]; exact unlike_ok M b c d hb hc hd
  · rw [e, if_neg h1, if_neg h2, if_pos h3]; exact most_ok M b c d hb hc hd
  · rw [e, if_neg h1, if_neg h2, if_neg h3]; exact unlike_ok M b c d hb hc hd

theorem phases_ok (M : Mem) : Fs Tryd.prog 60 [] M (fun v => v = aggV (phR)) := by
  refine fs_enter Tryd.func60 rfl Tryd.ntmps60 rfl ?_; intro H
  refine C_seq ?_
  refine C_region (l := [0]) rfl ?_
  refine X_alloc rfl rfl F.zero87 (by constructor) rfl ?_; intro b1
  refine XD_end ?_
  refine K_then ?_
  refine C_seq ?_
  refine C_region (l := [0, 1, 2, 3, 4, 5]) rfl ?_
  refine X_build rfl rfl F.bld86 (.cons rfl (by constructor) (.cons rfl (by constructor) .nil)) rfl rfl ?_
  refine X_build rfl rfl F.bld86 (.cons rfl (by constructor) (.cons rfl (by constructor) .nil)) rfl rfl ?_
  refine X_build rfl rfl F.bld86 (.cons rfl (by constructor) (.cons rfl (by constructor) .nil)) rfl rfl ?_
  refine X_build rfl rfl F.bld86 (.cons rfl (by constructor) (.cons rfl (by constructor) .nil)) rfl rfl ?_
  refine X_buildC rfl rfl (fun a ha => by simp [show a.eval (.tmp 1) = aggV [.one (.func (.func 83) #[] #[]), .one (.int .u32 ((1518500249 : Nat) : Int))] from ha.ev rfl, show a.eval (.tmp 2) = aggV [.one (.func (.func 84) #[] #[]), .one (.int .u32 ((1859775393 : Nat) : Int))] from ha.ev rfl, show a.eval (.tmp 3) = aggV [.one (.func (.func 85) #[] #[]), .one (.int .u32 ((2400959708 : Nat) : Int))] from ha.ev rfl, show a.eval (.tmp 4) = aggV [.one (.func (.func 84) #[] #[]), .one (.int .u32 ((3395469782 : Nat) : Int))] from ha.ev rfl]) (F.phs) rfl ?_
  refine X_store rfl rfl rfl rfl (by constructor) (by first | ((try simp only [cat, List.cons_append, List.nil_append, List.append_nil]); (repeat (first | exact flat_nil | refine flat_id ?_ | (refine flat_one ?_ ?_; rfl))); done) | exact PeerV.flat _ | exact PeerV.flat ⟨_, _⟩ | exact stFlat _ | exact phS_flat _ | exact phR_flat | (simp [flat, cat, Segs.cells, Seg.cells, Value.oneCell']; done)) (by repeat first | exact Upd.head | apply Upd.tail | apply Upd.over) F.lay87 rfl rfl ?_
  refine XD_end ?_
  refine K_then ?_
  refine C_pick (.cons (k := 0) rfl .nil) ?_
  refine C_ret ?_
  refine K_end (.inr rfl) (.cell rfl (by repeat first | exact List.Mem.head _ | refine List.Mem.tail _ ?_ | refine List.mem_append_right _ ?_) F.lay87 rfl rfl .nil) (fun w hw => ?_)
  refine ⟨_, rfl, (hw.cnt (by intro zz; first | exact Nat.le_refl _ | (simp only [cnt_app, cnt_cons, cnt_nil, cat, List.append_eq, List.append_assoc, List.cons_append, List.nil_append, List.append_nil]; omega) | (simp only [cnt_app, cnt_cons, cnt_nil, cat, List.append_eq, List.append_assoc, List.cons_append, List.nil_append, List.append_nil, PeerV.segs]; omega))), ?_⟩
  clear hw
  rfl

end Go.Proofs.YtbafnjniijodfaaDoor
/-
  A step.
-/
set_option linter.unusedSimpArgs false
set_option linter.unusedVariables false
set_option linter.unnecessarySimpa false
set_option maxRecDepth 8000
set_option maxHeartbeats 1000000
namespace Go.Proofs.YtbafnjniijodfaaDoor
open Go.Esp
theorem F.arr71 : arOf Tryd.prog 71 = some (5, 69) := by kernel_rfl
theorem F.arrN87 : arOfN Tryd.prog 87 = some (4, 86, 2) := by kernel_rfl
theorem F.bst (a b c d e : Int) (w : World) : (Instr.build 71 #[(0, .int .u32 a), (1, .int .u32 b), (2, .int .u32 c), (3, .int .u32 d), (4, .int .u32 e)]).run Tryd.prog w = .ok (.agg #[.int .u32 a, .int .u32 b, .int .u32 c, .int .u32 d, .int .u32 e]) w := by kernel_rfl
theorem F.foff86_0 : foff Tryd.prog 86 0 = some 0 := by kernel_rfl
theorem F.foff86_1 : foff Tryd.prog 86 1 = some 1 := by kernel_rfl
theorem F.lay71 : lay Tryd.prog 71 = some (true, 5) := by kernel_rfl
theorem F.lay84 : lay Tryd.prog 84 = some (false, 1) := by kernel_rfl
theorem F.lay86 : lay Tryd.prog 86 = some (true, 2) := by kernel_rfl
theorem F.ok59 : okFn Tryd.prog 59 = true := by kernel_rfl
theorem F.ok60 : okFn Tryd.prog 60 = true := by kernel_rfl
theorem F.zero71 : zeroOf Tryd.prog 71 = some (aggV [.arr 5 (Vector.replicate 5 (.int .u32 0))]) := by kernel_rfl
theorem F.zero86 : zeroOf Tryd.prog 86 = some (aggV [.one .nilFunc, .one (.int .u32 0)]) := by kernel_rfl

theorem Step_ok (M : Mem) (g : St5) (s : ByteArray) (hg : g.ok) (hs : s.size = 64) : Esp.Fn Tryd.prog 48 [aggV [stSeg g], .string s] M (fun M' v => v = .tuple #[aggV [stSeg (stepN g (natsOf s))], .int .i64 0]) := by
  refine fn_enter Tryd.func48 rfl Tryd.ntmps48 rfl ?_; intro H
  refine C_seq ?_
  refine C_region (l := [0, 1, 2]) rfl ?_
  refine X_box rfl rfl rfl (by constructor) rfl ?_; intro b1
  refine X_alloc rfl rfl F.zero71 (by constructor) rfl ?_; intro b2
  refine X_assign rfl rfl rfl rfl ?_
  refine XD_end ?_
  refine K_then ?_
  refine C_pick (.cons (k := 5) rfl (.cons (k := 4) rfl (.cons (k := 2) rfl (.cons (k := 1) rfl .nil)))) ?_
  refine C_seq ?_
  refine C_region (l := [0, 1, 2, 3, 4, 5, 6]) rfl ?_
  refine X_move rfl rfl rfl rfl ?_
  refine X_fn rfl rfl F.ok59 rfl (Words_ok M s hs (wordsOf (natsOf s)) (wordsOf_is (by rw [natsOf_len, hs]))) rfl ?_
  rintro _ M1 hm1 ⟨⟨wa, wc, wl⟩, rfl, hwl, hwk⟩
  replace hwl : wl = wordsOf (natsOf s) := hwl
  have hV : IsWords (natsOf s) wl := by rw [hwl]; exact wordsOf_is (by rw [natsOf_len, hs])
  have hl80 := hV.len
  have s_w := hwk.h1
  refine X_move rfl rfl rfl rfl ?_
  refine X_extract rfl rfl rfl rfl rfl ?_
  refine X_extract rfl rfl rfl rfl rfl ?_
  refine X_assign rfl rfl rfl rfl ?_
  refine X_assign rfl rfl rfl rfl ?_
  refine XD_end ?_
  refine K_then ?_
  refine C_pick (.cons (k := 7) rfl (.cons (k := 6) rfl (.cons (k := 5) rfl (.cons (k := 4) rfl (.cons (k := 2) rfl .nil))))) ?_
  refine C_seq ?_
  refine C_seq ?_
  refine C_region (l := [0, 1]) rfl ?_
  refine X_move rfl rfl rfl rfl ?_
  refine X_cmp rfl rfl rfl rfl rfl rfl ?_
  refine XD_end ?_
  refine K_then ?_
  refine C_pick (.cons (k := 20) rfl (.cons (k := 7) rfl (.cons (k := 6) rfl (.cons (k := 5) rfl (.cons (k := 4) rfl (.cons (k := 2) rfl .nil)))))) ?_
  refine C_cond rfl (fun hc3 => ?_) (fun hc3 => ?_)
  · first | replace hc3 := dT hc3 | replace hc3 := dF hc3 | replace hc3 := nT hc3 | replace hc3 := nF hc3 | skip
    try simp only [PeerV.eta] at hc3
    first | (exfalso; omega) | (exfalso; simp [eqX] at hc3; done) | contradiction
  · first | replace hc3 := dT hc3 | replace hc3 := dF hc3 | replace hc3 := nT hc3 | replace hc3 := nF hc3 | skip
    try simp only [PeerV.eta] at hc3
    first
    | (exfalso; omega)
    | (exfalso; simp [eqX] at hc3; done)
    | contradiction
    | skip
      refine C_skip ?_
      refine K_then ?_
      refine C_pick (.cons (k := 6) rfl (.cons (k := 5) rfl (.cons (k := 4) rfl (.cons (k := 2) rfl .nil)))) ?_
      refine C_seq ?_
      refine C_region_any (l := [0, 1, 2, 3, 4, 5]) #[0, 0, 0, 0, 15, 31] _ rfl (by kernel_rfl) (by kernel_rfl) St.drawn (fun _ h => h) ?_
      first | refine X_load rfl rfl rfl (by repeat first | exact List.Mem.head _ | refine List.Mem.tail _ ?_ | refine List.mem_append_right _ ?_) F.lay71 rfl rfl rfl ?_ | refine X_load_el rfl rfl rfl (by first | assumption | exact SlM.mono (by assumption) (by assumption)) (by first | exact row_map (by omega) | exact List.getElem?_eq_getElem (by omega) | exact rfl | exact row_map (by first | (simp; done) | (simp; omega))) F.lay71 rfl rfl rfl ?_ | refine X_load_rd rfl rfl rfl (by assumption) (by first | exact row_map (by omega) | exact List.getElem?_eq_getElem (by omega) | exact rfl | exact row_map (by first | (simp; done) | (simp; omega))) F.lay71 rfl rfl rfl ?_ | refine X_load_mem rfl rfl rfl (by first | assumption | exact Mem.get_of (by assumption) (by repeat first | assumption | refine Mem.le.trans (by assumption) ?_)) F.lay71 rfl rfl rfl ?_ | refine X_load_osl rfl rfl rfl (by assumption) (by repeat first | exact Rem.here _ | exact Rem.two | apply Rem.skip | apply Rem.over) (by first | exact row_map (by omega) | exact List.getElem?_eq_getElem (by omega) | exact rfl | exact row_map (by first | (simp; done) | (simp; omega))) F.lay71 rfl rfl rfl ?_
      refine X_fs rfl rfl F.ok60 rfl (phases_ok _) rfl ?_
      rintro _ rfl
      refine X_alloc rfl rfl F.zero71 (by constructor) rfl ?_; intro b4
      refine X_alloc rfl rfl F.zero87 (by constructor) rfl ?_; intro b5
      refine X_store rfl rfl rfl rfl (by constructor) (by first | ((try simp only [cat, List.cons_append, List.nil_append, List.append_nil]); (repeat (first | exact flat_nil | refine flat_id ?_ | (refine flat_one ?_ ?_; rfl))); done) | exact PeerV.flat _ | exact PeerV.flat ⟨_, _⟩ | exact stFlat _ | exact phS_flat _ | exact phR_flat | (simp [flat, cat, Segs.cells, Seg.cells, Value.oneCell']; done)) (by repeat first | exact Upd.head | apply Upd.tail | apply Upd.over) F.lay71 rfl rfl ?_
      refine X_store rfl rfl rfl rfl (by constructor) (by first | ((try simp only [cat, List.cons_append, List.nil_append, List.append_nil]); (repeat (first | exact flat_nil | refine flat_id ?_ | (refine flat_one ?_ ?_; rfl))); done) | exact PeerV.flat _ | exact PeerV.flat ⟨_, _⟩ | exact stFlat _ | exact phS_flat _ | exact phR_flat | (simp [flat, cat, Segs.cells, Seg.cells, Value.oneCell']; done)) (by repeat first | exact Upd.head | apply Upd.tail | apply Upd.over) F.lay87 rfl rfl ?_
      refine XD_end ?_
      refine K_then ?_
      refine C_pick (.cons (k := 9) rfl (.cons (k := 8) rfl (.cons (k := 6) rfl (.cons (k := 5) rfl (.cons (k := 4) rfl (.cons (k := 2) rfl .nil)))))) ?_
      refine C_seq ?_
      refine C_seq ?_
      refine C_region (l := [0]) rfl ?_
      refine X_move rfl rfl rfl rfl ?_
      refine XD_end ?_
      refine K_then ?_
      refine C_block ?_
      refine C_pick (.cons (k := 25) rfl (.cons (k := 9) rfl (.cons (k := 8) rfl (.cons (k := 6) rfl (.cons (k := 5) rfl (.cons (k := 4) rfl (.cons (k := 2) rfl .nil))))))) ?_
      refine C_loopO (Hin := [(b4, rowO [stSeg (g)] 71)]) (.succ .zero) (by repeat first | exact Rem.here _ | exact Rem.two | apply Rem.skip | apply Rem.over) (fun (k : Nat) M2 h1 z => M2 = M1 ∧ z = [(25, .int .i64 (k : Int))] ∧ k ≤ 80 ∧ h1 = [(b4, rowO [stSeg (behind wl g k)] 71)]) (fun k => 80 - k) (0) (⟨rfl, rfl, by omega, rfl⟩) ?_
      rintro k M2 h1 z hm2 ⟨hM2, rfl, hk, rfl⟩
      subst hM2
      have hg9 := behind_ok (V := wl) k hg
      refine C_seq ?_
      refine C_region (l := [0]) rfl ?_
      refine X_cmp rfl rfl rfl rfl rfl rfl ?_
      refine XD_end ?_
      refine K_then ?_
      refine C_seq ?_
      refine C_cond rfl (fun hc6 => ?_) (fun hc6 => ?_)
      · first | replace hc6 := dT hc6 | replace hc6 := dF hc6 | replace hc6 := nT hc6 | replace hc6 := nF hc6 | skip
        try simp only [PeerV.eta] at hc6
        first
        | (exfalso; omega)
        | (exfalso; simp [eqX] at hc6; done)
        | contradiction
        | skip
          refine C_skip ?_
          refine K_then ?_
          refine C_seq ?_
          refine C_block ?_
          refine C_seq ?_
          refine C_region (l := [0, 1]) rfl ?_
          refine X_move rfl rfl rfl rfl ?_
          refine X_assign rfl rfl rfl rfl ?_
          refine XD_end ?_
          refine K_then ?_
          refine C_seq ?_
          refine C_region (l := [0, 1, 2, 3, 4, 5]) rfl ?_
          refine X_move rfl rfl rfl rfl ?_
          refine X_quo rfl rfl rfl rfl (by first | decide | omega) (by first | exact quo_in rfl (by omega) (by omega) (by omega) | rfl) rfl ?_
          rw [show (k : Int) / 20 = ((k / 20 : Nat) : Int) by omega]
          refine X_indexAddr_arrN rfl rfl rfl rfl F.arrN87 rfl (by omega) rfl ?_
          refine X_load (r := phR) (r' := phS (k / 20)) rfl rfl rfl (by repeat first | exact List.Mem.head _ | refine List.Mem.tail _ ?_ | refine List.mem_append_right _ ?_) F.lay86 (phSub (by omega)) rfl rfl ?_
          refine X_alloc rfl rfl F.zero86 (by constructor) rfl ?_; intro b7
          refine X_store rfl rfl rfl rfl (by constructor) (by first | ((try simp only [cat, List.cons_append, List.nil_append, List.append_nil]); (repeat (first | exact flat_nil | refine flat_id ?_ | (refine flat_one ?_ ?_; rfl))); done) | exact PeerV.flat _ | exact PeerV.flat ⟨_, _⟩ | exact stFlat _ | exact phS_flat _ | exact phR_flat | (simp [flat, cat, Segs.cells, Seg.cells, Value.oneCell']; done)) (by repeat first | exact Upd.head | apply Upd.tail | apply Upd.over) F.lay86 rfl rfl ?_
          refine XD_end ?_
          refine K_then ?_
          refine C_seq ?_
          refine C_region_any (l := [0, 1, 2, 3, 4, 5, 6, 7, 8, 9, 10, 11, 12, 13, 14, 15, 16, 17, 18, 19, 20, 21, 22, 23, 24]) #[0, 1, 3, 0, 8, 0, 32, 0, 128, 0, 512, 2047, 4095, 0, 8192, 32767, 0, 65536, 262143, 0, 0, 1572864, 3670016, 8388607, 16777215] _ rfl (by kernel_rfl) (by kernel_rfl) St.drawn (fun _ h => h) ?_
          refine X_indexAddr_arr rfl rfl rfl rfl F.arr71 (by first | rfl | exact (Int.toNat_of_nonneg (by omega)).symm) (by first | omega | decide | (simp; omega)) rfl ?_
          refine X_load_cell rfl rfl rfl (by repeat first | exact List.Mem.head _ | refine List.Mem.tail _ ?_ | refine List.mem_append_right _ ?_) F.lay69 (stCell _ (by decide)) rfl ?_
          refine X_fs rfl rfl F.ok61 rfl (Rotl_ok _ ((behind wl g k).nth 0) 5 (hg9.nth 0) (by decide)) rfl ?_
          rintro _ rfl
          first | refine X_fieldAddr rfl rfl rfl F.foff86_0 rfl ?_ | refine X_fieldAddr_el rfl rfl rfl (by first | exact ⟨_, _, rfl⟩ | assumption | exact SlM.plain (by assumption) (by first | (simp; done) | (simp; omega)) | exact RdS.plain (by assumption) (by first | (simp; done) | (simp; omega)) | exact OSl.plain (by assumption) (by first | (simp; done) | (simp; omega))) F.foff86_0 rfl ?_
          first | refine X_load rfl rfl rfl (by repeat first | exact List.Mem.head _ | refine List.Mem.tail _ ?_ | refine List.mem_append_right _ ?_) F.lay84 rfl rfl rfl ?_ | refine X_load_el rfl rfl rfl (by first | assumption | exact SlM.mono (by assumption) (by assumption)) (by first | exact row_map (by omega) | exact List.getElem?_eq_getElem (by omega) | exact rfl | exact row_map (by first | (simp; done) | (simp; omega))) F.lay84 rfl rfl rfl ?_ | refine X_load_rd rfl rfl rfl (by assumption) (by first | exact row_map (by omega) | exact List.getElem?_eq_getElem (by omega) | exact rfl | exact row_map (by first | (simp; done) | (simp; omega))) F.lay84 rfl rfl rfl ?_ | refine X_load_mem rfl rfl rfl (by first | assumption | exact Mem.get_of (by assumption) (by repeat first | assumption | refine Mem.le.trans (by assumption) ?_)) F.lay84 rfl rfl rfl ?_ | refine X_load_osl rfl rfl rfl (by assumption) (by repeat first | exact Rem.here _ | exact Rem.two | apply Rem.skip | apply Rem.over) (by first | exact row_map (by omega) | exact List.getElem?_eq_getElem (by omega) | exact rfl | exact row_map (by first | (simp; done) | (simp; omega))) F.lay84 rfl rfl rfl ?_ | refine X_load_cell rfl rfl rfl (by repeat first | exact List.Mem.head _ | refine List.Mem.tail _ ?_ | refine List.mem_append_right _ ?_) F.lay84 (by first | exact id_at (by first | omega | decide) | exact arr_at (by first | omega | decide)) rfl ?_
          refine X_indexAddr_arr rfl rfl rfl rfl F.arr71 (by first | rfl | exact (Int.toNat_of_nonneg (by omega)).symm) (by first | omega | decide | (simp; omega)) rfl ?_
          refine X_load_cell rfl rfl rfl (by repeat first | exact List.Mem.head _ | refine List.Mem.tail _ ?_ | refine List.mem_append_right _ ?_) F.lay69 (stCell _ (by decide)) rfl ?_
          refine X_indexAddr_arr rfl rfl rfl rfl F.arr71 (by first | rfl | exact (Int.toNat_of_nonneg (by omega)).symm) (by first | omega | decide | (simp; omega)) rfl ?_
          refine X_load_cell rfl rfl rfl (by repeat first | exact List.Mem.head _ | refine List.Mem.tail _ ?_ | refine List.mem_append_right _ ?_) F.lay69 (stCell _ (by decide)) rfl ?_
          refine X_indexAddr_arr rfl rfl rfl rfl F.arr71 (by first | rfl | exact (Int.toNat_of_nonneg (by omega)).symm) (by first | omega | decide | (simp; omega)) rfl ?_
          refine X_load_cell rfl rfl rfl (by repeat first | exact List.Mem.head _ | refine List.Mem.tail _ ?_ | refine List.mem_append_right _ ?_) F.lay69 (stCell _ (by decide)) rfl ?_
          refine X_fsV rfl rfl rfl (mixF_ok (j := k / 20) (by omega)) rfl rfl (mix_ok _ (by omega) (hg9.nth 1) (hg9.nth 2) (hg9.nth 3)) rfl ?_
          rintro _ rfl
          refine X_ari rfl rfl rfl rfl rfl (by first | exact wrap_in (by decide) (by omega) | exact wrap_u64_in (by decide) (by omega) | exact wrap_u8_in (by decide) (by omega) | exact wrap_u32_in (by decide) (by omega) | exact wrap_u64 _ | exact wrap_u8 _ | exact wrap_u32 _ | exact rfl) rfl ?_
          refine X_indexAddr_arr rfl rfl rfl rfl F.arr71 (by first | rfl | exact (Int.toNat_of_nonneg (by omega)).symm) (by first | omega | decide | (simp; omega)) rfl ?_
          refine X_load_cell rfl rfl rfl (by repeat first | exact List.Mem.head _ | refine List.Mem.tail _ ?_ | refine List.mem_append_right _ ?_) F.lay69 (stCell _ (by decide)) rfl ?_
          refine X_ari rfl rfl rfl rfl rfl (by first | exact wrap_in (by decide) (by omega) | exact wrap_u64_in (by decide) (by omega) | exact wrap_u8_in (by decide) (by omega) | exact wrap_u32_in (by decide) (by omega) | exact wrap_u64 _ | exact wrap_u8 _ | exact wrap_u32 _ | exact rfl) rfl ?_
          first | refine X_fieldAddr rfl rfl rfl F.foff86_1 rfl ?_ | refine X_fieldAddr_el rfl rfl rfl (by first | exact ⟨_, _, rfl⟩ | assumption | exact SlM.plain (by assumption) (by first | (simp; done) | (simp; omega)) | exact RdS.plain (by assumption) (by first | (simp; done) | (simp; omega)) | exact OSl.plain (by assumption) (by first | (simp; done) | (simp; omega))) F.foff86_1 rfl ?_
          first | refine X_load rfl rfl rfl (by repeat first | exact List.Mem.head _ | refine List.Mem.tail _ ?_ | refine List.mem_append_right _ ?_) F.lay69 rfl rfl rfl ?_ | refine X_load_el rfl rfl rfl (by first | assumption | exact SlM.mono (by assumption) (by assumption)) (by first | exact row_map (by omega) | exact List.getElem?_eq_getElem (by omega) | exact rfl | exact row_map (by first | (simp; done) | (simp; omega))) F.lay69 rfl rfl rfl ?_ | refine X_load_rd rfl rfl rfl (by assumption) (by first | exact row_map (by omega) | exact List.getElem?_eq_getElem (by omega) | exact rfl | exact row_map (by first | (simp; done) | (simp; omega))) F.lay69 rfl rfl rfl ?_ | refine X_load_mem rfl rfl rfl (by first | assumption | exact Mem.get_of (by assumption) (by repeat first | assumption | refine Mem.le.trans (by assumption) ?_)) F.lay69 rfl rfl rfl ?_ | refine X_load_osl rfl rfl rfl (by assumption) (by repeat first | exact Rem.here _ | exact Rem.two | apply Rem.skip | apply Rem.over) (by first | exact row_map (by omega) | exact List.getElem?_eq_getElem (by omega) | exact rfl | exact row_map (by first | (simp; done) | (simp; omega))) F.lay69 rfl rfl rfl ?_ | refine X_load_cell rfl rfl rfl (by repeat first | exact List.Mem.head _ | refine List.Mem.tail _ ?_ | refine List.mem_append_right _ ?_) F.lay69 (by first | exact id_at (by first | omega | decide) | exact arr_at (by first | omega | decide)) rfl ?_
          refine X_ari rfl rfl rfl rfl rfl (by first | exact wrap_in (by decide) (by omega) | exact wrap_u64_in (by decide) (by omega) | exact wrap_u8_in (by decide) (by omega) | exact wrap_u32_in (by decide) (by omega) | exact wrap_u64 _ | exact wrap_u8 _ | exact wrap_u32 _ | exact rfl) rfl ?_
          refine X_move rfl rfl rfl rfl ?_
          refine X_move rfl rfl rfl rfl ?_
          refine X_indexAddr rfl rfl rfl rfl F.elem81 (by first | rfl | exact (Int.toNat_of_nonneg (by omega)).symm) (by first | omega | (simp; done) | (simp; omega)) (by first | exact ⟨_, _, rfl⟩ | assumption | exact SlM.plain (by assumption) (by first | (simp; done) | (simp; omega)) | exact RdS.plain (by assumption) (by first | (simp; done) | (simp; omega)) | exact OSl.plain (by assumption) (by first | (simp; done) | (simp; omega))) rfl ?_
          first | refine X_load rfl rfl rfl (by repeat first | exact List.Mem.head _ | refine List.Mem.tail _ ?_ | refine List.mem_append_right _ ?_) F.lay69 rfl rfl rfl ?_ | refine X_load_el rfl rfl rfl (by first | assumption | exact SlM.mono (by assumption) (by assumption)) (by first | exact row_map (by omega) | exact List.getElem?_eq_getElem (by omega) | exact rfl | exact row_map (by first | (simp; done) | (simp; omega))) F.lay69 rfl rfl rfl ?_ | refine X_load_rd rfl rfl rfl (by assumption) (by first | exact row_map (by omega) | exact List.getElem?_eq_getElem (by omega) | exact rfl | exact row_map (by first | (simp; done) | (simp; omega))) F.lay69 rfl rfl rfl ?_ | refine X_load_mem rfl rfl rfl (by first | assumption | exact Mem.get_of (by assumption) (by repeat first | assumption | refine Mem.le.trans (by assumption) ?_)) F.lay69 rfl rfl rfl ?_ | refine X_load_osl rfl rfl rfl (by assumption) (by repeat first | exact Rem.here _ | exact Rem.two | apply Rem.skip | apply Rem.over) (by first | exact row_map (by omega) | exact List.getElem?_eq_getElem (by omega) | exact rfl | exact row_map (by first | (simp; done) | (simp; omega))) F.lay69 rfl rfl rfl ?_ | refine X_load_cell rfl rfl rfl (by repeat first | exact List.Mem.head _ | refine List.Mem.tail _ ?_ | refine List.mem_append_right _ ?_) F.lay69 (by first | exact id_at (by first | omega | decide) | exact arr_at (by first | omega | decide)) rfl ?_
          refine X_ari rfl rfl rfl rfl rfl (by first | exact wrap_in (by decide) (by omega) | exact wrap_u64_in (by decide) (by omega) | exact wrap_u8_in (by decide) (by omega) | exact wrap_u32_in (by decide) (by omega) | exact wrap_u64 _ | exact wrap_u8 _ | exact wrap_u32 _ | exact rfl) rfl ?_
          rw [round_sum, addC_is (by omega)]
          refine X_assign rfl rfl rfl rfl ?_
          refine XD_end ?_
          refine K_then ?_
          refine C_region_any (l := [0, 1, 2, 3, 4, 5, 6, 7, 8, 9, 10, 11]) #[0, 0, 2, 0, 8, 24, 0, 64, 0, 256, 1023, 2047] _ rfl (by kernel_rfl) (by kernel_rfl) St.drawn (fun _ h => h) ?_
          refine X_move rfl rfl rfl rfl ?_
          refine X_indexAddr_arr rfl rfl rfl rfl F.arr71 (by first | rfl | exact (Int.toNat_of_nonneg (by omega)).symm) (by first | omega | decide | (simp; omega)) rfl ?_
          refine X_load_cell rfl rfl rfl (by repeat first | exact List.Mem.head _ | refine List.Mem.tail _ ?_ | refine List.mem_append_right _ ?_) F.lay69 (stCell _ (by decide)) rfl ?_
          refine X_indexAddr_arr rfl rfl rfl rfl F.arr71 (by first | rfl | exact (Int.toNat_of_nonneg (by omega)).symm) (by first | omega | decide | (simp; omega)) rfl ?_
          refine X_load_cell rfl rfl rfl (by repeat first | exact List.Mem.head _ | refine List.Mem.tail _ ?_ | refine List.mem_append_right _ ?_) F.lay69 (stCell _ (by decide)) rfl ?_
          refine X_fs rfl rfl F.ok61 rfl (Rotl_ok _ ((behind wl g k).nth 1) 30 (hg9.nth 1) (by decide)) rfl ?_
          rintro _ rfl
          refine X_indexAddr_arr rfl rfl rfl rfl F.arr71 (by first | rfl | exact (Int.toNat_of_nonneg (by omega)).symm) (by first | omega | decide | (simp; omega)) rfl ?_
          refine X_load_cell rfl rfl rfl (by repeat first | exact List.Mem.head _ | refine List.Mem.tail _ ?_ | refine List.mem_append_right _ ?_) F.lay69 (stCell _ (by decide)) rfl ?_
          refine X_indexAddr_arr rfl rfl rfl rfl F.arr71 (by first | rfl | exact (Int.toNat_of_nonneg (by omega)).symm) (by first | omega | decide | (simp; omega)) rfl ?_
          refine X_load_cell rfl rfl rfl (by repeat first | exact List.Mem.head _ | refine List.Mem.tail _ ?_ | refine List.mem_append_right _ ?_) F.lay69 (stCell _ (by decide)) rfl ?_
          refine X_buildC (v := aggV [stSeg (roundN k (behind wl g k) (wl[k]'(by omega)))]) rfl rfl (fun a ha => by simp [show a.eval (.tmp 56) = .int .u32 (((roundN k (behind wl g k) (wl[k]'(by omega))).a : Nat) : Int) from ha.ev rfl, show a.eval (.tmp 58) = .int .u32 (((roundN k (behind wl g k) (wl[k]'(by omega))).b : Nat) : Int) from ha.ev rfl, show a.eval (.tmp 61) = .int .u32 (((roundN k (behind wl g k) (wl[k]'(by omega))).c : Nat) : Int) from ha.ev rfl, show a.eval (.tmp 63) = .int .u32 (((roundN k (behind wl g k) (wl[k]'(by omega))).d : Nat) : Int) from ha.ev rfl, show a.eval (.tmp 65) = .int .u32 (((roundN k (behind wl g k) (wl[k]'(by omega))).e : Nat) : Int) from ha.ev rfl]) (F.bst (((roundN k (behind wl g k) (wl[k]'(by omega))).a : Nat) : Int) (((roundN k (behind wl g k) (wl[k]'(by omega))).b : Nat) : Int) (((roundN k (behind wl g k) (wl[k]'(by omega))).c : Nat) : Int) (((roundN k (behind wl g k) (wl[k]'(by omega))).d : Nat) : Int) (((roundN k (behind wl g k) (wl[k]'(by omega))).e : Nat) : Int)) rfl ?_
          rw [← behind_succ (V := wl) (h := g) (t := k) (by omega)]
          refine X_store rfl rfl rfl rfl (by constructor) (by first | ((try simp only [cat, List.cons_append, List.nil_append, List.append_nil]); (repeat (first | exact flat_nil | refine flat_id ?_ | (refine flat_one ?_ ?_; rfl))); done) | exact PeerV.flat _ | exact PeerV.flat ⟨_, _⟩ | exact stFlat _ | exact phS_flat _ | exact phR_flat | (simp [flat, cat, Segs.cells, Seg.cells, Value.oneCell']; done)) (by repeat first | exact Upd.head | apply Upd.tail | apply Upd.over) F.lay71 rfl rfl ?_
          refine XD_end ?_
          refine K_out ?_
          refine K_then ?_
          refine C_region (l := [0, 1]) rfl ?_
          refine X_ari rfl rfl rfl rfl rfl (by first | exact wrap_in (by decide) (by omega) | exact wrap_u64_in (by decide) (by omega) | exact wrap_u8_in (by decide) (by omega) | exact wrap_u32_in (by decide) (by omega) | exact wrap_u64 _ | exact wrap_u8 _ | exact wrap_u32 _ | exact rfl) rfl ?_
          refine X_move rfl rfl rfl rfl ?_
          refine XD_end ?_
          refine K_roundO (a' := [(25, _)]) (k + 1) ([(b4, rowO [stSeg (behind wl g (k + 1))] 71)]) (.cons (k := 25) rfl (.cons (k := 9) rfl (.cons (k := 8) rfl (.cons (k := 6) rfl (.cons (k := 5) rfl (.cons (k := 4) rfl (.cons (k := 2) rfl (.nil)))))))) (by first | exact Mem.le.refl _ | assumption | (repeat first | assumption | refine Mem.le.trans (by assumption) ?_)) (fun w hw => by first | exact hw | exact hw.cnt (by intro zz; first | exact Nat.le_refl _ | (simp only [cnt_app, cnt_cons, cnt_nil, cat, List.append_eq, List.append_assoc, List.cons_append, List.nil_append, List.append_nil]; omega) | (simp only [cnt_app, cnt_cons, cnt_nil, cat, List.append_eq, List.append_assoc, List.cons_append, List.nil_append, List.append_nil, PeerV.segs]; omega))) ?_ ?_
          · exact ⟨rfl, rfl, by omega, rfl⟩
          · omega
      · first | replace hc6 := dT hc6 | replace hc6 := dF hc6 | replace hc6 := nT hc6 | replace hc6 := nF hc6 | skip
        try simp only [PeerV.eta] at hc6
        first
        | (exfalso; omega)
        | (exfalso; simp [eqX] at hc6; done)
        | contradiction
        | skip
          refine C_exit ?_
          refine K_exit ?_
          refine K_exit ?_
          refine K_hit ?_
          refine K_then ?_
          refine C_pick (.cons (k := 8) rfl (.cons (k := 5) rfl (.cons (k := 4) rfl (.cons (k := 2) rfl .nil)))) ?_
          refine C_seq ?_
          refine C_seq ?_
          refine C_region (l := [0]) rfl ?_
          obtain rfl : k = 80 := by omega
          refine X_move rfl rfl rfl rfl ?_
          refine XD_end ?_
          refine K_then ?_
          refine C_block ?_
          refine C_pick (.cons (k := 68) rfl (.cons (k := 8) rfl (.cons (k := 5) rfl (.cons (k := 4) rfl (.cons (k := 2) rfl .nil))))) ?_
          refine C_loopO (Hin := [(b1, rowO [stSeg (g)] 71)]) (.succ .zero) (by repeat first | exact Rem.here _ | exact Rem.two | apply Rem.skip | apply Rem.over) (fun (i : Nat) M3 h1 z => M3 = M2 ∧ z = [(68, .int .i64 (i : Int))] ∧ i ≤ 5 ∧ h1 = [(b1, rowO [stSeg (sumTo g (behind wl g 80) i)] 71)]) (fun i => 5 - i) (0) (⟨rfl, rfl, by omega, rfl⟩) ?_
          rintro i M3 h1 z hm3 ⟨hM3, rfl, hi, rfl⟩
          subst hM3
          refine C_seq ?_
          refine C_region (l := [0]) rfl ?_
          refine X_cmp rfl rfl rfl rfl rfl rfl ?_
          refine XD_end ?_
          refine K_then ?_
          refine C_seq ?_
          refine C_cond rfl (fun hc8 => ?_) (fun hc8 => ?_)
          · first | replace hc8 := dT hc8 | replace hc8 := dF hc8 | replace hc8 := nT hc8 | replace hc8 := nF hc8 | skip
            try simp only [PeerV.eta] at hc8
            first
            | (exfalso; omega)
            | (exfalso; simp [eqX] at hc8; done)
            | contradiction
            | skip
              refine C_skip ?_
              refine K_then ?_
              refine C_seq ?_
              refine C_block ?_
              refine C_seq ?_
              refine C_region (l := [0, 1]) rfl ?_
              refine X_move rfl rfl rfl rfl ?_
              refine X_assign rfl rfl rfl rfl ?_
              refine XD_end ?_
              refine K_then ?_
              refine C_region_any (l := [0, 1, 2, 3, 4, 5, 6, 7, 8]) #[0, 1, 3, 0, 8, 24, 63, 127, 255] _ rfl (by kernel_rfl) (by kernel_rfl) St.drawn (fun _ h => h) ?_
              refine X_move rfl rfl rfl rfl ?_
              refine X_indexAddr_arr rfl rfl rfl rfl F.arr71 (by first | rfl | exact (Int.toNat_of_nonneg (by omega)).symm) (by first | omega | decide | (simp; omega)) rfl ?_
              refine X_load_cell rfl rfl rfl (by repeat first | exact List.Mem.head _ | refine List.Mem.tail _ ?_ | refine List.mem_append_right _ ?_) F.lay69 (stCell _ (by omega)) rfl ?_
              rw [sumTo_at (by omega)]
              refine X_move rfl rfl rfl rfl ?_
              refine X_indexAddr_arr rfl rfl rfl rfl F.arr71 (by first | rfl | exact (Int.toNat_of_nonneg (by omega)).symm) (by first | omega | decide | (simp; omega)) rfl ?_
              refine X_load_cell rfl rfl rfl (by repeat first | exact List.Mem.head _ | refine List.Mem.tail _ ?_ | refine List.mem_append_right _ ?_) F.lay69 (stCell _ (by omega)) rfl ?_
              refine X_ari rfl rfl rfl rfl rfl (by first | exact wrap_in (by decide) (by omega) | exact wrap_u64_in (by decide) (by omega) | exact wrap_u8_in (by decide) (by omega) | exact wrap_u32_in (by decide) (by omega) | exact wrap_u64 _ | exact wrap_u8 _ | exact wrap_u32 _ | exact rfl) rfl ?_
              rw [add_sum]
              refine X_indexAddr_arr rfl rfl rfl rfl F.arr71 (by first | rfl | exact (Int.toNat_of_nonneg (by omega)).symm) (by first | omega | decide | (simp; omega)) rfl ?_
              refine X_store_cell rfl rfl rfl rfl rfl rfl (by repeat first | exact Upd.head | apply Upd.tail | apply Upd.over) F.lay69 (arr_len (f := stV (sumTo g (behind wl g 80) i)) (by omega)) (arr_set (by omega)) ?_
              rw [sumTo_set (by omega)]
              refine XD_end ?_
              refine K_out ?_
              refine K_then ?_
              refine C_region (l := [0, 1]) rfl ?_
              refine X_ari rfl rfl rfl rfl rfl (by first | exact wrap_in (by decide) (by omega) | exact wrap_u64_in (by decide) (by omega) | exact wrap_u8_in (by decide) (by omega) | exact wrap_u32_in (by decide) (by omega) | exact wrap_u64 _ | exact wrap_u8 _ | exact wrap_u32 _ | exact rfl) rfl ?_
              refine X_move rfl rfl rfl rfl ?_
              refine XD_end ?_
              refine K_roundO (a' := [(68, _)]) (i + 1) ([(b1, rowO [stSeg (sumTo g (behind wl g 80) (i + 1))] 71)]) (.cons (k := 68) rfl (.cons (k := 8) rfl (.cons (k := 5) rfl (.cons (k := 4) rfl (.cons (k := 2) rfl (.nil)))))) (by first | exact Mem.le.refl _ | assumption | (repeat first | assumption | refine Mem.le.trans (by assumption) ?_)) (fun w hw => by first | exact hw | exact hw.cnt (by intro zz; first | exact Nat.le_refl _ | (simp only [cnt_app, cnt_cons, cnt_nil, cat, List.append_eq, List.append_assoc, List.cons_append, List.nil_append, List.append_nil]; omega) | (simp only [cnt_app, cnt_cons, cnt_nil, cat, List.append_eq, List.append_assoc, List.cons_append, List.nil_append, List.append_nil, PeerV.segs]; omega))) ?_ ?_
              · exact ⟨rfl, rfl, by omega, rfl⟩
              · omega
          · first | replace hc8 := dT hc8 | replace hc8 := dF hc8 | replace hc8 := nT hc8 | replace hc8 := nF hc8 | skip
            try simp only [PeerV.eta] at hc8
            first
            | (exfalso; omega)
            | (exfalso; simp [eqX] at hc8; done)
            | contradiction
            | skip
              refine C_exit ?_
              refine K_exit ?_
              refine K_exit ?_
              refine K_hit ?_
              refine K_then ?_
              refine C_pick (.cons (k := 5) rfl (.cons (k := 4) rfl (.cons (k := 2) rfl .nil))) ?_
              refine C_seq ?_
              refine C_region (l := [0, 1, 2]) rfl ?_
              first | refine X_load rfl rfl rfl (by repeat first | exact List.Mem.head _ | refine List.Mem.tail _ ?_ | refine List.mem_append_right _ ?_) F.lay71 rfl rfl rfl ?_ | refine X_load_el rfl rfl rfl (by first | assumption | exact SlM.mono (by assumption) (by assumption)) (by first | exact row_map (by omega) | exact List.getElem?_eq_getElem (by omega) | exact rfl | exact row_map (by first | (simp; done) | (simp; omega))) F.lay71 rfl rfl rfl ?_ | refine X_load_rd rfl rfl rfl (by assumption) (by first | exact row_map (by omega) | exact List.getElem?_eq_getElem (by omega) | exact rfl | exact row_map (by first | (simp; done) | (simp; omega))) F.lay71 rfl rfl rfl ?_ | refine X_load_mem rfl rfl rfl (by first | assumption | exact Mem.get_of (by assumption) (by repeat first | assumption | refine Mem.le.trans (by assumption) ?_)) F.lay71 rfl rfl rfl ?_ | refine X_load_osl rfl rfl rfl (by assumption) (by repeat first | exact Rem.here _ | exact Rem.two | apply Rem.skip | apply Rem.over) (by first | exact row_map (by omega) | exact List.getElem?_eq_getElem (by omega) | exact rfl | exact row_map (by first | (simp; done) | (simp; omega))) F.lay71 rfl rfl rfl ?_
              refine X_store rfl rfl rfl rfl (by constructor) (by first | ((try simp only [cat, List.cons_append, List.nil_append, List.append_nil]); (repeat (first | exact flat_nil | refine flat_id ?_ | (refine flat_one ?_ ?_; rfl))); done) | exact PeerV.flat _ | exact PeerV.flat ⟨_, _⟩ | exact stFlat _ | exact phS_flat _ | exact phR_flat | (simp [flat, cat, Segs.cells, Seg.cells, Value.oneCell']; done)) (by repeat first | exact Upd.head | apply Upd.tail | apply Upd.over) F.lay71 rfl rfl ?_
              refine X_assign rfl rfl rfl rfl ?_
              refine XD_end ?_
              refine K_then ?_
              refine C_pick (.cons (k := 5) rfl (.cons (k := 4) rfl .nil)) ?_
              refine C_ret ?_
              refine K_end (.inr rfl) (.cell rfl (by repeat first | exact List.Mem.head _ | refine List.Mem.tail _ ?_ | refine List.mem_append_right _ ?_) F.lay71 rfl rfl (.tmp rfl .nil)) (fun w hw => ?_)
              obtain rfl : i = 5 := by omega
              refine ⟨_, M3, rfl, (by first | exact Mem.le.refl _ | assumption | exact Mem.le.trans (by assumption) (by assumption) | exact Mem.le.trans (by assumption) (Mem.le.trans (by assumption) (by assumption))), hw.cnt (by intro zz; first | exact Nat.le_refl _ | (simp only [cnt_app, cnt_cons, cnt_nil, cat, List.append_eq, List.append_assoc, List.cons_append, List.nil_append, List.append_nil]; omega) | (simp only [cnt_app, cnt_cons, cnt_nil, cat, List.append_eq, List.append_assoc, List.cons_append, List.nil_append, List.append_nil, PeerV.segs]; omega)), ?_⟩
              subst hwl
              rw [← stepN_is (by rw [natsOf_len, hs])]
              rfl

end Go.Proofs.YtbafnjniijodfaaDoor
/-
  DERIVED: THE SHELF's CONTRACTS AT THIS DUMP, IN PLAIN WORDS (tools/lay-plain.mjs out of 'YtbafnjniijodfaaDoorLayTmp.lean', which tools/lay-shelf.mjs wrote): THE SAME DECLARATIONS UNDER THE SAME NAMES: 'import', 'namespace', 'open', 'def', 'theorem' AND NOTHING ELSE: no command of the shelf's: FOR A HAND-IN. Each laying: the table of numbers ('.._ren') and one theorem, a field a fact of the dump's own or the kernel's comparison; each contract: ONE APPLICATION.
-/
namespace Go.Proofs
open Go.Shelf
def Tryd.repL_ren : Go.Shelf.Ren := ⟨fun | 105 => 58 | 212 => 77 | 99 => 78 | 165 => 79 | 166 => 80 | 170 => 81 | 169 => 82 | 263 => 98 | 264 => 99 | 206 => 100 | 240 => 101 | 241 => 102 | 276 => 108 | 277 => 109 | n => n, fun | 9 => 9 | 3 => 3 | 4 => 4 | 20 => 20 | 0 => 0 | 46 => 63 | 109 => 102 | 5 => 5 | 72 => 107 | 76 => 111 | 51 => 69 | 146 => 126 | 53 => 79 | 148 => 129 | 70 => 105 | 37 => 65 | 75 => 110 | 127 => 131 | 164 => 139 | 80 => 114 | n => n, fun | n => n⟩
theorem Tryd.repL : Go.Proofs.Lays.n105 Tryd.prog Tryd.repL_ren := {
  mixed := by kernel_rfl
  f99 := Tryd.func78.trans (congrArg some (by kernel_rfl))
  f105 := Tryd.func58.trans (congrArg some (by kernel_rfl))
  f165 := Tryd.func79.trans (congrArg some (by kernel_rfl))
  f166 := Tryd.func80.trans (congrArg some (by kernel_rfl))
  f169 := Tryd.func82.trans (congrArg some (by kernel_rfl))
  f170 := Tryd.func81.trans (congrArg some (by kernel_rfl))
  f206 := Tryd.func100.trans (congrArg some (by kernel_rfl))
  f212 := Tryd.func77.trans (congrArg some (by kernel_rfl))
  f240 := Tryd.func101.trans (congrArg some (by kernel_rfl))
  f241 := Tryd.func102.trans (congrArg some (by kernel_rfl))
  f263 := Tryd.func98.trans (congrArg some (by kernel_rfl))
  f264 := Tryd.func99.trans (congrArg some (by kernel_rfl))
  f276 := Tryd.func108.trans (congrArg some (by kernel_rfl))
  f277 := Tryd.func109.trans (congrArg some (by kernel_rfl))
  t0 := Tryd.underlying0
  a0 := Tryd.isAgg0
  z0 := Tryd.sizeOf0
  v0 := Tryd.zeroValue0
  t3 := Tryd.underlying3
  a3 := Tryd.isAgg3
  z3 := Tryd.sizeOf3
  v3 := Tryd.zeroValue3
  t4 := Tryd.underlying4
  a4 := Tryd.isAgg4
  z4 := Tryd.sizeOf4
  v4 := Tryd.zeroValue4
  t5 := Tryd.underlying5
  a5 := Tryd.isAgg5
  z5 := Tryd.sizeOf5
  v5 := Tryd.zeroValue5
  t9 := Tryd.underlying9
  a9 := Tryd.isAgg9
  z9 := Tryd.sizeOf9
  v9 := Tryd.zeroValue9
  t20 := Tryd.underlying20
  a20 := Tryd.isAgg20
  z20 := Tryd.sizeOf20
  v20 := Tryd.zeroValue20
  t37 := Tryd.underlying65
  a37 := Tryd.isAgg65
  z37 := Tryd.sizeOf65
  v37 := Tryd.zeroValue65
  t46 := Tryd.underlying63
  a46 := Tryd.isAgg63
  z46 := Tryd.sizeOf63
  v46 := Tryd.zeroValue63
  t51 := Tryd.underlying69
  a51 := Tryd.isAgg69
  z51 := Tryd.sizeOf69
  v51 := Tryd.zeroValue69
  t53 := Tryd.underlying79
  a53 := Tryd.isAgg79
  z53 := Tryd.sizeOf79
  v53 := Tryd.zeroValue79
  t70 := Tryd.underlying105
  a70 := Tryd.isAgg105
  z70 := Tryd.sizeOf105
  v70 := Tryd.zeroValue105
  t72 := Tryd.underlying107
  a72 := Tryd.isAgg107
  z72 := Tryd.sizeOf107
  v72 := Tryd.zeroValue107
  t75 := Tryd.underlying110
  a75 := Tryd.isAgg110
  z75 := Tryd.sizeOf110
  v75 := Tryd.zeroValue110
  t76 := Tryd.underlying111
  a76 := Tryd.isAgg111
  z76 := Tryd.sizeOf111
  v76 := Tryd.zeroValue111
  t109 := Tryd.underlying102
  a109 := Tryd.isAgg102
  z109 := Tryd.sizeOf102
  v109 := Tryd.zeroValue102
  t127 := Tryd.underlying131
  a127 := Tryd.isAgg131
  z127 := Tryd.sizeOf131
  v127 := Tryd.zeroValue131
  t146 := Tryd.underlying126
  a146 := Tryd.isAgg126
  z146 := Tryd.sizeOf126
  v146 := Tryd.zeroValue126
  t148 := Tryd.underlying129
  a148 := Tryd.isAgg129
  z148 := Tryd.sizeOf129
  v148 := Tryd.zeroValue129
  t164 := Tryd.underlying139
  a164 := Tryd.isAgg139
  z164 := Tryd.sizeOf139
  v164 := Tryd.zeroValue139 }
end Go.Proofs
/-
  strings.Repeat, in our terms, where nothing is said of how much was drawn.
-/
set_option linter.unusedSimpArgs false
set_option linter.unusedVariables false
set_option linter.unnecessarySimpa false
namespace Go.Esp
open Go.Proofs Go.Shelf Go.RowKit Go.Lib
theorem St.below {M : Mem} {H : Hp} {w w' : World} (hM : M.dr = 0) (h : St M H w) (hb : RowKit.Below w.heap.size w w') : St M H w' := by
  have hk : ∀ b o, w.heap[b]? = some o → w'.heap[b]? = some o := fun b o hbo => by
    rw [hb.block b (Array.getElem?_eq_some_iff.1 hbo).1]; exact hbo
  exact ⟨fun b o hm => hk b o (h.mem b o hm), fun b o hm => hk b o (h.own b o hm), h.sep, h.nodup, hb.os.trans h.io.1, hb.tape.trans h.io.2.1, hb.output.trans h.io.2.2.1, by rw [hM]; exact Nat.zero_le _⟩
theorem repExtra : Builder.Extra Tryd.prog Tryd.repL_ren := {
  sizeBuilder := by kernel_rfl
  liesBuilder := by kernel_rfl
  t5 := Tryd.repL.t5
  a5 := Tryd.repL.a5
  z5 := Tryd.repL.z5
  v5 := Tryd.repL.v5
  infoByte := by kernel_rfl
  cellsByte := by kernel_rfl
  sizeByte := by kernel_rfl
  neB5 := by decide }
theorem repeatL_one (b : UInt8) : ∀ c, repeatL [b] c = List.replicate c b
  | 0 => rfl
  | c + 1 => by rw [List.replicate_succ, ← repeatL_one b c]; rfl
theorem Repeat_ok (M : Mem) (s : ByteArray) (c : Nat) (hM : M.dr = 0) (hc : c ≤ 9223372036854775807) (hl : s.size * c ≤ 140737488355328) :
    Fs Tryd.prog (Tryd.repL_ren.f 105) [.string s, .int .i64 (c : Int)] M (fun v => v = .string ⟨(repeatL s.data.toList c).toArray⟩) := fun H w hw =>
  (Any.strings_Repeat Tryd.repL repExtra s c w hc hl).mono fun e w' ⟨he, hb⟩ => ⟨_, he, St.below hM hw hb, rfl⟩
end Go.Esp
/-
  What is added to a text ahead of its sum; plain Lean.
-/
set_option linter.unusedSimpArgs false
set_option linter.unusedVariables false
set_option linter.unnecessarySimpa false
namespace Go.Esp
open Go.Lib Go.Proofs
theorem natsOf_app (a b : ByteArray) : natsOf (a ++ b) = natsOf a ++ natsOf b := by
  unfold natsOf; rw [ByteArray.data_append, Array.toList_append, List.map_append]
theorem natsOf_rep (c : Nat) : natsOf ⟨(repeatL (⟨#[0]⟩ : ByteArray).data.toList c).toArray⟩ = List.replicate c 0 := by
  show (repeatL [0] c).map _ = _
  rw [repeatL_one, List.map_replicate]; rfl
theorem rep_size (c : Nat) : (⟨(repeatL (⟨#[0]⟩ : ByteArray).data.toList c).toArray⟩ : ByteArray).size = c := by
  rw [← natsOf_len, natsOf_rep, List.length_replicate]
theorem natsOf_str {l : List Nat} (h : ∀ n ∈ l, n < 256) : natsOf (strOfNums (l.map fun n : Nat => (n : Int))) = l := by
  unfold natsOf
  rw [strOfNums_data, List.map_map, List.map_map]
  refine (List.map_congr_left (g := id) fun n hn => ?_).trans (List.map_id l)
  have := h n hn
  simp [UInt8.toNat_ofNat', Nat.mod_eq_of_lt this]
/-- The bytes of a length. -/
def tailN (n : Nat) : List Nat := (List.range 8).map fun j => n / 256 ^ (7 - j) % 256
/-- Some of them, from the back on. -/
def rowsT (n i : Nat) : List Nat := List.replicate (8 - i) 0 ++ (tailN n).drop (8 - i)
theorem rowsT_len (n i : Nat) (h : i ≤ 8) : (rowsT n i).length = 8 := by simp [rowsT, tailN] <;> omega
theorem rowsT_set {n i : Nat} (h : i < 8) : (rowsT n i).set (7 - i) (n / 256 ^ i % 256) = rowsT n (i + 1) := by
  match i, h with
  | 0, _ => rfl
  | 1, _ => rfl
  | 2, _ => rfl
  | 3, _ => rfl
  | 4, _ => rfl
  | 5, _ => rfl
  | 6, _ => rfl
  | 7, _ => rfl
theorem rowsT_all (n : Nat) : rowsT n 8 = tailN n := rfl
theorem tailN_lt {n : Nat} : ∀ b ∈ tailN n, b < 256 := fun b hb => by
  obtain ⟨j, -, rfl⟩ := List.mem_map.1 hb
  exact Nat.mod_lt _ (by decide)
theorem byte_of (n i : Nat) : w8 ((n : Int) / 2 ^ (8 * i)) = ((n / 256 ^ i % 256 : Nat) : Int) := by
  rw [show (2 : Int) ^ (8 * i) = ((256 ^ i : Nat) : Int) by rw [Int.pow_mul]; simp]
  unfold w8
  rw [← Int.natCast_ediv]; omega
theorem pad_is (s : ByteArray) : natsOf (((s ++ ⟨#[128]⟩) ++ ⟨(repeatL (⟨#[0]⟩ : ByteArray).data.toList ((119 - s.size % 64) % 64)).toArray⟩) ++ strOfNums ((tailN (8 * s.size)).map fun n : Nat => (n : Int))) = padN (natsOf s) := by
  rw [natsOf_app, natsOf_app, natsOf_app, natsOf_rep, natsOf_str tailN_lt]
  unfold padN
  rw [natsOf_len]
  show ((natsOf s ++ [128]) ++ _) ++ _ = _
  simp [tailN]
end Go.Esp
