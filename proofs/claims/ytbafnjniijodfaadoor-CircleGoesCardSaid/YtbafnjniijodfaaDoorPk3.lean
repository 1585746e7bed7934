/-
  Texts of this claim, one behind the other: T2, T3.
-/
import Derived.Test.YtbafnjniijodfaaDoorPk2
/-
  Powers; what lies between; no peer.
-/
set_option linter.unusedSimpArgs false
set_option linter.unusedVariables false
set_option linter.unnecessarySimpa false
set_option maxRecDepth 8000
set_option maxHeartbeats 1000000
namespace Go.Proofs.YtbafnjniijodfaaDoor
open Go.Esp
theorem F.bld38 : Bld Tryd.prog 38 [[.one (.int .i64 0)], [idSeg 0]] := by rw [idSeg0]; exact ⟨by kernel_rfl, by kernel_rfl⟩
theorem F.guard32 : Tryd.prog.eqGuardType Tryd.prog.depth 32 = false := by kernel_rfl
theorem F.kinds32 : kindsOf Tryd.prog 20 32 = some [.i .u8, .i .u8, .i .u8, .i .u8, .i .u8, .i .u8, .i .u8, .i .u8, .i .u8, .i .u8, .i .u8, .i .u8, .i .u8, .i .u8, .i .u8, .i .u8, .i .u8, .i .u8, .i .u8, .i .u8] := by kernel_rfl
theorem F.lay38 : lay Tryd.prog 38 = some (true, 21) := by kernel_rfl
theorem F.ok27 : okFn Tryd.prog 27 = true := by kernel_rfl
theorem F.ok41 : okFn Tryd.prog 41 = true := by kernel_rfl
theorem F.zero38 : zeroOf Tryd.prog 38 = some (aggV [.one (.int .i64 0), idSeg 0]) := by rw [idSeg0]; kernel_rfl

theorem Power_ok_in (M : Mem) (n : Nat) (h : n < 160) : Fs Tryd.prog 24 [.int .i64 (n : Int)] M (fun v => v = .tuple #[aggV [idSeg (powP n)], .int .i64 0]) := by
  have h8 : ((n : Nat) : Int) % 8 = ((n % 8 : Nat) : Int) := (Int.natCast_emod _ _).symm
  have h9 : (19 : Int) - ((n : Nat) : Int) / 8 = ((19 - n / 8 : Nat) : Int) := by omega
  refine fs_enter Tryd.func24 rfl Tryd.ntmps24 rfl ?_; intro H
  refine C_seq ?_
  refine C_region (l := [0, 1]) rfl ?_
  refine X_alloc rfl rfl F.zero32 (by constructor) rfl ?_; intro b1
  refine X_assign rfl rfl rfl rfl ?_
  refine XD_end ?_
  refine K_then ?_
  refine C_seq ?_
  refine C_region (l := [0]) rfl ?_
  refine X_alloc rfl rfl F.zero32 (by constructor) rfl ?_; intro b2
  refine XD_end ?_
  refine K_then ?_
  refine C_seq ?_
  refine C_seq ?_
  refine C_region (l := [0, 1, 2, 3, 4, 5]) rfl ?_
  refine X_move rfl rfl rfl rfl ?_
  refine X_cmp rfl rfl rfl rfl rfl rfl ?_
  refine X_move rfl rfl rfl rfl ?_
  refine XD_part 7 rfl (fun hc3 => ?_) (fun hc3 => ?_)
  · first | replace hc3 := dT hc3 | replace hc3 := dF hc3 | replace hc3 := nT hc3 | replace hc3 := nF hc3 | skip
    try simp only [PeerV.eta] at hc3
    first
    | (exfalso; omega)
    | (exfalso; simp [eqX] at hc3; done)
    | contradiction
    | skip
      refine X_skip rfl rfl rfl ?_
      refine X_skip rfl rfl rfl ?_
      refine X_pick rfl rfl rfl rfl rfl ?_
      refine XD_end ?_
      refine K_then ?_
      refine C_pick (.cons (k := 10) rfl (.cons (k := 4) rfl (.cons (k := 3) rfl (.cons (k := 2) rfl (.cons (k := 0) rfl .nil))))) ?_
      refine C_true rfl ?_
      refine C_seq ?_
      refine C_region (l := [0, 1, 2]) rfl ?_
      first | refine X_load rfl rfl rfl (by repeat first | exact List.Mem.head _ | refine List.Mem.tail _ ?_ | refine List.mem_append_right _ ?_) F.lay32 rfl rfl rfl ?_ | refine X_load_el rfl rfl rfl (by first | assumption | exact SlM.mono (by assumption) (by assumption)) (by first | exact row_map (by omega) | exact List.getElem?_eq_getElem (by omega) | exact rfl | exact row_map (by first | (simp; done) | (simp; omega))) F.lay32 rfl rfl rfl ?_ | refine X_load_rd rfl rfl rfl (by assumption) (by first | exact row_map (by omega) | exact List.getElem?_eq_getElem (by omega) | exact rfl | exact row_map (by first | (simp; done) | (simp; omega))) F.lay32 rfl rfl rfl ?_ | refine X_load_mem rfl rfl rfl (by first | assumption | exact Mem.get_of (by assumption) (by repeat first | assumption | refine Mem.le.trans (by assumption) ?_)) F.lay32 rfl rfl rfl ?_ | refine X_load_osl rfl rfl rfl (by assumption) (by repeat first | exact Rem.here _ | exact Rem.two | apply Rem.skip | apply Rem.over) (by first | exact row_map (by omega) | exact List.getElem?_eq_getElem (by omega) | exact rfl | exact row_map (by first | (simp; done) | (simp; omega))) F.lay32 rfl rfl rfl ?_
      refine X_store rfl rfl rfl rfl (by constructor) (by first | ((try simp only [cat, List.cons_append, List.nil_append, List.append_nil]); (repeat (first | exact flat_nil | refine flat_id ?_ | (refine flat_one ?_ ?_; rfl))); done) | exact PeerV.flat _ | exact PeerV.flat ⟨_, _⟩ | (simp [flat, cat, Segs.cells, Seg.cells, Value.oneCell']; done)) (by repeat first | exact Upd.head | apply Upd.tail | apply Upd.over) F.lay32 rfl rfl ?_
      refine X_assign rfl rfl rfl rfl ?_
      refine XD_end ?_
      refine K_then ?_
      refine C_pick (.cons (k := 3) rfl (.cons (k := 4) rfl (.cons (k := 2) rfl (.cons (k := 0) rfl .nil)))) ?_
      refine C_ret ?_
      refine K_ret ?_
      refine K_end (.inr rfl) (.cell rfl (by repeat first | exact List.Mem.head _ | refine List.Mem.tail _ ?_ | refine List.mem_append_right _ ?_) F.lay32 rfl rfl (.tmp rfl .nil)) (fun w hw => ?_)
      refine ⟨_, rfl, (hw.cnt (by intro zz; first | exact Nat.le_refl _ | (simp only [cnt_app, cnt_cons, cnt_nil, cat, List.append_eq, List.append_assoc, List.cons_append, List.nil_append, List.append_nil]; omega))), ?_⟩
      clear hw
      rfl
  · first | replace hc3 := dT hc3 | replace hc3 := dF hc3 | replace hc3 := nT hc3 | replace hc3 := nF hc3 | skip
    try simp only [PeerV.eta] at hc3
    first
    | (exfalso; omega)
    | (exfalso; simp [eqX] at hc3; done)
    | contradiction
    | skip
      refine X_move rfl rfl rfl rfl ?_
      refine X_cmp rfl rfl rfl rfl rfl rfl ?_
      refine X_pick rfl rfl rfl rfl rfl ?_
      refine XD_end ?_
      refine K_then ?_
      refine C_pick (.cons (k := 10) rfl (.cons (k := 4) rfl (.cons (k := 3) rfl (.cons (k := 2) rfl (.cons (k := 0) rfl .nil))))) ?_
      refine C_cond rfl (fun hc4 => ?_) (fun hc4 => ?_)
      · first | replace hc4 := dT hc4 | replace hc4 := dF hc4 | replace hc4 := nT hc4 | replace hc4 := nF hc4 | skip
        try simp only [PeerV.eta] at hc4
        first
        | (exfalso; omega)
        | (exfalso; simp [eqX] at hc4; done)
        | contradiction
        | skip
          refine C_seq ?_
          refine C_region (l := [0, 1, 2]) rfl ?_
          first | refine X_load rfl rfl rfl (by repeat first | exact List.Mem.head _ | refine List.Mem.tail _ ?_ | refine List.mem_append_right _ ?_) F.lay32 rfl rfl rfl ?_ | refine X_load_el rfl rfl rfl (by first | assumption | exact SlM.mono (by assumption) (by assumption)) (by first | exact row_map (by omega) | exact List.getElem?_eq_getElem (by omega) | exact rfl | exact row_map (by first | (simp; done) | (simp; omega))) F.lay32 rfl rfl rfl ?_ | refine X_load_rd rfl rfl rfl (by assumption) (by first | exact row_map (by omega) | exact List.getElem?_eq_getElem (by omega) | exact rfl | exact row_map (by first | (simp; done) | (simp; omega))) F.lay32 rfl rfl rfl ?_ | refine X_load_mem rfl rfl rfl (by first | assumption | exact Mem.get_of (by assumption) (by repeat first | assumption | refine Mem.le.trans (by assumption) ?_)) F.lay32 rfl rfl rfl ?_ | refine X_load_osl rfl rfl rfl (by assumption) (by repeat first | exact Rem.here _ | exact Rem.two | apply Rem.skip | apply Rem.over) (by first | exact row_map (by omega) | exact List.getElem?_eq_getElem (by omega) | exact rfl | exact row_map (by first | (simp; done) | (simp; omega))) F.lay32 rfl rfl rfl ?_
          refine X_store rfl rfl rfl rfl (by constructor) (by first | ((try simp only [cat, List.cons_append, List.nil_append, List.append_nil]); (repeat (first | exact flat_nil | refine flat_id ?_ | (refine flat_one ?_ ?_; rfl))); done) | exact PeerV.flat _ | exact PeerV.flat ⟨_, _⟩ | (simp [flat, cat, Segs.cells, Seg.cells, Value.oneCell']; done)) (by repeat first | exact Upd.head | apply Upd.tail | apply Upd.over) F.lay32 rfl rfl ?_
          refine X_assign rfl rfl rfl rfl ?_
          refine XD_end ?_
          refine K_then ?_
          refine C_pick (.cons (k := 3) rfl (.cons (k := 4) rfl (.cons (k := 2) rfl (.cons (k := 0) rfl .nil)))) ?_
          refine C_ret ?_
          refine K_ret ?_
          refine K_end (.inr rfl) (.cell rfl (by repeat first | exact List.Mem.head _ | refine List.Mem.tail _ ?_ | refine List.mem_append_right _ ?_) F.lay32 rfl rfl (.tmp rfl .nil)) (fun w hw => ?_)
          refine ⟨_, rfl, (hw.cnt (by intro zz; first | exact Nat.le_refl _ | (simp only [cnt_app, cnt_cons, cnt_nil, cat, List.append_eq, List.append_assoc, List.cons_append, List.nil_append, List.append_nil]; omega))), ?_⟩
          clear hw
          rfl
      · first | replace hc4 := dT hc4 | replace hc4 := dF hc4 | replace hc4 := nT hc4 | replace hc4 := nF hc4 | skip
        try simp only [PeerV.eta] at hc4
        first
        | (exfalso; omega)
        | (exfalso; simp [eqX] at hc4; done)
        | contradiction
        | skip
          refine C_skip ?_
          refine K_then ?_
          refine C_pick (.cons (k := 4) rfl (.cons (k := 3) rfl (.cons (k := 2) rfl (.cons (k := 0) rfl .nil)))) ?_
          refine C_seq ?_
          refine C_region (l := [0, 1, 2, 3, 4, 5, 6, 7]) rfl ?_
          refine X_move rfl rfl rfl rfl ?_
          refine X_quo rfl rfl rfl rfl (by first | decide | omega) (by first | exact quo_in rfl (by omega) (by omega) (by omega) | rfl) rfl ?_
          refine X_ari rfl rfl rfl rfl rfl (by first | exact wrap_in (by decide) (by omega) | exact wrap_u64_in (by decide) (by omega) | exact wrap_u8_in (by decide) (by omega) | exact wrap_u32_in (by decide) (by omega) | exact wrap_u64 _ | exact wrap_u8 _ | exact wrap_u32 _ | exact rfl) rfl ?_
          rw [h9]
          refine X_move rfl rfl rfl rfl ?_
          refine X_rem rfl rfl rfl rfl (by first | decide | omega) (by first | exact rem_nn (by omega) | rfl) rfl ?_
          rw [h8]
          refine X_shift rfl rfl rfl rfl (by first | decide | omega) rfl rfl rfl ?_
          refine X_indexAddr_arr rfl rfl rfl rfl F.arr32 (by first | rfl | exact (Int.toNat_of_nonneg (by omega)).symm) (by first | omega | decide | (simp; omega)) rfl ?_
          have hl8 : n / 8 ≤ 19 := by omega
          refine X_store_cell rfl rfl rfl rfl rfl rfl (by repeat first | exact Upd.head | apply Upd.tail | apply Upd.over) F.lay5 (arr_len (by omega)) (arr_set (by omega)) ?_
          rw [powV0 (k := n) h rfl shl_one (by omega)]
          refine XD_end ?_
          refine K_then ?_
          refine C_pick (.cons (k := 4) rfl (.cons (k := 3) rfl (.cons (k := 2) rfl .nil))) ?_
          refine C_seq ?_
          refine C_region (l := [0, 1, 2]) rfl ?_
          first | refine X_load rfl rfl rfl (by repeat first | exact List.Mem.head _ | refine List.Mem.tail _ ?_ | refine List.mem_append_right _ ?_) F.lay32 rfl rfl rfl ?_ | refine X_load_el rfl rfl rfl (by first | assumption | exact SlM.mono (by assumption) (by assumption)) (by first | exact row_map (by omega) | exact List.getElem?_eq_getElem (by omega) | exact rfl | exact row_map (by first | (simp; done) | (simp; omega))) F.lay32 rfl rfl rfl ?_ | refine X_load_rd rfl rfl rfl (by assumption) (by first | exact row_map (by omega) | exact List.getElem?_eq_getElem (by omega) | exact rfl | exact row_map (by first | (simp; done) | (simp; omega))) F.lay32 rfl rfl rfl ?_ | refine X_load_mem rfl rfl rfl (by first | assumption | exact Mem.get_of (by assumption) (by repeat first | assumption | refine Mem.le.trans (by assumption) ?_)) F.lay32 rfl rfl rfl ?_ | refine X_load_osl rfl rfl rfl (by assumption) (by repeat first | exact Rem.here _ | exact Rem.two | apply Rem.skip | apply Rem.over) (by first | exact row_map (by omega) | exact List.getElem?_eq_getElem (by omega) | exact rfl | exact row_map (by first | (simp; done) | (simp; omega))) F.lay32 rfl rfl rfl ?_
          refine X_store rfl rfl rfl rfl (by constructor) (by first | ((try simp only [cat, List.cons_append, List.nil_append, List.append_nil]); (repeat (first | exact flat_nil | refine flat_id ?_ | (refine flat_one ?_ ?_; rfl))); done) | exact PeerV.flat _ | exact PeerV.flat ⟨_, _⟩ | (simp [flat, cat, Segs.cells, Seg.cells, Value.oneCell']; done)) (by repeat first | exact Upd.head | apply Upd.tail | apply Upd.over) F.lay32 rfl rfl ?_
          refine X_assign rfl rfl rfl rfl ?_
          refine XD_end ?_
          refine K_then ?_
          refine C_pick (.cons (k := 3) rfl (.cons (k := 2) rfl .nil)) ?_
          refine C_ret ?_
          refine K_end (.inr rfl) (.cell rfl (by repeat first | exact List.Mem.head _ | refine List.Mem.tail _ ?_ | refine List.mem_append_right _ ?_) F.lay32 rfl rfl (.tmp rfl .nil)) (fun w hw => ?_)
          refine ⟨_, rfl, (hw.cnt (by intro zz; first | exact Nat.le_refl _ | (simp only [cnt_app, cnt_cons, cnt_nil, cat, List.append_eq, List.append_assoc, List.cons_append, List.nil_append, List.append_nil]; omega))), ?_⟩
          clear hw
          rfl

theorem Power_ok_no (M : Mem) (k : Int) (h : ¬ (0 ≤ k ∧ k < 160)) : Fs Tryd.prog 24 [.int .i64 k] M (fun v => v = .tuple #[aggV [idSeg 0], .int .i64 1]) := by
  refine fs_enter Tryd.func24 rfl Tryd.ntmps24 rfl ?_; intro H
  refine C_seq ?_
  refine C_region (l := [0, 1]) rfl ?_
  refine X_alloc rfl rfl F.zero32 (by constructor) rfl ?_; intro b1
  refine X_assign rfl rfl rfl rfl ?_
  refine XD_end ?_
  refine K_then ?_
  refine C_seq ?_
  refine C_region (l := [0]) rfl ?_
  refine X_alloc rfl rfl F.zero32 (by constructor) rfl ?_; intro b2
  refine XD_end ?_
  refine K_then ?_
  refine C_seq ?_
  refine C_seq ?_
  refine C_region (l := [0, 1, 2, 3, 4, 5]) rfl ?_
  refine X_move rfl rfl rfl rfl ?_
  refine X_cmp rfl rfl rfl rfl rfl rfl ?_
  refine X_move rfl rfl rfl rfl ?_
  refine XD_part 7 rfl (fun hc3 => ?_) (fun hc3 => ?_)
  · first | replace hc3 := dT hc3 | replace hc3 := dF hc3 | replace hc3 := nT hc3 | replace hc3 := nF hc3 | skip
    try simp only [PeerV.eta] at hc3
    first
    | (exfalso; omega)
    | (exfalso; simp [eqX] at hc3; done)
    | contradiction
    | skip
      refine X_skip rfl rfl rfl ?_
      refine X_skip rfl rfl rfl ?_
      refine X_pick rfl rfl rfl rfl rfl ?_
      refine XD_end ?_
      refine K_then ?_
      refine C_pick (.cons (k := 10) rfl (.cons (k := 4) rfl (.cons (k := 3) rfl (.cons (k := 2) rfl (.cons (k := 0) rfl .nil))))) ?_
      refine C_true rfl ?_
      refine C_seq ?_
      refine C_region (l := [0, 1, 2]) rfl ?_
      first | refine X_load rfl rfl rfl (by repeat first | exact List.Mem.head _ | refine List.Mem.tail _ ?_ | refine List.mem_append_right _ ?_) F.lay32 rfl rfl rfl ?_ | refine X_load_el rfl rfl rfl (by first | assumption | exact SlM.mono (by assumption) (by assumption)) (by first | exact row_map (by omega) | exact List.getElem?_eq_getElem (by omega) | exact rfl | exact row_map (by first | (simp; done) | (simp; omega))) F.lay32 rfl rfl rfl ?_ | refine X_load_rd rfl rfl rfl (by assumption) (by first | exact row_map (by omega) | exact List.getElem?_eq_getElem (by omega) | exact rfl | exact row_map (by first | (simp; done) | (simp; omega))) F.lay32 rfl rfl rfl ?_ | refine X_load_mem rfl rfl rfl (by first | assumption | exact Mem.get_of (by assumption) (by repeat first | assumption | refine Mem.le.trans (by assumption) ?_)) F.lay32 rfl rfl rfl ?_ | refine X_load_osl rfl rfl rfl (by assumption) (by repeat first | exact Rem.here _ | exact Rem.two | apply Rem.skip | apply Rem.over) (by first | exact row_map (by omega) | exact List.getElem?_eq_getElem (by omega) | exact rfl | exact row_map (by first | (simp; done) | (simp; omega))) F.lay32 rfl rfl rfl ?_
      refine X_store rfl rfl rfl rfl (by constructor) (by first | ((try simp only [cat, List.cons_append, List.nil_append, List.append_nil]); (repeat (first | exact flat_nil | refine flat_id ?_ | (refine flat_one ?_ ?_; rfl))); done) | exact PeerV.flat _ | exact PeerV.flat ⟨_, _⟩ | (simp [flat, cat, Segs.cells, Seg.cells, Value.oneCell']; done)) (by repeat first | exact Upd.head | apply Upd.tail | apply Upd.over) F.lay32 rfl rfl ?_
      refine X_assign rfl rfl rfl rfl ?_
      refine XD_end ?_
      refine K_then ?_
      refine C_pick (.cons (k := 3) rfl (.cons (k := 4) rfl (.cons (k := 2) rfl (.cons (k := 0) rfl .nil)))) ?_
      refine C_ret ?_
      refine K_ret ?_
      refine K_end (.inr rfl) (.cell rfl (by repeat first | exact List.Mem.head _ | refine List.Mem.tail _ ?_ | refine List.mem_append_right _ ?_) F.lay32 rfl rfl (.tmp rfl .nil)) (fun w hw => ?_)
      refine ⟨_, rfl, (hw.cnt (by intro zz; first | exact Nat.le_refl _ | (simp only [cnt_app, cnt_cons, cnt_nil, cat, List.append_eq, List.append_assoc, List.cons_append, List.nil_append, List.append_nil]; omega))), ?_⟩
      clear hw
      rfl
  · first | replace hc3 := dT hc3 | replace hc3 := dF hc3 | replace hc3 := nT hc3 | replace hc3 := nF hc3 | skip
    try simp only [PeerV.eta] at hc3
    first
    | (exfalso; omega)
    | (exfalso; simp [eqX] at hc3; done)
    | contradiction
    | skip
      refine X_move rfl rfl rfl rfl ?_
      refine X_cmp rfl rfl rfl rfl rfl rfl ?_
      refine X_pick rfl rfl rfl rfl rfl ?_
      refine XD_end ?_
      refine K_then ?_
      refine C_pick (.cons (k := 10) rfl (.cons (k := 4) rfl (.cons (k := 3) rfl (.cons (k := 2) rfl (.cons (k := 0) rfl .nil))))) ?_
      refine C_cond rfl (fun hc4 => ?_) (fun hc4 => ?_)
      · first | replace hc4 := dT hc4 | replace hc4 := dF hc4 | replace hc4 := nT hc4 | replace hc4 := nF hc4 | skip
        try simp only [PeerV.eta] at hc4
        first
        | (exfalso; omega)
        | (exfalso; simp [eqX] at hc4; done)
        | contradiction
        | skip
          refine C_seq ?_
          refine C_region (l := [0, 1, 2]) rfl ?_
          first | refine X_load rfl rfl rfl (by repeat first | exact List.Mem.head _ | refine List.Mem.tail _ ?_ | refine List.mem_append_right _ ?_) F.lay32 rfl rfl rfl ?_ | refine X_load_el rfl rfl rfl (by first | assumption | exact SlM.mono (by assumption) (by assumption)) (by first | exact row_map (by omega) | exact List.getElem?_eq_getElem (by omega) | exact rfl | exact row_map (by first | (simp; done) | (simp; omega))) F.lay32 rfl rfl rfl ?_ | refine X_load_rd rfl rfl rfl (by assumption) (by first | exact row_map (by omega) | exact List.getElem?_eq_getElem (by omega) | exact rfl | exact row_map (by first | (simp; done) | (simp; omega))) F.lay32 rfl rfl rfl ?_ | refine X_load_mem rfl rfl rfl (by first | assumption | exact Mem.get_of (by assumption) (by repeat first | assumption | refine Mem.le.trans (by assumption) ?_)) F.lay32 rfl rfl rfl ?_ | refine X_load_osl rfl rfl rfl (by assumption) (by repeat first | exact Rem.here _ | exact Rem.two | apply Rem.skip | apply Rem.over) (by first | exact row_map (by omega) | exact List.getElem?_eq_getElem (by omega) | exact rfl | exact row_map (by first | (simp; done) | (simp; omega))) F.lay32 rfl rfl rfl ?_
          refine X_store rfl rfl rfl rfl (by constructor) (by first | ((try simp only [cat, List.cons_append, List.nil_append, List.append_nil]); (repeat (first | exact flat_nil | refine flat_id ?_ | (refine flat_one ?_ ?_; rfl))); done) | exact PeerV.flat _ | exact PeerV.flat ⟨_, _⟩ | (simp [flat, cat, Segs.cells, Seg.cells, Value.oneCell']; done)) (by repeat first | exact Upd.head | apply Upd.tail | apply Upd.over) F.lay32 rfl rfl ?_
          refine X_assign rfl rfl rfl rfl ?_
          refine XD_end ?_
          refine K_then ?_
          refine C_pick (.cons (k := 3) rfl (.cons (k := 4) rfl (.cons (k := 2) rfl (.cons (k := 0) rfl .nil)))) ?_
          refine C_ret ?_
          refine K_ret ?_
          refine K_end (.inr rfl) (.cell rfl (by repeat first | exact List.Mem.head _ | refine List.Mem.tail _ ?_ | refine List.mem_append_right _ ?_) F.lay32 rfl rfl (.tmp rfl .nil)) (fun w hw => ?_)
          refine ⟨_, rfl, (hw.cnt (by intro zz; first | exact Nat.le_refl _ | (simp only [cnt_app, cnt_cons, cnt_nil, cat, List.append_eq, List.append_assoc, List.cons_append, List.nil_append, List.append_nil]; omega))), ?_⟩
          clear hw
          rfl
      · first | replace hc4 := dT hc4 | replace hc4 := dF hc4 | replace hc4 := nT hc4 | replace hc4 := nF hc4 | skip
        try simp only [PeerV.eta] at hc4
        first | (exfalso; omega) | (exfalso; simp [eqX] at hc4; done) | contradiction

theorem Power_ok (M : Mem) (k : Int) : Fs Tryd.prog 24 [.int .i64 k] M (fun v => v = ofIdI (powR k)) := by
  unfold powR
  by_cases h : 0 ≤ k ∧ k < 160
  · rw [if_pos h]
    obtain ⟨n, rfl⟩ := Int.eq_ofNat_of_zero_le h.1
    exact Power_ok_in M n (by omega)
  · rw [if_neg h]
    exact Power_ok_no M k h

theorem rPower_ok_in (M : Mem) (n : Nat) (h : n < 160) : Fs Tryd.prog 42 [.int .i64 (n : Int)] M (fun v => v = .tuple #[aggV [idSeg (powP n)], .int .i64 0]) := by
  have h8 : ((n : Nat) : Int) % 8 = ((n % 8 : Nat) : Int) := (Int.natCast_emod _ _).symm
  have h9 : (19 : Int) - ((n : Nat) : Int) / 8 = ((19 - n / 8 : Nat) : Int) := by omega
  refine fs_enter Tryd.func42 rfl Tryd.ntmps42 rfl ?_; intro H
  refine C_seq ?_
  refine C_region (l := [0, 1]) rfl ?_
  refine X_alloc rfl rfl F.zero32 (by constructor) rfl ?_; intro b1
  refine X_assign rfl rfl rfl rfl ?_
  refine XD_end ?_
  refine K_then ?_
  refine C_seq ?_
  refine C_region (l := [0]) rfl ?_
  refine X_alloc rfl rfl F.zero32 (by constructor) rfl ?_; intro b2
  refine XD_end ?_
  refine K_then ?_
  refine C_seq ?_
  refine C_seq ?_
  refine C_region (l := [0, 1, 2, 3, 4, 5]) rfl ?_
  refine X_move rfl rfl rfl rfl ?_
  refine X_cmp rfl rfl rfl rfl rfl rfl ?_
  refine X_move rfl rfl rfl rfl ?_
  refine XD_part 9 rfl (fun hc3 => ?_) (fun hc3 => ?_)
  · first | replace hc3 := dT hc3 | replace hc3 := dF hc3 | replace hc3 := nT hc3 | replace hc3 := nF hc3 | skip
    try simp only [PeerV.eta] at hc3
    first
    | (exfalso; omega)
    | (exfalso; simp [eqX] at hc3; done)
    | contradiction
    | skip
      refine X_skip rfl rfl rfl ?_
      refine X_skip rfl rfl rfl ?_
      refine X_pick rfl rfl rfl rfl rfl ?_
      refine XD_end ?_
      refine K_then ?_
      refine C_pick (.cons (k := 12) rfl (.cons (k := 4) rfl (.cons (k := 3) rfl (.cons (k := 2) rfl (.cons (k := 0) rfl .nil))))) ?_
      refine C_true rfl ?_
      refine C_seq ?_
      refine C_region (l := [0, 1, 2]) rfl ?_
      first | refine X_load rfl rfl rfl (by repeat first | exact List.Mem.head _ | refine List.Mem.tail _ ?_ | refine List.mem_append_right _ ?_) F.lay32 rfl rfl rfl ?_ | refine X_load_el rfl rfl rfl (by first | assumption | exact SlM.mono (by assumption) (by assumption)) (by first | exact row_map (by omega) | exact List.getElem?_eq_getElem (by omega) | exact rfl | exact row_map (by first | (simp; done) | (simp; omega))) F.lay32 rfl rfl rfl ?_ | refine X_load_rd rfl rfl rfl (by assumption) (by first | exact row_map (by omega) | exact List.getElem?_eq_getElem (by omega) | exact rfl | exact row_map (by first | (simp; done) | (simp; omega))) F.lay32 rfl rfl rfl ?_ | refine X_load_mem rfl rfl rfl (by first | assumption | exact Mem.get_of (by assumption) (by repeat first | assumption | refine Mem.le.trans (by assumption) ?_)) F.lay32 rfl rfl rfl ?_ | refine X_load_osl rfl rfl rfl (by assumption) (by repeat first | exact Rem.here _ | exact Rem.two | apply Rem.skip | apply Rem.over) (by first | exact row_map (by omega) | exact List.getElem?_eq_getElem (by omega) | exact rfl | exact row_map (by first | (simp; done) | (simp; omega))) F.lay32 rfl rfl rfl ?_
      refine X_store rfl rfl rfl rfl (by constructor) (by first | ((try simp only [cat, List.cons_append, List.nil_append, List.append_nil]); (repeat (first | exact flat_nil | refine flat_id ?_ | (refine flat_one ?_ ?_; rfl))); done) | exact PeerV.flat _ | exact PeerV.flat ⟨_, _⟩ | (simp [flat, cat, Segs.cells, Seg.cells, Value.oneCell']; done)) (by repeat first | exact Upd.head | apply Upd.tail | apply Upd.over) F.lay32 rfl rfl ?_
      refine X_assign rfl rfl rfl rfl ?_
      refine XD_end ?_
      refine K_then ?_
      refine C_pick (.cons (k := 3) rfl (.cons (k := 4) rfl (.cons (k := 2) rfl (.cons (k := 0) rfl .nil)))) ?_
      refine C_ret ?_
      refine K_ret ?_
      refine K_end (.inr rfl) (.cell rfl (by repeat first | exact List.Mem.head _ | refine List.Mem.tail _ ?_ | refine List.mem_append_right _ ?_) F.lay32 rfl rfl (.tmp rfl .nil)) (fun w hw => ?_)
      refine ⟨_, rfl, (hw.cnt (by intro zz; first | exact Nat.le_refl _ | (simp only [cnt_app, cnt_cons, cnt_nil, cat, List.append_eq, List.append_assoc, List.cons_append, List.nil_append, List.append_nil]; omega))), ?_⟩
      clear hw
      rfl
  · first | replace hc3 := dT hc3 | replace hc3 := dF hc3 | replace hc3 := nT hc3 | replace hc3 := nF hc3 | skip
    try simp only [PeerV.eta] at hc3
    first
    | (exfalso; omega)
    | (exfalso; simp [eqX] at hc3; done)
    | contradiction
    | skip
      refine X_move rfl rfl rfl rfl ?_
      refine X_cmp rfl rfl rfl rfl rfl rfl ?_
      refine X_pick rfl rfl rfl rfl rfl ?_
      refine XD_end ?_
      refine K_then ?_
      refine C_pick (.cons (k := 12) rfl (.cons (k := 4) rfl (.cons (k := 3) rfl (.cons (k := 2) rfl (.cons (k := 0) rfl .nil))))) ?_
      refine C_cond rfl (fun hc4 => ?_) (fun hc4 => ?_)
      · first | replace hc4 := dT hc4 | replace hc4 := dF hc4 | replace hc4 := nT hc4 | replace hc4 := nF hc4 | skip
        try simp only [PeerV.eta] at hc4
        first
        | (exfalso; omega)
        | (exfalso; simp [eqX] at hc4; done)
        | contradiction
        | skip
          refine C_seq ?_
          refine C_region (l := [0, 1, 2]) rfl ?_
          first | refine X_load rfl rfl rfl (by repeat first | exact List.Mem.head _ | refine List.Mem.tail _ ?_ | refine List.mem_append_right _ ?_) F.lay32 rfl rfl rfl ?_ | refine X_load_el rfl rfl rfl (by first | assumption | exact SlM.mono (by assumption) (by assumption)) (by first | exact row_map (by omega) | exact List.getElem?_eq_getElem (by omega) | exact rfl | exact row_map (by first | (simp; done) | (simp; omega))) F.lay32 rfl rfl rfl ?_ | refine X_load_rd rfl rfl rfl (by assumption) (by first | exact row_map (by omega) | exact List.getElem?_eq_getElem (by omega) | exact rfl | exact row_map (by first | (simp; done) | (simp; omega))) F.lay32 rfl rfl rfl ?_ | refine X_load_mem rfl rfl rfl (by first | assumption | exact Mem.get_of (by assumption) (by repeat first | assumption | refine Mem.le.trans (by assumption) ?_)) F.lay32 rfl rfl rfl ?_ | refine X_load_osl rfl rfl rfl (by assumption) (by repeat first | exact Rem.here _ | exact Rem.two | apply Rem.skip | apply Rem.over) (by first | exact row_map (by omega) | exact List.getElem?_eq_getElem (by omega) | exact rfl | exact row_map (by first | (simp; done) | (simp; omega))) F.lay32 rfl rfl rfl ?_
          refine X_store rfl rfl rfl rfl (by constructor) (by first | ((try simp only [cat, List.cons_append, List.nil_append, List.append_nil]); (repeat (first | exact flat_nil | refine flat_id ?_ | (refine flat_one ?_ ?_; rfl))); done) | exact PeerV.flat _ | exact PeerV.flat ⟨_, _⟩ | (simp [flat, cat, Segs.cells, Seg.cells, Value.oneCell']; done)) (by repeat first | exact Upd.head | apply Upd.tail | apply Upd.over) F.lay32 rfl rfl ?_
          refine X_assign rfl rfl rfl rfl ?_
          refine XD_end ?_
          refine K_then ?_
          refine C_pick (.cons (k := 3) rfl (.cons (k := 4) rfl (.cons (k := 2) rfl (.cons (k := 0) rfl .nil)))) ?_
          refine C_ret ?_
          refine K_ret ?_
          refine K_end (.inr rfl) (.cell rfl (by repeat first | exact List.Mem.head _ | refine List.Mem.tail _ ?_ | refine List.mem_append_right _ ?_) F.lay32 rfl rfl (.tmp rfl .nil)) (fun w hw => ?_)
          refine ⟨_, rfl, (hw.cnt (by intro zz; first | exact Nat.le_refl _ | (simp only [cnt_app, cnt_cons, cnt_nil, cat, List.append_eq, List.append_assoc, List.cons_append, List.nil_append, List.append_nil]; omega))), ?_⟩
          clear hw
          rfl
      · first | replace hc4 := dT hc4 | replace hc4 := dF hc4 | replace hc4 := nT hc4 | replace hc4 := nF hc4 | skip
        try simp only [PeerV.eta] at hc4
        first
        | (exfalso; omega)
        | (exfalso; simp [eqX] at hc4; done)
        | contradiction
        | skip
          refine C_skip ?_
          refine K_then ?_
          refine C_pick (.cons (k := 4) rfl (.cons (k := 3) rfl (.cons (k := 2) rfl (.cons (k := 0) rfl .nil)))) ?_
          refine C_seq ?_
          refine C_region (l := [0]) rfl ?_
          refine X_assign rfl rfl rfl rfl ?_
          refine XD_end ?_
          refine K_then ?_
          refine C_seq ?_
          refine C_seq ?_
          refine C_region (l := [0]) rfl ?_
          refine X_assign rfl rfl rfl rfl ?_
          refine XD_end ?_
          refine K_then ?_
          refine C_block ?_
          refine C_pick (.cons (k := 5) rfl (.cons (k := 6) rfl (.cons (k := 4) rfl (.cons (k := 3) rfl (.cons (k := 2) rfl (.cons (k := 0) rfl .nil)))))) ?_
          refine C_loopS (.succ (.succ .zero)) (fun (k : Nat) z => z = [(5, .int .i64 ((2 ^ k : Nat) : Int)), (6, .int .i64 (k : Int))] ∧ k ≤ n % 8) (fun k => n % 8 - k) (0) (⟨rfl, by omega⟩) ?_
          rintro k _ ⟨rfl, hk⟩
          have hp2 : 2 ^ k ≤ 2 ^ 7 := Nat.pow_le_pow_right (by decide) (by omega)
          generalize hq : 2 ^ k = q at hp2 ⊢
          have hp3 : q ≤ 128 := hp2
          refine C_seq ?_
          refine C_seq ?_
          refine C_region (l := [0, 1, 2, 3]) rfl ?_
          refine X_move rfl rfl rfl rfl ?_
          refine X_move rfl rfl rfl rfl ?_
          refine X_rem rfl rfl rfl rfl (by first | decide | omega) (by first | exact rem_nn (by omega) | rfl) rfl ?_
          rw [h8]
          refine X_cmp rfl rfl rfl rfl rfl rfl ?_
          refine XD_end ?_
          refine K_then ?_
          refine C_cond rfl (fun hc5 => ?_) (fun hc5 => ?_)
          · first | replace hc5 := dT hc5 | replace hc5 := dF hc5 | replace hc5 := nT hc5 | replace hc5 := nF hc5 | skip
            try simp only [PeerV.eta] at hc5
            first
            | (exfalso; omega)
            | (exfalso; simp [eqX] at hc5; done)
            | contradiction
            | skip
              refine C_skip ?_
              refine K_then ?_
              refine C_seq ?_
              refine C_block ?_
              refine C_region (l := [0, 1, 2]) rfl ?_
              refine X_move rfl rfl rfl rfl ?_
              refine X_ari rfl rfl rfl rfl rfl (by first | exact wrap_in (by decide) (by omega) | exact wrap_u64_in (by decide) (by omega) | exact wrap_u8_in (by decide) (by omega) | exact wrap_u32_in (by decide) (by omega) | exact wrap_u64 _ | exact wrap_u8 _ | exact wrap_u32 _ | exact rfl) rfl ?_
              refine X_assign rfl rfl rfl rfl ?_
              refine XD_end ?_
              refine K_out ?_
              refine K_then ?_
              refine C_region (l := [0, 1, 2]) rfl ?_
              refine X_move rfl rfl rfl rfl ?_
              refine X_ari rfl rfl rfl rfl rfl (by first | exact wrap_in (by decide) (by omega) | exact wrap_u64_in (by decide) (by omega) | exact wrap_u8_in (by decide) (by omega) | exact wrap_u32_in (by decide) (by omega) | exact wrap_u64 _ | exact wrap_u8 _ | exact wrap_u32 _ | exact rfl) rfl ?_
              refine X_assign rfl rfl rfl rfl ?_
              refine XD_end ?_
              refine K_roundS (a' := [(5, _), (6, _)]) (k + 1) (.cons (k := 5) rfl (.cons (k := 6) rfl (.cons (k := 4) rfl (.cons (k := 3) rfl (.cons (k := 2) rfl (.cons (k := 0) rfl (.nil))))))) (fun w hw => by first | exact hw | exact hw.cnt (by intro zz; first | exact Nat.le_refl _ | (simp only [cnt_app, cnt_cons, cnt_nil, cat, List.append_eq, List.append_assoc, List.cons_append, List.nil_append, List.append_nil]; omega) | (simp only [cnt_app, cnt_cons, cnt_nil, cat, List.append_eq, List.append_assoc, List.cons_append, List.nil_append, List.append_nil, PeerV.segs]; omega))) ?_ ?_
              · refine ⟨?_, by omega⟩
                rw [show ((2 ^ (k + 1) : Nat) : Int) = 2 * ((q : Nat) : Int) by rw [Nat.pow_succ, hq]; omega]
                rfl
              · omega
          · first | replace hc5 := dT hc5 | replace hc5 := dF hc5 | replace hc5 := nT hc5 | replace hc5 := nF hc5 | skip
            try simp only [PeerV.eta] at hc5
            first
            | (exfalso; omega)
            | (exfalso; simp [eqX] at hc5; done)
            | contradiction
            | skip
              refine C_exit ?_
              refine K_exit ?_
              refine K_exit ?_
              refine K_hit ?_
              refine K_then ?_
              refine C_pick (.cons (k := 5) rfl (.cons (k := 4) rfl (.cons (k := 3) rfl (.cons (k := 2) rfl (.cons (k := 0) rfl .nil))))) ?_
              refine C_seq ?_
              refine C_region (l := [0, 1, 2, 3, 4, 5, 6]) rfl ?_
              refine X_move rfl rfl rfl rfl ?_
              refine X_quo rfl rfl rfl rfl (by first | decide | omega) (by first | exact quo_in rfl (by omega) (by omega) (by omega) | rfl) rfl ?_
              refine X_ari rfl rfl rfl rfl rfl (by first | exact wrap_in (by decide) (by omega) | exact wrap_u64_in (by decide) (by omega) | exact wrap_u8_in (by decide) (by omega) | exact wrap_u32_in (by decide) (by omega) | exact wrap_u64 _ | exact wrap_u8 _ | exact wrap_u32 _ | exact rfl) rfl ?_
              rw [h9]
              refine X_move rfl rfl rfl rfl ?_
              refine X_conv rfl rfl rfl Tryd.underlying3 Tryd.underlying5 (by first | exact wrap_in (by decide) (by omega) | exact wrap_u64_in (by decide) (by omega) | exact wrap_u8_in (by decide) (by omega) | exact wrap_u32_in (by decide) (by omega) | exact wrap_u64 _ | exact wrap_u8 _ | exact wrap_u32 _ | exact rfl) rfl ?_
              refine X_indexAddr_arr rfl rfl rfl rfl F.arr32 (by first | rfl | exact (Int.toNat_of_nonneg (by omega)).symm) (by first | omega | decide | (simp; omega)) rfl ?_
              obtain rfl : k = n % 8 := by omega
              have hl8 : n / 8 ≤ 19 := by omega
              refine X_store_cell rfl rfl rfl rfl rfl rfl (by repeat first | exact Upd.head | apply Upd.tail | apply Upd.over) F.lay5 (arr_len (by omega)) (arr_set (by omega)) ?_
              rw [powV0 (k := n) h rfl (v := (q : Int)) (by rw [hq]) (by omega)]
              refine XD_end ?_
              refine K_then ?_
              refine C_pick (.cons (k := 4) rfl (.cons (k := 3) rfl (.cons (k := 2) rfl .nil))) ?_
              refine C_seq ?_
              refine C_region (l := [0, 1, 2]) rfl ?_
              first | refine X_load rfl rfl rfl (by repeat first | exact List.Mem.head _ | refine List.Mem.tail _ ?_ | refine List.mem_append_right _ ?_) F.lay32 rfl rfl rfl ?_ | refine X_load_el rfl rfl rfl (by first | assumption | exact SlM.mono (by assumption) (by assumption)) (by first | exact row_map (by omega) | exact List.getElem?_eq_getElem (by omega) | exact rfl | exact row_map (by first | (simp; done) | (simp; omega))) F.lay32 rfl rfl rfl ?_ | refine X_load_rd rfl rfl rfl (by assumption) (by first | exact row_map (by omega) | exact List.getElem?_eq_getElem (by omega) | exact rfl | exact row_map (by first | (simp; done) | (simp; omega))) F.lay32 rfl rfl rfl ?_ | refine X_load_mem rfl rfl rfl (by first | assumption | exact Mem.get_of (by assumption) (by repeat first | assumption | refine Mem.le.trans (by assumption) ?_)) F.lay32 rfl rfl rfl ?_ | refine X_load_osl rfl rfl rfl (by assumption) (by repeat first | exact Rem.here _ | exact Rem.two | apply Rem.skip | apply Rem.over) (by first | exact row_map (by omega) | exact List.getElem?_eq_getElem (by omega) | exact rfl | exact row_map (by first | (simp; done) | (simp; omega))) F.lay32 rfl rfl rfl ?_
              refine X_store rfl rfl rfl rfl (by constructor) (by first | ((try simp only [cat, List.cons_append, List.nil_append, List.append_nil]); (repeat (first | exact flat_nil | refine flat_id ?_ | (refine flat_one ?_ ?_; rfl))); done) | exact PeerV.flat _ | exact PeerV.flat ⟨_, _⟩ | (simp [flat, cat, Segs.cells, Seg.cells, Value.oneCell']; done)) (by repeat first | exact Upd.head | apply Upd.tail | apply Upd.over) F.lay32 rfl rfl ?_
              refine X_assign rfl rfl rfl rfl ?_
              refine XD_end ?_
              refine K_then ?_
              refine C_pick (.cons (k := 3) rfl (.cons (k := 2) rfl .nil)) ?_
              refine C_ret ?_
              refine K_end (.inr rfl) (.cell rfl (by repeat first | exact List.Mem.head _ | refine List.Mem.tail _ ?_ | refine List.mem_append_right _ ?_) F.lay32 rfl rfl (.tmp rfl .nil)) (fun w hw => ?_)
              refine ⟨_, rfl, (hw.cnt (by intro zz; first | exact Nat.le_refl _ | (simp only [cnt_app, cnt_cons, cnt_nil, cat, List.append_eq, List.append_assoc, List.cons_append, List.nil_append, List.append_nil]; omega))), ?_⟩
              clear hw
              rfl

theorem rPower_ok_no (M : Mem) (k : Int) (h : ¬ (0 ≤ k ∧ k < 160)) : Fs Tryd.prog 42 [.int .i64 k] M (fun v => v = .tuple #[aggV [idSeg 0], .int .i64 1]) := by
  refine fs_enter Tryd.func42 rfl Tryd.ntmps42 rfl ?_; intro H
  refine C_seq ?_
  refine C_region (l := [0, 1]) rfl ?_
  refine X_alloc rfl rfl F.zero32 (by constructor) rfl ?_; intro b1
  refine X_assign rfl rfl rfl rfl ?_
  refine XD_end ?_
  refine K_then ?_
  refine C_seq ?_
  refine C_region (l := [0]) rfl ?_
  refine X_alloc rfl rfl F.zero32 (by constructor) rfl ?_; intro b2
  refine XD_end ?_
  refine K_then ?_
  refine C_seq ?_
  refine C_seq ?_
  refine C_region (l := [0, 1, 2, 3, 4, 5]) rfl ?_
  refine X_move rfl rfl rfl rfl ?_
  refine X_cmp rfl rfl rfl rfl rfl rfl ?_
  refine X_move rfl rfl rfl rfl ?_
  refine XD_part 9 rfl (fun hc3 => ?_) (fun hc3 => ?_)
  · first | replace hc3 := dT hc3 | replace hc3 := dF hc3 | replace hc3 := nT hc3 | replace hc3 := nF hc3 | skip
    try simp only [PeerV.eta] at hc3
    first
    | (exfalso; omega)
    | (exfalso; simp [eqX] at hc3; done)
    | contradiction
    | skip
      refine X_skip rfl rfl rfl ?_
      refine X_skip rfl rfl rfl ?_
      refine X_pick rfl rfl rfl rfl rfl ?_
      refine XD_end ?_
      refine K_then ?_
      refine C_pick (.cons (k := 12) rfl (.cons (k := 4) rfl (.cons (k := 3) rfl (.cons (k := 2) rfl (.cons (k := 0) rfl .nil))))) ?_
      refine C_true rfl ?_
      refine C_seq ?_
      refine C_region (l := [0, 1, 2]) rfl ?_
      first | refine X_load rfl rfl rfl (by repeat first | exact List.Mem.head _ | refine List.Mem.tail _ ?_ | refine List.mem_append_right _ ?_) F.lay32 rfl rfl rfl ?_ | refine X_load_el rfl rfl rfl (by first | assumption | exact SlM.mono (by assumption) (by assumption)) (by first | exact row_map (by omega) | exact List.getElem?_eq_getElem (by omega) | exact rfl | exact row_map (by first | (simp; done) | (simp; omega))) F.lay32 rfl rfl rfl ?_ | refine X_load_rd rfl rfl rfl (by assumption) (by first | exact row_map (by omega) | exact List.getElem?_eq_getElem (by omega) | exact rfl | exact row_map (by first | (simp; done) | (simp; omega))) F.lay32 rfl rfl rfl ?_ | refine X_load_mem rfl rfl rfl (by first | assumption | exact Mem.get_of (by assumption) (by repeat first | assumption | refine Mem.le.trans (by assumption) ?_)) F.lay32 rfl rfl rfl ?_ | refine X_load_osl rfl rfl rfl (by assumption) (by repeat first | exact Rem.here _ | exact Rem.two | apply Rem.skip | apply Rem.over) (by first | exact row_map (by omega) | exact List.getElem?_eq_getElem (by omega) | exact rfl | exact row_map (by first | (simp; done) | (simp; omega))) F.lay32 rfl rfl rfl ?_
      refine X_store rfl rfl rfl rfl (by constructor) (by first | ((try simp only [cat, List.cons_append, List.nil_append, List.append_nil]); (repeat (first | exact flat_nil | refine flat_id ?_ | (refine flat_one ?_ ?_; rfl))); done) | exact PeerV.flat _ | exact PeerV.flat ⟨_, _⟩ | (simp [flat, cat, Segs.cells, Seg.cells, Value.oneCell']; done)) (by repeat first | exact Upd.head | apply Upd.tail | apply Upd.over) F.lay32 rfl rfl ?_
      refine X_assign rfl rfl rfl rfl ?_
      refine XD_end ?_
      refine K_then ?_
      refine C_pick (.cons (k := 3) rfl (.cons (k := 4) rfl (.cons (k := 2) rfl (.cons (k := 0) rfl .nil)))) ?_
      refine C_ret ?_
      refine K_ret ?_
      refine K_end (.inr rfl) (.cell rfl (by repeat first | exact List.Mem.head _ | refine List.Mem.tail _ ?_ | refine List.mem_append_right _ ?_) F.lay32 rfl rfl (.tmp rfl .nil)) (fun w hw => ?_)
      refine ⟨_, rfl, (hw.cnt (by intro zz; first | exact Nat.le_refl _ | (simp only [cnt_app, cnt_cons, cnt_nil, cat, List.append_eq, List.append_assoc, List.cons_append, List.nil_append, List.append_nil]; omega))), ?_⟩
      clear hw
      rfl
  · first | replace hc3 := dT hc3 | replace hc3 := dF hc3 | replace hc3 := nT hc3 | replace hc3 := nF hc3 | skip
    try simp only [PeerV.eta] at hc3
    first
    | (exfalso; omega)
    | (exfalso; simp [eqX] at hc3; done)
    | contradiction
    | skip
      refine X_move rfl rfl rfl rfl ?_
      refine X_cmp rfl rfl rfl rfl rfl rfl ?_
      refine X_pick rfl rfl rfl rfl rfl ?_
      refine XD_end ?_
      refine K_then ?_
      refine C_pick (.cons (k := 12) rfl (.cons (k := 4) rfl (.cons (k := 3) rfl (.cons (k := 2) rfl (.cons (k := 0) rfl .nil))))) ?_
      refine C_cond rfl (fun hc4 => ?_) (fun hc4 => ?_)
      · first | replace hc4 := dT hc4 | replace hc4 := dF hc4 | replace hc4 := nT hc4 | replace hc4 := nF hc4 | skip
        try simp only [PeerV.eta] at hc4
        first
        | (exfalso; omega)
        | (exfalso; simp [eqX] at hc4; done)
        | contradiction
        | skip
          refine C_seq ?_
          refine C_region (l := [0, 1, 2]) rfl ?_
          first | refine X_load rfl rfl rfl (by repeat first | exact List.Mem.head _ | refine List.Mem.tail _ ?_ | refine List.mem_append_right _ ?_) F.lay32 rfl rfl rfl ?_ | refine X_load_el rfl rfl rfl (by first | assumption | exact SlM.mono (by assumption) (by assumption)) (by first | exact row_map (by omega) | exact List.getElem?_eq_getElem (by omega) | exact rfl | exact row_map (by first | (simp; done) | (simp; omega))) F.lay32 rfl rfl rfl ?_ | refine X_load_rd rfl rfl rfl (by assumption) (by first | exact row_map (by omega) | exact List.getElem?_eq_getElem (by omega) | exact rfl | exact row_map (by first | (simp; done) | (simp; omega))) F.lay32 rfl rfl rfl ?_ | refine X_load_mem rfl rfl rfl (by first | assumption | exact Mem.get_of (by assumption) (by repeat first | assumption | refine Mem.le.trans (by assumption) ?_)) F.lay32 rfl rfl rfl ?_ | refine X_load_osl rfl rfl rfl (by assumption) (by repeat first | exact Rem.here _ | exact Rem.two | apply Rem.skip | apply Rem.over) (by first | exact row_map (by omega) | exact List.getElem?_eq_getElem (by omega) | exact rfl | exact row_map (by first | (simp; done) | (simp; omega))) F.lay32 rfl rfl rfl ?_
          refine X_store rfl rfl rfl rfl (by constructor) (by first | ((try simp only [cat, List.cons_append, List.nil_append, List.append_nil]); (repeat (first | exact flat_nil | refine flat_id ?_ | (refine flat_one ?_ ?_; rfl))); done) | exact PeerV.flat _ | exact PeerV.flat ⟨_, _⟩ | (simp [flat, cat, Segs.cells, Seg.cells, Value.oneCell']; done)) (by repeat first | exact Upd.head | apply Upd.tail | apply Upd.over) F.lay32 rfl rfl ?_
          refine X_assign rfl rfl rfl rfl ?_
          refine XD_end ?_
          refine K_then ?_
          refine C_pick (.cons (k := 3) rfl (.cons (k := 4) rfl (.cons (k := 2) rfl (.cons (k := 0) rfl .nil)))) ?_
          refine C_ret ?_
          refine K_ret ?_
          refine K_end (.inr rfl) (.cell rfl (by repeat first | exact List.Mem.head _ | refine List.Mem.tail _ ?_ | refine List.mem_append_right _ ?_) F.lay32 rfl rfl (.tmp rfl .nil)) (fun w hw => ?_)
          refine ⟨_, rfl, (hw.cnt (by intro zz; first | exact Nat.le_refl _ | (simp only [cnt_app, cnt_cons, cnt_nil, cat, List.append_eq, List.append_assoc, List.cons_append, List.nil_append, List.append_nil]; omega))), ?_⟩
          clear hw
          rfl
      · first | replace hc4 := dT hc4 | replace hc4 := dF hc4 | replace hc4 := nT hc4 | replace hc4 := nF hc4 | skip
        try simp only [PeerV.eta] at hc4
        first | (exfalso; omega) | (exfalso; simp [eqX] at hc4; done) | contradiction

theorem rPower_ok (M : Mem) (k : Int) : Fs Tryd.prog 42 [.int .i64 k] M (fun v => v = ofIdI (powR k)) := by
  unfold powR
  by_cases h : 0 ≤ k ∧ k < 160
  · rw [if_pos h]
    obtain ⟨n, rfl⟩ := Int.eq_ofNat_of_zero_le h.1
    exact rPower_ok_in M n (by omega)
  · rw [if_neg h]
    exact rPower_ok_no M k h

theorem Open_ok (M : Mem) (a : Plc) (x : Plc) (b : Plc) : Fs Tryd.prog 41 [aggV [idSeg a], aggV [idSeg x], aggV [idSeg b]] M (fun v => v = Value.bool (decide (OpenP a x b))) := by
  refine fs_enter Tryd.func41 rfl Tryd.ntmps41 rfl ?_; intro H
  refine C_seq ?_
  refine C_region (l := [0, 1, 2, 3]) rfl ?_
  refine X_box rfl rfl rfl (by constructor) rfl ?_; intro b1
  refine X_box rfl rfl rfl (by constructor) rfl ?_; intro b2
  refine X_box rfl rfl rfl (by constructor) rfl ?_; intro b3
  refine X_assign rfl rfl rfl rfl ?_
  refine XD_end ?_
  refine K_then ?_
  refine C_pick (.cons (k := 6) rfl (.cons (k := 5) rfl (.cons (k := 4) rfl (.cons (k := 3) rfl .nil)))) ?_
  refine C_seq ?_
  refine C_block ?_
  refine C_seq ?_
  refine C_region (l := [0, 1, 2, 3]) rfl ?_
  first | refine X_load rfl rfl rfl (by repeat first | exact List.Mem.head _ | refine List.Mem.tail _ ?_ | refine List.mem_append_right _ ?_) F.lay32 rfl rfl rfl ?_ | refine X_load_el rfl rfl rfl (by first | assumption | exact SlM.mono (by assumption) (by assumption)) (by first | exact row_map (by omega) | exact List.getElem?_eq_getElem (by omega) | exact rfl | exact row_map (by first | (simp; done) | (simp; omega))) F.lay32 rfl rfl rfl ?_ | refine X_load_rd rfl rfl rfl (by assumption) (by first | exact row_map (by omega) | exact List.getElem?_eq_getElem (by omega) | exact rfl | exact row_map (by first | (simp; done) | (simp; omega))) F.lay32 rfl rfl rfl ?_ | refine X_load_mem rfl rfl rfl (by first | assumption | exact Mem.get_of (by assumption) (by repeat first | assumption | refine Mem.le.trans (by assumption) ?_)) F.lay32 rfl rfl rfl ?_ | refine X_load_osl rfl rfl rfl (by assumption) (by repeat first | exact Rem.here _ | exact Rem.two | apply Rem.skip | apply Rem.over) (by first | exact row_map (by omega) | exact List.getElem?_eq_getElem (by omega) | exact rfl | exact row_map (by first | (simp; done) | (simp; omega))) F.lay32 rfl rfl rfl ?_
  first | refine X_load rfl rfl rfl (by repeat first | exact List.Mem.head _ | refine List.Mem.tail _ ?_ | refine List.mem_append_right _ ?_) F.lay32 rfl rfl rfl ?_ | refine X_load_el rfl rfl rfl (by first | assumption | exact SlM.mono (by assumption) (by assumption)) (by first | exact row_map (by omega) | exact List.getElem?_eq_getElem (by omega) | exact rfl | exact row_map (by first | (simp; done) | (simp; omega))) F.lay32 rfl rfl rfl ?_ | refine X_load_rd rfl rfl rfl (by assumption) (by first | exact row_map (by omega) | exact List.getElem?_eq_getElem (by omega) | exact rfl | exact row_map (by first | (simp; done) | (simp; omega))) F.lay32 rfl rfl rfl ?_ | refine X_load_mem rfl rfl rfl (by first | assumption | exact Mem.get_of (by assumption) (by repeat first | assumption | refine Mem.le.trans (by assumption) ?_)) F.lay32 rfl rfl rfl ?_ | refine X_load_osl rfl rfl rfl (by assumption) (by repeat first | exact Rem.here _ | exact Rem.two | apply Rem.skip | apply Rem.over) (by first | exact row_map (by omega) | exact List.getElem?_eq_getElem (by omega) | exact rfl | exact row_map (by first | (simp; done) | (simp; omega))) F.lay32 rfl rfl rfl ?_
  refine X_same (m := 20) rfl rfl rfl rfl rfl (by constructor) (by constructor) F.lay32 F.kinds32 rfl F.guard32 (fit_id fit_nil) (fit_id fit_nil) rfl rfl rfl ?_; intro c4 he5
  replace he5 : c4 = true ↔ Segs.cells _ = Segs.cells _ := he5
  obtain rfl := eqD he5 (cells_id1 (x := _) (y := _)); clear he5
  refine X_assign rfl rfl rfl rfl ?_
  refine XD_end ?_
  refine K_then ?_
  refine C_pick (.cons (k := 7) rfl (.cons (k := 6) rfl (.cons (k := 5) rfl (.cons (k := 4) rfl (.cons (k := 3) rfl .nil))))) ?_
  refine C_cond rfl (fun hc6 => ?_) (fun hc6 => ?_)
  · first | replace hc6 := dT hc6 | replace hc6 := dF hc6 | replace hc6 := nT hc6 | replace hc6 := nF hc6 | skip
    try simp only [PeerV.eta] at hc6
    first
    | (exfalso; omega)
    | (exfalso; simp [eqX] at hc6; done)
    | contradiction
    | skip
      refine C_seq ?_
      refine C_region (l := [0, 1, 2, 3]) rfl ?_
      first | refine X_load rfl rfl rfl (by repeat first | exact List.Mem.head _ | refine List.Mem.tail _ ?_ | refine List.mem_append_right _ ?_) F.lay32 rfl rfl rfl ?_ | refine X_load_el rfl rfl rfl (by first | assumption | exact SlM.mono (by assumption) (by assumption)) (by first | exact row_map (by omega) | exact List.getElem?_eq_getElem (by omega) | exact rfl | exact row_map (by first | (simp; done) | (simp; omega))) F.lay32 rfl rfl rfl ?_ | refine X_load_rd rfl rfl rfl (by assumption) (by first | exact row_map (by omega) | exact List.getElem?_eq_getElem (by omega) | exact rfl | exact row_map (by first | (simp; done) | (simp; omega))) F.lay32 rfl rfl rfl ?_ | refine X_load_mem rfl rfl rfl (by first | assumption | exact Mem.get_of (by assumption) (by repeat first | assumption | refine Mem.le.trans (by assumption) ?_)) F.lay32 rfl rfl rfl ?_ | refine X_load_osl rfl rfl rfl (by assumption) (by repeat first | exact Rem.here _ | exact Rem.two | apply Rem.skip | apply Rem.over) (by first | exact row_map (by omega) | exact List.getElem?_eq_getElem (by omega) | exact rfl | exact row_map (by first | (simp; done) | (simp; omega))) F.lay32 rfl rfl rfl ?_
      first | refine X_load rfl rfl rfl (by repeat first | exact List.Mem.head _ | refine List.Mem.tail _ ?_ | refine List.mem_append_right _ ?_) F.lay32 rfl rfl rfl ?_ | refine X_load_el rfl rfl rfl (by first | assumption | exact SlM.mono (by assumption) (by assumption)) (by first | exact row_map (by omega) | exact List.getElem?_eq_getElem (by omega) | exact rfl | exact row_map (by first | (simp; done) | (simp; omega))) F.lay32 rfl rfl rfl ?_ | refine X_load_rd rfl rfl rfl (by assumption) (by first | exact row_map (by omega) | exact List.getElem?_eq_getElem (by omega) | exact rfl | exact row_map (by first | (simp; done) | (simp; omega))) F.lay32 rfl rfl rfl ?_ | refine X_load_mem rfl rfl rfl (by first | assumption | exact Mem.get_of (by assumption) (by repeat first | assumption | refine Mem.le.trans (by assumption) ?_)) F.lay32 rfl rfl rfl ?_ | refine X_load_osl rfl rfl rfl (by assumption) (by repeat first | exact Rem.here _ | exact Rem.two | apply Rem.skip | apply Rem.over) (by first | exact row_map (by omega) | exact List.getElem?_eq_getElem (by omega) | exact rfl | exact row_map (by first | (simp; done) | (simp; omega))) F.lay32 rfl rfl rfl ?_
      refine X_same (m := 20) rfl rfl rfl rfl rfl (by constructor) (by constructor) F.lay32 F.kinds32 rfl F.guard32 (fit_id fit_nil) (fit_id fit_nil) rfl rfl rfl ?_; intro c7 he8
      replace he8 : c7 = true ↔ ¬ (Segs.cells _ = Segs.cells _) := he8
      obtain rfl := neD he8 (cells_id1 (x := _) (y := _)); clear he8
      refine X_assign rfl rfl rfl rfl ?_
      refine XD_end ?_
      refine K_then ?_
      refine C_pick (.cons (k := 6) rfl (.cons (k := 5) rfl (.cons (k := 4) rfl (.cons (k := 3) rfl .nil)))) ?_
      refine C_ret ?_
      refine K_retB ?_
      refine K_ret ?_
      refine K_end (.inr rfl) (.tmp rfl .nil) (fun w hw => ?_)
      refine ⟨_, rfl, (hw.cnt (by intro zz; first | exact Nat.le_refl _ | (simp only [cnt_app, cnt_cons, cnt_nil, cat, List.append_eq, List.append_assoc, List.cons_append, List.nil_append, List.append_nil]; omega) | (simp only [cnt_app, cnt_cons, cnt_nil, cat, List.append_eq, List.append_assoc, List.cons_append, List.nil_append, List.append_nil, PeerV.segs]; omega))), ?_⟩
      clear hw
      refine congrArg Value.bool ?_
      simp_all [open_arms]
  · first | replace hc6 := dT hc6 | replace hc6 := dF hc6 | replace hc6 := nT hc6 | replace hc6 := nF hc6 | skip
    try simp only [PeerV.eta] at hc6
    first
    | (exfalso; omega)
    | (exfalso; simp [eqX] at hc6; done)
    | contradiction
    | skip
      refine C_seq ?_
      refine C_region (l := [0, 1, 2, 3]) rfl ?_
      first | refine X_load rfl rfl rfl (by repeat first | exact List.Mem.head _ | refine List.Mem.tail _ ?_ | refine List.mem_append_right _ ?_) F.lay32 rfl rfl rfl ?_ | refine X_load_el rfl rfl rfl (by first | assumption | exact SlM.mono (by assumption) (by assumption)) (by first | exact row_map (by omega) | exact List.getElem?_eq_getElem (by omega) | exact rfl | exact row_map (by first | (simp; done) | (simp; omega))) F.lay32 rfl rfl rfl ?_ | refine X_load_rd rfl rfl rfl (by assumption) (by first | exact row_map (by omega) | exact List.getElem?_eq_getElem (by omega) | exact rfl | exact row_map (by first | (simp; done) | (simp; omega))) F.lay32 rfl rfl rfl ?_ | refine X_load_mem rfl rfl rfl (by first | assumption | exact Mem.get_of (by assumption) (by repeat first | assumption | refine Mem.le.trans (by assumption) ?_)) F.lay32 rfl rfl rfl ?_ | refine X_load_osl rfl rfl rfl (by assumption) (by repeat first | exact Rem.here _ | exact Rem.two | apply Rem.skip | apply Rem.over) (by first | exact row_map (by omega) | exact List.getElem?_eq_getElem (by omega) | exact rfl | exact row_map (by first | (simp; done) | (simp; omega))) F.lay32 rfl rfl rfl ?_
      first | refine X_load rfl rfl rfl (by repeat first | exact List.Mem.head _ | refine List.Mem.tail _ ?_ | refine List.mem_append_right _ ?_) F.lay32 rfl rfl rfl ?_ | refine X_load_el rfl rfl rfl (by first | assumption | exact SlM.mono (by assumption) (by assumption)) (by first | exact row_map (by omega) | exact List.getElem?_eq_getElem (by omega) | exact rfl | exact row_map (by first | (simp; done) | (simp; omega))) F.lay32 rfl rfl rfl ?_ | refine X_load_rd rfl rfl rfl (by assumption) (by first | exact row_map (by omega) | exact List.getElem?_eq_getElem (by omega) | exact rfl | exact row_map (by first | (simp; done) | (simp; omega))) F.lay32 rfl rfl rfl ?_ | refine X_load_mem rfl rfl rfl (by first | assumption | exact Mem.get_of (by assumption) (by repeat first | assumption | refine Mem.le.trans (by assumption) ?_)) F.lay32 rfl rfl rfl ?_ | refine X_load_osl rfl rfl rfl (by assumption) (by repeat first | exact Rem.here _ | exact Rem.two | apply Rem.skip | apply Rem.over) (by first | exact row_map (by omega) | exact List.getElem?_eq_getElem (by omega) | exact rfl | exact row_map (by first | (simp; done) | (simp; omega))) F.lay32 rfl rfl rfl ?_
      refine X_fs rfl rfl F.ok27 rfl (Less_ok _ _ _) rfl ?_
      rintro _ rfl
      refine X_assign rfl rfl rfl rfl ?_
      refine XD_end ?_
      refine K_then ?_
      refine C_pick (.cons (k := 14) rfl (.cons (k := 6) rfl (.cons (k := 5) rfl (.cons (k := 4) rfl (.cons (k := 3) rfl .nil))))) ?_
      refine C_cond rfl (fun hc9 => ?_) (fun hc9 => ?_)
      · first | replace hc9 := dT hc9 | replace hc9 := dF hc9 | replace hc9 := nT hc9 | replace hc9 := nF hc9 | skip
        try simp only [PeerV.eta] at hc9
        first
        | (exfalso; omega)
        | (exfalso; simp [eqX] at hc9; done)
        | contradiction
        | skip
          refine C_seq ?_
          refine C_region (l := [0, 1, 2, 3, 4, 5, 6, 7, 8]) rfl ?_
          first | refine X_load rfl rfl rfl (by repeat first | exact List.Mem.head _ | refine List.Mem.tail _ ?_ | refine List.mem_append_right _ ?_) F.lay32 rfl rfl rfl ?_ | refine X_load_el rfl rfl rfl (by first | assumption | exact SlM.mono (by assumption) (by assumption)) (by first | exact row_map (by omega) | exact List.getElem?_eq_getElem (by omega) | exact rfl | exact row_map (by first | (simp; done) | (simp; omega))) F.lay32 rfl rfl rfl ?_ | refine X_load_rd rfl rfl rfl (by assumption) (by first | exact row_map (by omega) | exact List.getElem?_eq_getElem (by omega) | exact rfl | exact row_map (by first | (simp; done) | (simp; omega))) F.lay32 rfl rfl rfl ?_ | refine X_load_mem rfl rfl rfl (by first | assumption | exact Mem.get_of (by assumption) (by repeat first | assumption | refine Mem.le.trans (by assumption) ?_)) F.lay32 rfl rfl rfl ?_ | refine X_load_osl rfl rfl rfl (by assumption) (by repeat first | exact Rem.here _ | exact Rem.two | apply Rem.skip | apply Rem.over) (by first | exact row_map (by omega) | exact List.getElem?_eq_getElem (by omega) | exact rfl | exact row_map (by first | (simp; done) | (simp; omega))) F.lay32 rfl rfl rfl ?_
          first | refine X_load rfl rfl rfl (by repeat first | exact List.Mem.head _ | refine List.Mem.tail _ ?_ | refine List.mem_append_right _ ?_) F.lay32 rfl rfl rfl ?_ | refine X_load_el rfl rfl rfl (by first | assumption | exact SlM.mono (by assumption) (by assumption)) (by first | exact row_map (by omega) | exact List.getElem?_eq_getElem (by omega) | exact rfl | exact row_map (by first | (simp; done) | (simp; omega))) F.lay32 rfl rfl rfl ?_ | refine X_load_rd rfl rfl rfl (by assumption) (by first | exact row_map (by omega) | exact List.getElem?_eq_getElem (by omega) | exact rfl | exact row_map (by first | (simp; done) | (simp; omega))) F.lay32 rfl rfl rfl ?_ | refine X_load_mem rfl rfl rfl (by first | assumption | exact Mem.get_of (by assumption) (by repeat first | assumption | refine Mem.le.trans (by assumption) ?_)) F.lay32 rfl rfl rfl ?_ | refine X_load_osl rfl rfl rfl (by assumption) (by repeat first | exact Rem.here _ | exact Rem.two | apply Rem.skip | apply Rem.over) (by first | exact row_map (by omega) | exact List.getElem?_eq_getElem (by omega) | exact rfl | exact row_map (by first | (simp; done) | (simp; omega))) F.lay32 rfl rfl rfl ?_
          refine X_fs rfl rfl F.ok27 rfl (Less_ok _ _ _) rfl ?_
          rintro _ rfl
          refine X_move rfl rfl rfl rfl ?_
          refine XD_part 21 rfl (fun hc10 => ?_) (fun hc10 => ?_)
          · first | replace hc10 := dT hc10 | replace hc10 := dF hc10 | replace hc10 := nT hc10 | replace hc10 := nF hc10 | skip
            try simp only [PeerV.eta] at hc10
            first
            | (exfalso; omega)
            | (exfalso; simp [eqX] at hc10; done)
            | contradiction
            | skip
              first | refine X_load rfl rfl rfl (by repeat first | exact List.Mem.head _ | refine List.Mem.tail _ ?_ | refine List.mem_append_right _ ?_) F.lay32 rfl rfl rfl ?_ | refine X_load_el rfl rfl rfl (by first | assumption | exact SlM.mono (by assumption) (by assumption)) (by first | exact row_map (by omega) | exact List.getElem?_eq_getElem (by omega) | exact rfl | exact row_map (by first | (simp; done) | (simp; omega))) F.lay32 rfl rfl rfl ?_ | refine X_load_rd rfl rfl rfl (by assumption) (by first | exact row_map (by omega) | exact List.getElem?_eq_getElem (by omega) | exact rfl | exact row_map (by first | (simp; done) | (simp; omega))) F.lay32 rfl rfl rfl ?_ | refine X_load_mem rfl rfl rfl (by first | assumption | exact Mem.get_of (by assumption) (by repeat first | assumption | refine Mem.le.trans (by assumption) ?_)) F.lay32 rfl rfl rfl ?_ | refine X_load_osl rfl rfl rfl (by assumption) (by repeat first | exact Rem.here _ | exact Rem.two | apply Rem.skip | apply Rem.over) (by first | exact row_map (by omega) | exact List.getElem?_eq_getElem (by omega) | exact rfl | exact row_map (by first | (simp; done) | (simp; omega))) F.lay32 rfl rfl rfl ?_
              first | refine X_load rfl rfl rfl (by repeat first | exact List.Mem.head _ | refine List.Mem.tail _ ?_ | refine List.mem_append_right _ ?_) F.lay32 rfl rfl rfl ?_ | refine X_load_el rfl rfl rfl (by first | assumption | exact SlM.mono (by assumption) (by assumption)) (by first | exact row_map (by omega) | exact List.getElem?_eq_getElem (by omega) | exact rfl | exact row_map (by first | (simp; done) | (simp; omega))) F.lay32 rfl rfl rfl ?_ | refine X_load_rd rfl rfl rfl (by assumption) (by first | exact row_map (by omega) | exact List.getElem?_eq_getElem (by omega) | exact rfl | exact row_map (by first | (simp; done) | (simp; omega))) F.lay32 rfl rfl rfl ?_ | refine X_load_mem rfl rfl rfl (by first | assumption | exact Mem.get_of (by assumption) (by repeat first | assumption | refine Mem.le.trans (by assumption) ?_)) F.lay32 rfl rfl rfl ?_ | refine X_load_osl rfl rfl rfl (by assumption) (by repeat first | exact Rem.here _ | exact Rem.two | apply Rem.skip | apply Rem.over) (by first | exact row_map (by omega) | exact List.getElem?_eq_getElem (by omega) | exact rfl | exact row_map (by first | (simp; done) | (simp; omega))) F.lay32 rfl rfl rfl ?_
              refine X_fs rfl rfl F.ok27 rfl (Less_ok _ _ _) rfl ?_
              rintro _ rfl
              refine X_pick rfl rfl rfl rfl rfl ?_
              refine X_assign rfl rfl rfl rfl ?_
              refine XD_end ?_
              refine K_then ?_
              refine C_pick (.cons (k := 6) rfl (.cons (k := 5) rfl (.cons (k := 4) rfl (.cons (k := 3) rfl .nil)))) ?_
              refine C_ret ?_
              refine K_retB ?_
              refine K_ret ?_
              refine K_end (.inr rfl) (.tmp rfl .nil) (fun w hw => ?_)
              refine ⟨_, rfl, (hw.cnt (by intro zz; first | exact Nat.le_refl _ | (simp only [cnt_app, cnt_cons, cnt_nil, cat, List.append_eq, List.append_assoc, List.cons_append, List.nil_append, List.append_nil]; omega) | (simp only [cnt_app, cnt_cons, cnt_nil, cat, List.append_eq, List.append_assoc, List.cons_append, List.nil_append, List.append_nil, PeerV.segs]; omega))), ?_⟩
              clear hw
              refine congrArg Value.bool ?_
              simp_all [open_arms]
          · first | replace hc10 := dT hc10 | replace hc10 := dF hc10 | replace hc10 := nT hc10 | replace hc10 := nF hc10 | skip
            try simp only [PeerV.eta] at hc10
            first
            | (exfalso; omega)
            | (exfalso; simp [eqX] at hc10; done)
            | contradiction
            | skip
              refine X_skip rfl rfl rfl ?_
              refine X_skip rfl rfl rfl ?_
              refine X_skip rfl rfl rfl ?_
              refine X_pick rfl rfl rfl rfl rfl ?_
              refine X_assign rfl rfl rfl rfl ?_
              refine XD_end ?_
              refine K_then ?_
              refine C_pick (.cons (k := 6) rfl (.cons (k := 5) rfl (.cons (k := 4) rfl (.cons (k := 3) rfl .nil)))) ?_
              refine C_ret ?_
              refine K_retB ?_
              refine K_ret ?_
              refine K_end (.inr rfl) (.tmp rfl .nil) (fun w hw => ?_)
              refine ⟨_, rfl, (hw.cnt (by intro zz; first | exact Nat.le_refl _ | (simp only [cnt_app, cnt_cons, cnt_nil, cat, List.append_eq, List.append_assoc, List.cons_append, List.nil_append, List.append_nil]; omega) | (simp only [cnt_app, cnt_cons, cnt_nil, cat, List.append_eq, List.append_assoc, List.cons_append, List.nil_append, List.append_nil, PeerV.segs]; omega))), ?_⟩
              clear hw
              refine congrArg Value.bool ?_
              simp_all [open_arms]
      · first | replace hc9 := dT hc9 | replace hc9 := dF hc9 | replace hc9 := nT hc9 | replace hc9 := nF hc9 | skip
        try simp only [PeerV.eta] at hc9
        first
        | (exfalso; omega)
        | (exfalso; simp [eqX] at hc9; done)
        | contradiction
        | skip
          refine C_skip ?_
          refine K_out ?_
          refine K_then ?_
          refine C_pick (.cons (k := 6) rfl (.cons (k := 5) rfl (.cons (k := 4) rfl (.cons (k := 3) rfl .nil)))) ?_
          refine C_seq ?_
          refine C_region (l := [0, 1, 2, 3, 4, 5, 6, 7, 8]) rfl ?_
          first | refine X_load rfl rfl rfl (by repeat first | exact List.Mem.head _ | refine List.Mem.tail _ ?_ | refine List.mem_append_right _ ?_) F.lay32 rfl rfl rfl ?_ | refine X_load_el rfl rfl rfl (by first | assumption | exact SlM.mono (by assumption) (by assumption)) (by first | exact row_map (by omega) | exact List.getElem?_eq_getElem (by omega) | exact rfl | exact row_map (by first | (simp; done) | (simp; omega))) F.lay32 rfl rfl rfl ?_ | refine X_load_rd rfl rfl rfl (by assumption) (by first | exact row_map (by omega) | exact List.getElem?_eq_getElem (by omega) | exact rfl | exact row_map (by first | (simp; done) | (simp; omega))) F.lay32 rfl rfl rfl ?_ | refine X_load_mem rfl rfl rfl (by first | assumption | exact Mem.get_of (by assumption) (by repeat first | assumption | refine Mem.le.trans (by assumption) ?_)) F.lay32 rfl rfl rfl ?_ | refine X_load_osl rfl rfl rfl (by assumption) (by repeat first | exact Rem.here _ | exact Rem.two | apply Rem.skip | apply Rem.over) (by first | exact row_map (by omega) | exact List.getElem?_eq_getElem (by omega) | exact rfl | exact row_map (by first | (simp; done) | (simp; omega))) F.lay32 rfl rfl rfl ?_
          first | refine X_load rfl rfl rfl (by repeat first | exact List.Mem.head _ | refine List.Mem.tail _ ?_ | refine List.mem_append_right _ ?_) F.lay32 rfl rfl rfl ?_ | refine X_load_el rfl rfl rfl (by first | assumption | exact SlM.mono (by assumption) (by assumption)) (by first | exact row_map (by omega) | exact List.getElem?_eq_getElem (by omega) | exact rfl | exact row_map (by first | (simp; done) | (simp; omega))) F.lay32 rfl rfl rfl ?_ | refine X_load_rd rfl rfl rfl (by assumption) (by first | exact row_map (by omega) | exact List.getElem?_eq_getElem (by omega) | exact rfl | exact row_map (by first | (simp; done) | (simp; omega))) F.lay32 rfl rfl rfl ?_ | refine X_load_mem rfl rfl rfl (by first | assumption | exact Mem.get_of (by assumption) (by repeat first | assumption | refine Mem.le.trans (by assumption) ?_)) F.lay32 rfl rfl rfl ?_ | refine X_load_osl rfl rfl rfl (by assumption) (by repeat first | exact Rem.here _ | exact Rem.two | apply Rem.skip | apply Rem.over) (by first | exact row_map (by omega) | exact List.getElem?_eq_getElem (by omega) | exact rfl | exact row_map (by first | (simp; done) | (simp; omega))) F.lay32 rfl rfl rfl ?_
          refine X_fs rfl rfl F.ok27 rfl (Less_ok _ _ _) rfl ?_
          rintro _ rfl
          refine X_move rfl rfl rfl rfl ?_
          refine XD_part 29 rfl (fun hc11 => ?_) (fun hc11 => ?_)
          · first | replace hc11 := dT hc11 | replace hc11 := dF hc11 | replace hc11 := nT hc11 | replace hc11 := nF hc11 | skip
            try simp only [PeerV.eta] at hc11
            first
            | (exfalso; omega)
            | (exfalso; simp [eqX] at hc11; done)
            | contradiction
            | skip
              refine X_skip rfl rfl rfl ?_
              refine X_skip rfl rfl rfl ?_
              refine X_skip rfl rfl rfl ?_
              refine X_pick rfl rfl rfl rfl rfl ?_
              refine X_assign rfl rfl rfl rfl ?_
              refine XD_end ?_
              refine K_then ?_
              refine C_pick (.cons (k := 6) rfl .nil) ?_
              refine C_ret ?_
              refine K_end (.inr rfl) (.tmp rfl .nil) (fun w hw => ?_)
              refine ⟨_, rfl, (hw.cnt (by intro zz; first | exact Nat.le_refl _ | (simp only [cnt_app, cnt_cons, cnt_nil, cat, List.append_eq, List.append_assoc, List.cons_append, List.nil_append, List.append_nil]; omega) | (simp only [cnt_app, cnt_cons, cnt_nil, cat, List.append_eq, List.append_assoc, List.cons_append, List.nil_append, List.append_nil, PeerV.segs]; omega))), ?_⟩
              clear hw
              refine congrArg Value.bool ?_
              simp_all [open_arms]
          · first | replace hc11 := dT hc11 | replace hc11 := dF hc11 | replace hc11 := nT hc11 | replace hc11 := nF hc11 | skip
            try simp only [PeerV.eta] at hc11
            first
            | (exfalso; omega)
            | (exfalso; simp [eqX] at hc11; done)
            | contradiction
            | skip
              first | refine X_load rfl rfl rfl (by repeat first | exact List.Mem.head _ | refine List.Mem.tail _ ?_ | refine List.mem_append_right _ ?_) F.lay32 rfl rfl rfl ?_ | refine X_load_el rfl rfl rfl (by first | assumption | exact SlM.mono (by assumption) (by assumption)) (by first | exact row_map (by omega) | exact List.getElem?_eq_getElem (by omega) | exact rfl | exact row_map (by first | (simp; done) | (simp; omega))) F.lay32 rfl rfl rfl ?_ | refine X_load_rd rfl rfl rfl (by assumption) (by first | exact row_map (by omega) | exact List.getElem?_eq_getElem (by omega) | exact rfl | exact row_map (by first | (simp; done) | (simp; omega))) F.lay32 rfl rfl rfl ?_ | refine X_load_mem rfl rfl rfl (by first | assumption | exact Mem.get_of (by assumption) (by repeat first | assumption | refine Mem.le.trans (by assumption) ?_)) F.lay32 rfl rfl rfl ?_ | refine X_load_osl rfl rfl rfl (by assumption) (by repeat first | exact Rem.here _ | exact Rem.two | apply Rem.skip | apply Rem.over) (by first | exact row_map (by omega) | exact List.getElem?_eq_getElem (by omega) | exact rfl | exact row_map (by first | (simp; done) | (simp; omega))) F.lay32 rfl rfl rfl ?_
              first | refine X_load rfl rfl rfl (by repeat first | exact List.Mem.head _ | refine List.Mem.tail _ ?_ | refine List.mem_append_right _ ?_) F.lay32 rfl rfl rfl ?_ | refine X_load_el rfl rfl rfl (by first | assumption | exact SlM.mono (by assumption) (by assumption)) (by first | exact row_map (by omega) | exact List.getElem?_eq_getElem (by omega) | exact rfl | exact row_map (by first | (simp; done) | (simp; omega))) F.lay32 rfl rfl rfl ?_ | refine X_load_rd rfl rfl rfl (by assumption) (by first | exact row_map (by omega) | exact List.getElem?_eq_getElem (by omega) | exact rfl | exact row_map (by first | (simp; done) | (simp; omega))) F.lay32 rfl rfl rfl ?_ | refine X_load_mem rfl rfl rfl (by first | assumption | exact Mem.get_of (by assumption) (by repeat first | assumption | refine Mem.le.trans (by assumption) ?_)) F.lay32 rfl rfl rfl ?_ | refine X_load_osl rfl rfl rfl (by assumption) (by repeat first | exact Rem.here _ | exact Rem.two | apply Rem.skip | apply Rem.over) (by first | exact row_map (by omega) | exact List.getElem?_eq_getElem (by omega) | exact rfl | exact row_map (by first | (simp; done) | (simp; omega))) F.lay32 rfl rfl rfl ?_
              refine X_fs rfl rfl F.ok27 rfl (Less_ok _ _ _) rfl ?_
              rintro _ rfl
              refine X_pick rfl rfl rfl rfl rfl ?_
              refine X_assign rfl rfl rfl rfl ?_
              refine XD_end ?_
              refine K_then ?_
              refine C_pick (.cons (k := 6) rfl .nil) ?_
              refine C_ret ?_
              refine K_end (.inr rfl) (.tmp rfl .nil) (fun w hw => ?_)
              refine ⟨_, rfl, (hw.cnt (by intro zz; first | exact Nat.le_refl _ | (simp only [cnt_app, cnt_cons, cnt_nil, cat, List.append_eq, List.append_assoc, List.cons_append, List.nil_append, List.append_nil]; omega) | (simp only [cnt_app, cnt_cons, cnt_nil, cat, List.append_eq, List.append_assoc, List.cons_append, List.nil_append, List.append_nil, PeerV.segs]; omega))), ?_⟩
              clear hw
              refine congrArg Value.bool ?_
              simp_all [open_arms]

theorem Half_ok (M : Mem) (a : Plc) (x : Plc) (b : Plc) : Fs Tryd.prog 17 [aggV [idSeg a], aggV [idSeg x], aggV [idSeg b]] M (fun v => v = Value.bool (decide (HalfP a x b))) := by
  refine fs_enter Tryd.func17 rfl Tryd.ntmps17 rfl ?_; intro H
  refine C_seq ?_
  refine C_region (l := [0, 1, 2, 3]) rfl ?_
  refine X_box rfl rfl rfl (by constructor) rfl ?_; intro b1
  refine X_box rfl rfl rfl (by constructor) rfl ?_; intro b2
  refine X_box rfl rfl rfl (by constructor) rfl ?_; intro b3
  refine X_assign rfl rfl rfl rfl ?_
  refine XD_end ?_
  refine K_then ?_
  refine C_pick (.cons (k := 6) rfl (.cons (k := 5) rfl (.cons (k := 4) rfl (.cons (k := 3) rfl .nil)))) ?_
  refine C_seq ?_
  refine C_region (l := [0, 1, 2, 3, 4, 5, 6, 7, 8, 9]) rfl ?_
  first | refine X_load rfl rfl rfl (by repeat first | exact List.Mem.head _ | refine List.Mem.tail _ ?_ | refine List.mem_append_right _ ?_) F.lay32 rfl rfl rfl ?_ | refine X_load_el rfl rfl rfl (by first | assumption | exact SlM.mono (by assumption) (by assumption)) (by first | exact row_map (by omega) | exact List.getElem?_eq_getElem (by omega) | exact rfl | exact row_map (by first | (simp; done) | (simp; omega))) F.lay32 rfl rfl rfl ?_ | refine X_load_rd rfl rfl rfl (by assumption) (by first | exact row_map (by omega) | exact List.getElem?_eq_getElem (by omega) | exact rfl | exact row_map (by first | (simp; done) | (simp; omega))) F.lay32 rfl rfl rfl ?_ | refine X_load_mem rfl rfl rfl (by first | assumption | exact Mem.get_of (by assumption) (by repeat first | assumption | refine Mem.le.trans (by assumption) ?_)) F.lay32 rfl rfl rfl ?_ | refine X_load_osl rfl rfl rfl (by assumption) (by repeat first | exact Rem.here _ | exact Rem.two | apply Rem.skip | apply Rem.over) (by first | exact row_map (by omega) | exact List.getElem?_eq_getElem (by omega) | exact rfl | exact row_map (by first | (simp; done) | (simp; omega))) F.lay32 rfl rfl rfl ?_
  first | refine X_load rfl rfl rfl (by repeat first | exact List.Mem.head _ | refine List.Mem.tail _ ?_ | refine List.mem_append_right _ ?_) F.lay32 rfl rfl rfl ?_ | refine X_load_el rfl rfl rfl (by first | assumption | exact SlM.mono (by assumption) (by assumption)) (by first | exact row_map (by omega) | exact List.getElem?_eq_getElem (by omega) | exact rfl | exact row_map (by first | (simp; done) | (simp; omega))) F.lay32 rfl rfl rfl ?_ | refine X_load_rd rfl rfl rfl (by assumption) (by first | exact row_map (by omega) | exact List.getElem?_eq_getElem (by omega) | exact rfl | exact row_map (by first | (simp; done) | (simp; omega))) F.lay32 rfl rfl rfl ?_ | refine X_load_mem rfl rfl rfl (by first | assumption | exact Mem.get_of (by assumption) (by repeat first | assumption | refine Mem.le.trans (by assumption) ?_)) F.lay32 rfl rfl rfl ?_ | refine X_load_osl rfl rfl rfl (by assumption) (by repeat first | exact Rem.here _ | exact Rem.two | apply Rem.skip | apply Rem.over) (by first | exact row_map (by omega) | exact List.getElem?_eq_getElem (by omega) | exact rfl | exact row_map (by first | (simp; done) | (simp; omega))) F.lay32 rfl rfl rfl ?_
  refine X_same (m := 20) rfl rfl rfl rfl rfl (by constructor) (by constructor) F.lay32 F.kinds32 rfl F.guard32 (fit_id fit_nil) (fit_id fit_nil) rfl rfl rfl ?_; intro c4 he5
  replace he5 : c4 = true ↔ Segs.cells _ = Segs.cells _ := he5
  obtain rfl := eqD he5 (cells_id1 (x := _) (y := _)); clear he5
  refine X_move rfl rfl rfl rfl ?_
  refine XD_part 10 rfl (fun hc6 => ?_) (fun hc6 => ?_)
  · first | replace hc6 := dT hc6 | replace hc6 := dF hc6 | replace hc6 := nT hc6 | replace hc6 := nF hc6 | skip
    try simp only [PeerV.eta] at hc6
    first
    | (exfalso; omega)
    | (exfalso; simp [eqX] at hc6; done)
    | contradiction
    | skip
      refine X_skip rfl rfl rfl ?_
      refine X_skip rfl rfl rfl ?_
      refine X_skip rfl rfl rfl ?_
      refine X_skip rfl rfl rfl ?_
      refine X_pick rfl rfl rfl rfl rfl ?_
      refine X_assign rfl rfl rfl rfl ?_
      refine XD_end ?_
      refine K_then ?_
      refine C_pick (.cons (k := 6) rfl .nil) ?_
      refine C_ret ?_
      refine K_end (.inr rfl) (.tmp rfl .nil) (fun w hw => ?_)
      refine ⟨_, rfl, (hw.cnt (by intro zz; first | exact Nat.le_refl _ | (simp only [cnt_app, cnt_cons, cnt_nil, cat, List.append_eq, List.append_assoc, List.cons_append, List.nil_append, List.append_nil]; omega) | (simp only [cnt_app, cnt_cons, cnt_nil, cat, List.append_eq, List.append_assoc, List.cons_append, List.nil_append, List.append_nil, PeerV.segs]; omega))), ?_⟩
      clear hw
      refine congrArg Value.bool ?_
      simp_all [HalfP]
  · first | replace hc6 := dT hc6 | replace hc6 := dF hc6 | replace hc6 := nT hc6 | replace hc6 := nF hc6 | skip
    try simp only [PeerV.eta] at hc6
    first
    | (exfalso; omega)
    | (exfalso; simp [eqX] at hc6; done)
    | contradiction
    | skip
      first | refine X_load rfl rfl rfl (by repeat first | exact List.Mem.head _ | refine List.Mem.tail _ ?_ | refine List.mem_append_right _ ?_) F.lay32 rfl rfl rfl ?_ | refine X_load_el rfl rfl rfl (by first | assumption | exact SlM.mono (by assumption) (by assumption)) (by first | exact row_map (by omega) | exact List.getElem?_eq_getElem (by omega) | exact rfl | exact row_map (by first | (simp; done) | (simp; omega))) F.lay32 rfl rfl rfl ?_ | refine X_load_rd rfl rfl rfl (by assumption) (by first | exact row_map (by omega) | exact List.getElem?_eq_getElem (by omega) | exact rfl | exact row_map (by first | (simp; done) | (simp; omega))) F.lay32 rfl rfl rfl ?_ | refine X_load_mem rfl rfl rfl (by first | assumption | exact Mem.get_of (by assumption) (by repeat first | assumption | refine Mem.le.trans (by assumption) ?_)) F.lay32 rfl rfl rfl ?_ | refine X_load_osl rfl rfl rfl (by assumption) (by repeat first | exact Rem.here _ | exact Rem.two | apply Rem.skip | apply Rem.over) (by first | exact row_map (by omega) | exact List.getElem?_eq_getElem (by omega) | exact rfl | exact row_map (by first | (simp; done) | (simp; omega))) F.lay32 rfl rfl rfl ?_
      first | refine X_load rfl rfl rfl (by repeat first | exact List.Mem.head _ | refine List.Mem.tail _ ?_ | refine List.mem_append_right _ ?_) F.lay32 rfl rfl rfl ?_ | refine X_load_el rfl rfl rfl (by first | assumption | exact SlM.mono (by assumption) (by assumption)) (by first | exact row_map (by omega) | exact List.getElem?_eq_getElem (by omega) | exact rfl | exact row_map (by first | (simp; done) | (simp; omega))) F.lay32 rfl rfl rfl ?_ | refine X_load_rd rfl rfl rfl (by assumption) (by first | exact row_map (by omega) | exact List.getElem?_eq_getElem (by omega) | exact rfl | exact row_map (by first | (simp; done) | (simp; omega))) F.lay32 rfl rfl rfl ?_ | refine X_load_mem rfl rfl rfl (by first | assumption | exact Mem.get_of (by assumption) (by repeat first | assumption | refine Mem.le.trans (by assumption) ?_)) F.lay32 rfl rfl rfl ?_ | refine X_load_osl rfl rfl rfl (by assumption) (by repeat first | exact Rem.here _ | exact Rem.two | apply Rem.skip | apply Rem.over) (by first | exact row_map (by omega) | exact List.getElem?_eq_getElem (by omega) | exact rfl | exact row_map (by first | (simp; done) | (simp; omega))) F.lay32 rfl rfl rfl ?_
      first | refine X_load rfl rfl rfl (by repeat first | exact List.Mem.head _ | refine List.Mem.tail _ ?_ | refine List.mem_append_right _ ?_) F.lay32 rfl rfl rfl ?_ | refine X_load_el rfl rfl rfl (by first | assumption | exact SlM.mono (by assumption) (by assumption)) (by first | exact row_map (by omega) | exact List.getElem?_eq_getElem (by omega) | exact rfl | exact row_map (by first | (simp; done) | (simp; omega))) F.lay32 rfl rfl rfl ?_ | refine X_load_rd rfl rfl rfl (by assumption) (by first | exact row_map (by omega) | exact List.getElem?_eq_getElem (by omega) | exact rfl | exact row_map (by first | (simp; done) | (simp; omega))) F.lay32 rfl rfl rfl ?_ | refine X_load_mem rfl rfl rfl (by first | assumption | exact Mem.get_of (by assumption) (by repeat first | assumption | refine Mem.le.trans (by assumption) ?_)) F.lay32 rfl rfl rfl ?_ | refine X_load_osl rfl rfl rfl (by assumption) (by repeat first | exact Rem.here _ | exact Rem.two | apply Rem.skip | apply Rem.over) (by first | exact row_map (by omega) | exact List.getElem?_eq_getElem (by omega) | exact rfl | exact row_map (by first | (simp; done) | (simp; omega))) F.lay32 rfl rfl rfl ?_
      refine X_fs rfl rfl F.ok41 rfl (Open_ok _ _ _ _) rfl ?_
      rintro _ rfl
      refine X_pick rfl rfl rfl rfl rfl ?_
      refine X_assign rfl rfl rfl rfl ?_
      refine XD_end ?_
      refine K_then ?_
      refine C_pick (.cons (k := 6) rfl .nil) ?_
      refine C_ret ?_
      refine K_end (.inr rfl) (.tmp rfl .nil) (fun w hw => ?_)
      refine ⟨_, rfl, (hw.cnt (by intro zz; first | exact Nat.le_refl _ | (simp only [cnt_app, cnt_cons, cnt_nil, cat, List.append_eq, List.append_assoc, List.cons_append, List.nil_append, List.append_nil]; omega) | (simp only [cnt_app, cnt_cons, cnt_nil, cat, List.append_eq, List.append_assoc, List.cons_append, List.nil_append, List.append_nil, PeerV.segs]; omega))), ?_⟩
      clear hw
      refine congrArg Value.bool ?_
      simp_all [HalfP]

theorem None_ok (M : Mem) : Fs Tryd.prog 38 [] M (fun v => v =  (noneP.enc)) := by
  refine fs_enter Tryd.func38 rfl Tryd.ntmps38 rfl ?_; intro H
  refine C_seq ?_
  refine C_region (l := [0]) rfl ?_
  refine X_alloc rfl rfl F.zero38 (by constructor) rfl ?_; intro b1
  refine XD_end ?_
  refine K_then ?_
  refine C_seq ?_
  refine C_region (l := [0, 1]) rfl ?_
  refine X_build rfl rfl F.bld38 (.cons rfl (by constructor) .nil) rfl rfl ?_
  refine X_store rfl rfl rfl rfl (by constructor) (by first | ((try simp only [cat, List.cons_append, List.nil_append, List.append_nil]); (repeat (first | exact flat_nil | refine flat_id ?_ | (refine flat_one ?_ ?_; rfl))); done) | exact PeerV.flat _ | exact PeerV.flat ⟨_, _⟩ | (simp [flat, cat, Segs.cells, Seg.cells, Value.oneCell']; done)) (by repeat first | exact Upd.head | apply Upd.tail | apply Upd.over) F.lay38 rfl rfl ?_
  refine XD_end ?_
  refine K_then ?_
  refine C_pick (.cons (k := 0) rfl .nil) ?_
  refine C_ret ?_
  refine K_end (.inr rfl) (.cell rfl (by repeat first | exact List.Mem.head _ | refine List.Mem.tail _ ?_ | refine List.mem_append_right _ ?_) F.lay38 rfl rfl .nil) (fun w hw => ?_)
  refine ⟨_, rfl, (hw.cnt (by intro zz; first | exact Nat.le_refl _ | (simp only [cnt_app, cnt_cons, cnt_nil, cat, List.append_eq, List.append_assoc, List.cons_append, List.nil_append, List.append_nil]; omega) | (simp only [cnt_app, cnt_cons, cnt_nil, cat, List.append_eq, List.append_assoc, List.cons_append, List.nil_append, List.append_nil, PeerV.segs]; omega))), ?_⟩
  clear hw
  rfl

end Go.Proofs.YtbafnjniijodfaaDoor
/-
  Circles.
-/
set_option linter.unusedSimpArgs false
set_option linter.unusedVariables false
set_option linter.unnecessarySimpa false
set_option maxRecDepth 8000
set_option maxHeartbeats 1000000
namespace Go.Proofs.YtbafnjniijodfaaDoor
open Go.Esp
theorem F.elem22 : slOf Tryd.prog 22 = some (3, 1, 8) := by kernel_rfl
theorem F.elem23 : slOf Tryd.prog 23 = some (38, 21, 32) := by kernel_rfl
theorem F.foff38_0 : foff Tryd.prog 38 0 = some 0 := by kernel_rfl
theorem F.foff38_1 : foff Tryd.prog 38 1 = some 1 := by kernel_rfl
theorem F.lay23 : lay Tryd.prog 23 = some (false, 1) := by kernel_rfl
theorem F.lay3 : lay Tryd.prog 3 = some (false, 1) := by kernel_rfl
theorem F.ok12 : okFn Tryd.prog 12 = true := by kernel_rfl
theorem F.ok13 : okFn Tryd.prog 13 = true := by kernel_rfl
theorem F.ok35 : okFn Tryd.prog 35 = true := by kernel_rfl
theorem F.ok39 : okFn Tryd.prog 39 = true := by kernel_rfl
theorem F.ok40 : okFn Tryd.prog 40 = true := by kernel_rfl
theorem F.ok54 : okFn Tryd.prog 54 = true := by kernel_rfl
theorem F.ok55 : okFn Tryd.prog 55 = true := by kernel_rfl
theorem F.ok56 : okFn Tryd.prog 56 = true := by kernel_rfl
theorem F.zero3 : zeroOf Tryd.prog 3 = some ((.int .i64 0)) := by kernel_rfl

theorem IndexI_rd (M : Mem) (Hin : Hp) (l : Sl Int) (x : Int) (hl : RdS M Hin l.a (l.l.map (oneI .i64)) 1) (bl : l.l.length ≤ 9223372036854775807) : Fo Tryd.prog 54 [l.val, .int .i64 x] M Hin (fun M' v => M' = M ∧ v = .int .i64 (idxI x l.l)) := by
  have nl : (l.l.map (oneI .i64)).length = l.l.length := List.length_map ..
  refine fo_enter Tryd.func54 rfl Tryd.ntmps54 rfl ?_; intro H
  have hrd := hl.app H
  refine C_seq ?_
  refine C_region (l := [0]) rfl ?_
  refine X_assign rfl rfl rfl rfl ?_
  refine XD_end ?_
  refine K_then ?_
  refine C_seq ?_
  refine C_seq ?_
  refine C_region (l := [0, 1, 2]) rfl ?_
  refine X_move rfl rfl rfl rfl ?_
  refine X_len_sl rfl rfl rfl rfl F.elem22 rfl ?_
  refine X_move rfl rfl rfl rfl ?_
  refine XD_end ?_
  refine K_then ?_
  refine C_pick (.cons (k := 8) rfl (.cons (k := 7) rfl (.cons (k := 4) rfl (.cons (k := 0) rfl (.cons (k := 1) rfl .nil))))) ?_
  refine C_block ?_
  refine C_pick (.cons (k := 8) rfl (.cons (k := 7) rfl (.cons (k := 4) rfl (.cons (k := 0) rfl (.cons (k := 1) rfl .nil))))) ?_
  refine C_loopS (.succ .zero) (fun (k : Nat) z => z = [(8, .int .i64 (k : Int))] ∧ k ≤ l.l.length ∧ (x ∉ l.l.take k)) (fun k => l.l.length - k) (0) (⟨rfl, by omega, by simp⟩) ?_
  rintro k _ ⟨rfl, hk, hI⟩
  refine C_seq ?_
  refine C_region (l := [0]) rfl ?_
  refine X_cmp rfl rfl rfl rfl rfl rfl ?_
  refine XD_end ?_
  refine K_then ?_
  refine C_seq ?_
  refine C_cond rfl (fun hc1 => ?_) (fun hc1 => ?_)
  · first | replace hc1 := dT hc1 | replace hc1 := dF hc1 | replace hc1 := nT hc1 | replace hc1 := nF hc1 | skip
    first
    | (exfalso; omega)
    | (exfalso; simp [eqX] at hc1; done)
    | contradiction
    | skip
      refine C_skip ?_
      refine K_then ?_
      refine C_seq ?_
      refine C_block ?_
      refine C_seq ?_
      refine C_region (l := [0, 1]) rfl ?_
      refine X_move rfl rfl rfl rfl ?_
      refine X_assign rfl rfl rfl rfl ?_
      refine XD_end ?_
      refine K_then ?_
      refine C_seq ?_
      refine C_region (l := [0, 1, 2, 3, 4, 5]) rfl ?_
      refine X_move rfl rfl rfl rfl ?_
      refine X_move rfl rfl rfl rfl ?_
      refine X_move rfl rfl rfl rfl ?_
      refine X_indexAddr rfl rfl rfl rfl F.elem22 (by first | rfl | exact (Int.toNat_of_nonneg (by omega)).symm) (by first | omega | (simp; done) | (simp; omega)) (by first | exact ⟨_, _, rfl⟩ | assumption | exact SlM.plain (by assumption) (by first | (simp; done) | (simp; omega)) | exact RdS.plain (by assumption) (by first | (simp; done) | (simp; omega)) | exact OSl.plain (by assumption) (by first | (simp; done) | (simp; omega))) rfl ?_
      first | refine X_load rfl rfl rfl (by repeat first | exact List.Mem.head _ | refine List.Mem.tail _ ?_ | refine List.mem_append_right _ ?_) F.lay3 rfl rfl rfl ?_ | refine X_load_el rfl rfl rfl (by first | assumption | exact SlM.mono (by assumption) (by assumption)) (by first | exact row_map (by omega) | exact List.getElem?_eq_getElem (by omega) | exact rfl | exact row_map (by first | (simp; done) | (simp; omega))) F.lay3 rfl rfl rfl ?_ | refine X_load_rd rfl rfl rfl (by assumption) (by first | exact row_map (by omega) | exact List.getElem?_eq_getElem (by omega) | exact rfl | exact row_map (by first | (simp; done) | (simp; omega))) F.lay3 rfl rfl rfl ?_ | refine X_load_mem rfl rfl rfl (by first | assumption | exact Mem.get_of (by assumption) (by repeat first | assumption | refine Mem.le.trans (by assumption) ?_)) F.lay3 rfl rfl rfl ?_ | refine X_load_osl rfl rfl rfl (by assumption) (by repeat first | exact Rem.here _ | exact Rem.two | apply Rem.skip | apply Rem.over) (by first | exact row_map (by omega) | exact List.getElem?_eq_getElem (by omega) | exact rfl | exact row_map (by first | (simp; done) | (simp; omega))) F.lay3 rfl rfl rfl ?_ | refine X_load_cell rfl rfl rfl (by repeat first | exact List.Mem.head _ | refine List.Mem.tail _ ?_ | refine List.mem_append_right _ ?_) F.lay3 (by first | exact id_at (by first | omega | decide) | exact arr_at (by first | omega | decide)) rfl ?_
      refine X_cmp rfl rfl rfl rfl rfl rfl ?_
      refine XD_end ?_
      refine K_then ?_
      refine C_cond rfl (fun hc2 => ?_) (fun hc2 => ?_)
      · first | replace hc2 := dT hc2 | replace hc2 := dF hc2 | replace hc2 := nT hc2 | replace hc2 := nF hc2 | skip
        first
        | (exfalso; omega)
        | (exfalso; simp [eqX] at hc2; done)
        | contradiction
        | skip
          refine C_seq ?_
          refine C_region (l := [0, 1]) rfl ?_
          refine X_move rfl rfl rfl rfl ?_
          refine X_assign rfl rfl rfl rfl ?_
          refine XD_end ?_
          refine K_then ?_
          refine C_ret ?_
          refine K_retB ?_
          refine K_ret ?_
          refine K_ret ?_
          refine K_retB ?_
          refine K_ret ?_
          refine K_end (.inr rfl) (.tmp rfl .nil) (fun w hw => ?_)
          refine ⟨_, M, rfl, Mem.le.refl M, hw.cnt (by intro zz; first | exact Nat.le_refl _ | (simp only [cnt_app, cnt_cons, cnt_nil, cat, List.append_eq, List.append_assoc, List.cons_append, List.nil_append, List.append_nil]; omega)), rfl, ?_⟩
          refine congrArg (Value.int .i64) ?_
          first | exact (idxI_at (by omega) hI (by assumption)).symm | (have hk9 : k = l.l.length := (by omega); subst hk9; rw [List.take_length] at hI; exact (idxI_none hI).symm)
      · first | replace hc2 := dT hc2 | replace hc2 := dF hc2 | replace hc2 := nT hc2 | replace hc2 := nF hc2 | skip
        first
        | (exfalso; omega)
        | (exfalso; simp [eqX] at hc2; done)
        | contradiction
        | skip
          refine C_skip ?_
          refine K_out ?_
          refine K_then ?_
          refine C_region (l := [0, 1]) rfl ?_
          refine X_ari rfl rfl rfl rfl rfl (by first | exact wrap_in (by decide) (by omega) | exact wrap_u64_in (by decide) (by omega) | exact wrap_u8_in (by decide) (by omega) | exact wrap_u32_in (by decide) (by omega) | exact wrap_u64 _ | exact wrap_u8 _ | exact wrap_u32 _ | exact rfl) rfl ?_
          refine X_move rfl rfl rfl rfl ?_
          refine XD_end ?_
          refine K_roundS (a' := [(8, _)]) (k + 1) (.cons (k := 8) rfl (.cons (k := 7) rfl (.cons (k := 4) rfl (.cons (k := 0) rfl (.cons (k := 1) rfl (.nil)))))) (fun w hw => by first | exact hw | exact hw.cnt (by intro zz; first | exact Nat.le_refl _ | (simp only [cnt_app, cnt_cons, cnt_nil, cat, List.append_eq, List.append_assoc, List.cons_append, List.nil_append, List.append_nil]; omega) | (simp only [cnt_app, cnt_cons, cnt_nil, cat, List.append_eq, List.append_assoc, List.cons_append, List.nil_append, List.append_nil, PeerV.segs]; omega))) ?_ ?_
          · refine ⟨rfl, by omega, ?_⟩
            exact not_take_succ (by omega) hI (by assumption)
          · omega
  · first | replace hc1 := dT hc1 | replace hc1 := dF hc1 | replace hc1 := nT hc1 | replace hc1 := nF hc1 | skip
    first
    | (exfalso; omega)
    | (exfalso; simp [eqX] at hc1; done)
    | contradiction
    | skip
      refine C_exit ?_
      refine K_exit ?_
      refine K_exit ?_
      refine K_hit ?_
      refine K_then ?_
      refine C_pick (.cons (k := 4) rfl .nil) ?_
      refine C_seq ?_
      refine C_region (l := [0]) rfl ?_
      refine X_assign rfl rfl rfl rfl ?_
      refine XD_end ?_
      refine K_then ?_
      refine C_ret ?_
      refine K_end (.inr rfl) (.tmp rfl .nil) (fun w hw => ?_)
      refine ⟨_, M, rfl, Mem.le.refl M, hw.cnt (by intro zz; first | exact Nat.le_refl _ | (simp only [cnt_app, cnt_cons, cnt_nil, cat, List.append_eq, List.append_assoc, List.cons_append, List.nil_append, List.append_nil]; omega)), rfl, ?_⟩
      refine congrArg (Value.int .i64) ?_
      first | exact (idxI_at (by omega) hI (by assumption)).symm | (have hk9 : k = l.l.length := (by omega); subst hk9; rw [List.take_length] at hI; exact (idxI_none hI).symm)

theorem ContainsI_rd (M : Mem) (Hin : Hp) (l : Sl Int) (x : Int) (hl : RdS M Hin l.a (l.l.map (oneI .i64)) 1) (bl : l.l.length ≤ 9223372036854775807) : Fo Tryd.prog 39 [l.val, .int .i64 x] M Hin (fun M' v => M' = M ∧ v = .bool (decide (x ∈ l.l))) := by
  refine fo_enter Tryd.func39 rfl Tryd.ntmps39 rfl ?_; intro H
  refine C_seq ?_
  refine C_region (l := [0]) rfl ?_
  refine X_assign rfl rfl rfl rfl ?_
  refine XD_end ?_
  refine K_then ?_
  refine C_seq ?_
  refine C_region (l := [0, 1, 2, 3, 4]) rfl ?_
  refine X_move rfl rfl rfl rfl ?_
  refine X_move rfl rfl rfl rfl ?_
  refine X_fo rfl rfl F.ok54 rfl (IndexI_rd _ Hin ⟨_, _, _⟩ _ hl bl) (by repeat first | exact Rem.here _ | exact Rem.two | apply Rem.skip | apply Rem.over) (putE_some rfl) ?_
  rintro _ M1 _ ⟨hM1, rfl⟩; subst M1
  refine X_cmp rfl rfl rfl rfl rfl rfl ?_
  refine X_assign rfl rfl rfl rfl ?_
  refine XD_end ?_
  refine K_then ?_
  refine C_pick (.cons (k := 4) rfl .nil) ?_
  refine C_ret ?_
  refine K_end (.inr rfl) (.tmp rfl .nil) (fun w hw => ?_)
  exact ⟨_, M, rfl, Mem.le.refl M, hw.cnt (by intro zz; first | exact Nat.le_refl _ | (simp only [cnt_app, cnt_cons, cnt_nil, cat, List.append_eq, List.append_assoc, List.cons_append, List.nil_append, List.append_nil]; omega)), rfl, congrArg Value.bool (by simp [idxI_nn])⟩

theorem IndexI_ok (M : Mem) (l : Sl Int) (x : Int) (hl : SlM M l.a (l.l.map (oneI .i64)) 1) (bl : l.l.length ≤ maxLen) : Fs Tryd.prog 54 [l.val, .int .i64 x] M (fun v => v = .int .i64 (idxI x l.l)) :=
  fs_of_fo (IndexI_rd M [] l x (hl.rd []) bl)

theorem ContainsI_ok (M : Mem) (l : Sl Int) (x : Int) (hl : SlM M l.a (l.l.map (oneI .i64)) 1) (bl : l.l.length ≤ maxLen) : Fs Tryd.prog 39 [l.val, .int .i64 x] M (fun v => v = .bool (decide (x ∈ l.l))) :=
  fs_of_fo (ContainsI_rd M [] l x (hl.rd []) bl)

theorem Circ_ok (M : Mem) (l : (Sl PeerV)) (hl0 : SlK M PeerV.segs 21 l) : Fs Tryd.prog 12 [Sl.val l] M (fun v => v = Value.bool (decide (IsCircle l.l))) := by
  obtain ⟨l_a, l_c, l_l⟩ := l
  have k_l : SlK M PeerV.segs 21 ⟨l_a, l_c, l_l⟩ := hl0
  have s_l : SlM M l_a (l_l.map PeerV.segs) 21 := k_l.h1
  have n_l : (l_l.map PeerV.segs).length = l_l.length := List.length_map ..
  have m_l : l_l.length ≤ 9223372036854775807 := k_l.h2
  have c_l : l_l.length ≤ l_c := k_l.h3
  refine fs_enter Tryd.func12 rfl Tryd.ntmps12 rfl ?_; intro H
  refine C_seq ?_
  refine C_region (l := [0]) rfl ?_
  refine X_assign rfl rfl rfl rfl ?_
  refine XD_end ?_
  refine K_then ?_
  refine C_seq ?_
  refine C_seq ?_
  refine C_region (l := [0, 1, 2, 3, 4, 5, 6, 7]) rfl ?_
  refine X_move rfl rfl rfl rfl ?_
  refine X_len_sl rfl rfl rfl rfl F.elem23 rfl ?_
  refine X_cmp rfl rfl rfl rfl rfl rfl ?_
  refine X_move rfl rfl rfl rfl ?_
  refine XD_part 9 rfl (fun hc1 => ?_) (fun hc1 => ?_)
  · first | replace hc1 := dT hc1 | replace hc1 := dF hc1 | replace hc1 := nT hc1 | replace hc1 := nF hc1 | skip
    try simp only [PeerV.eta] at hc1
    first
    | (exfalso; omega)
    | (exfalso; simp [eqX] at hc1; done)
    | contradiction
    | skip
      refine X_skip rfl rfl rfl ?_
      refine X_skip rfl rfl rfl ?_
      refine X_skip rfl rfl rfl ?_
      refine X_pick rfl rfl rfl rfl rfl ?_
      refine XD_end ?_
      refine K_then ?_
      refine C_pick (.cons (k := 13) rfl (.cons (k := 2) rfl (.cons (k := 0) rfl .nil))) ?_
      refine C_true rfl ?_
      refine C_seq ?_
      refine C_region (l := [0]) rfl ?_
      refine X_assign rfl rfl rfl rfl ?_
      refine XD_end ?_
      refine K_then ?_
      refine C_pick (.cons (k := 2) rfl (.cons (k := 0) rfl .nil)) ?_
      refine C_ret ?_
      refine K_ret ?_
      refine K_end (.inr rfl) (.tmp rfl .nil) (fun w hw => ?_)
      refine ⟨_, rfl, (hw.cnt (by intro zz; first | exact Nat.le_refl _ | (simp only [cnt_app, cnt_cons, cnt_nil, cat, List.append_eq, List.append_assoc, List.cons_append, List.nil_append, List.append_nil]; omega) | (simp only [cnt_app, cnt_cons, cnt_nil, cat, List.append_eq, List.append_assoc, List.cons_append, List.nil_append, List.append_nil, PeerV.segs]; omega))), ?_⟩
      clear hw
      refine congrArg Value.bool ?_
      first | (have hd := circ_take (l := l_l) (k := k) (by omega); have hp := circ_pre (l := l_l); grind [IsCircle]) | (have hk9 : k = l_l.length := (by omega); subst hk9; grind [IsCircle, List.take_length]) | grind [IsCircle]
  · first | replace hc1 := dT hc1 | replace hc1 := dF hc1 | replace hc1 := nT hc1 | replace hc1 := nF hc1 | skip
    try simp only [PeerV.eta] at hc1
    first
    | (exfalso; omega)
    | (exfalso; simp [eqX] at hc1; done)
    | contradiction
    | skip
      refine X_move rfl rfl rfl rfl ?_
      refine X_len_sl rfl rfl rfl rfl F.elem23 rfl ?_
      refine X_cmp rfl rfl rfl rfl rfl rfl ?_
      refine X_pick rfl rfl rfl rfl rfl ?_
      refine XD_end ?_
      refine K_then ?_
      refine C_pick (.cons (k := 13) rfl (.cons (k := 2) rfl (.cons (k := 0) rfl .nil))) ?_
      refine C_cond rfl (fun hc2 => ?_) (fun hc2 => ?_)
      · first | replace hc2 := dT hc2 | replace hc2 := dF hc2 | replace hc2 := nT hc2 | replace hc2 := nF hc2 | skip
        try simp only [PeerV.eta] at hc2
        first
        | (exfalso; omega)
        | (exfalso; simp [eqX] at hc2; done)
        | contradiction
        | skip
          refine C_seq ?_
          refine C_region (l := [0]) rfl ?_
          refine X_assign rfl rfl rfl rfl ?_
          refine XD_end ?_
          refine K_then ?_
          refine C_pick (.cons (k := 2) rfl (.cons (k := 0) rfl .nil)) ?_
          refine C_ret ?_
          refine K_ret ?_
          refine K_end (.inr rfl) (.tmp rfl .nil) (fun w hw => ?_)
          refine ⟨_, rfl, (hw.cnt (by intro zz; first | exact Nat.le_refl _ | (simp only [cnt_app, cnt_cons, cnt_nil, cat, List.append_eq, List.append_assoc, List.cons_append, List.nil_append, List.append_nil]; omega) | (simp only [cnt_app, cnt_cons, cnt_nil, cat, List.append_eq, List.append_assoc, List.cons_append, List.nil_append, List.append_nil, PeerV.segs]; omega))), ?_⟩
          clear hw
          refine congrArg Value.bool ?_
          first | (have hd := circ_take (l := l_l) (k := k) (by omega); have hp := circ_pre (l := l_l); grind [IsCircle]) | (have hk9 : k = l_l.length := (by omega); subst hk9; grind [IsCircle, List.take_length]) | grind [IsCircle]
      · first | replace hc2 := dT hc2 | replace hc2 := dF hc2 | replace hc2 := nT hc2 | replace hc2 := nF hc2 | skip
        try simp only [PeerV.eta] at hc2
        first
        | (exfalso; omega)
        | (exfalso; simp [eqX] at hc2; done)
        | contradiction
        | skip
          refine C_skip ?_
          refine K_then ?_
          refine C_pick (.cons (k := 2) rfl (.cons (k := 0) rfl .nil)) ?_
          refine C_seq ?_
          refine C_region (l := [0]) rfl ?_
          refine X_assign rfl rfl rfl rfl ?_
          refine XD_end ?_
          refine K_then ?_
          refine C_seq ?_
          refine C_seq ?_
          refine C_region (l := [0, 1, 2]) rfl ?_
          refine X_move rfl rfl rfl rfl ?_
          refine X_len_sl rfl rfl rfl rfl F.elem23 rfl ?_
          refine X_move rfl rfl rfl rfl ?_
          refine XD_end ?_
          refine K_then ?_
          refine C_block ?_
          refine C_pick (.cons (k := 16) rfl (.cons (k := 3) rfl (.cons (k := 15) rfl (.cons (k := 14) rfl (.cons (k := 2) rfl (.cons (k := 0) rfl .nil)))))) ?_
          refine C_loopO (Hin := []) (.succ (.succ .zero)) (by repeat first | exact Rem.here _ | exact Rem.two | apply Rem.skip | apply Rem.over) (fun (k : Nat) M1 h1 z => ∃ v, M1 = M ∧ z = [(16, .int .i64 (k : Int)), (3, v)] ∧ k ≤ l_l.length ∧ CircOk (l_l.take k) ∧ OSl 3 1 v h1 (((l_l.take k).map PeerV.addr).map (oneI .i64))) (fun k => l_l.length - k) (0) (⟨_, rfl, rfl, by omega, by simp [CircOk], OSl.nil⟩) ?_
          rintro k M1 h1 z hm1 ⟨v1, hM1, rfl, hk, hI, ho⟩
          subst hM1
          obtain ⟨ad1, cp1, rfl⟩ := ho.valL
          have hlk : (l_l.take k).length = k := by rw [List.length_take]; omega
          have hlm : (((l_l.take k).map PeerV.addr).map (oneI .i64)).length = k := by simp; omega
          refine C_seq ?_
          refine C_region (l := [0]) rfl ?_
          refine X_cmp rfl rfl rfl rfl rfl rfl ?_
          refine XD_end ?_
          refine K_then ?_
          refine C_seq ?_
          refine C_cond rfl (fun hc3 => ?_) (fun hc3 => ?_)
          · first | replace hc3 := dT hc3 | replace hc3 := dF hc3 | replace hc3 := nT hc3 | replace hc3 := nF hc3 | skip
            try simp only [PeerV.eta] at hc3
            first
            | (exfalso; omega)
            | (exfalso; simp [eqX] at hc3; done)
            | contradiction
            | skip
              refine C_skip ?_
              refine K_then ?_
              refine C_seq ?_
              refine C_block ?_
              refine C_seq ?_
              refine C_region (l := [0, 1, 2, 3, 4, 5]) rfl ?_
              refine X_move rfl rfl rfl rfl ?_
              refine X_indexAddr rfl rfl rfl rfl F.elem23 (by first | rfl | exact (Int.toNat_of_nonneg (by omega)).symm) (by first | omega | (simp; done) | (simp; omega)) (by first | exact ⟨_, _, rfl⟩ | assumption | exact SlM.plain (by assumption) (by first | (simp; done) | (simp; omega)) | exact RdS.plain (by assumption) (by first | (simp; done) | (simp; omega)) | exact OSl.plain (by assumption) (by first | (simp; done) | (simp; omega))) rfl ?_
              first | refine X_load rfl rfl rfl (by repeat first | exact List.Mem.head _ | refine List.Mem.tail _ ?_ | refine List.mem_append_right _ ?_) F.lay38 rfl rfl rfl ?_ | refine X_load_el rfl rfl rfl (by first | assumption | exact SlM.mono (by assumption) (by assumption)) (by first | exact row_map (by omega) | exact List.getElem?_eq_getElem (by omega) | exact rfl | exact row_map (by first | (simp; done) | (simp; omega))) F.lay38 rfl rfl rfl ?_ | refine X_load_rd rfl rfl rfl (by assumption) (by first | exact row_map (by omega) | exact List.getElem?_eq_getElem (by omega) | exact rfl | exact row_map (by first | (simp; done) | (simp; omega))) F.lay38 rfl rfl rfl ?_ | refine X_load_mem rfl rfl rfl (by first | assumption | exact Mem.get_of (by assumption) (by repeat first | assumption | refine Mem.le.trans (by assumption) ?_)) F.lay38 rfl rfl rfl ?_ | refine X_load_osl rfl rfl rfl (by assumption) (by repeat first | exact Rem.here _ | exact Rem.two | apply Rem.skip | apply Rem.over) (by first | exact row_map (by omega) | exact List.getElem?_eq_getElem (by omega) | exact rfl | exact row_map (by first | (simp; done) | (simp; omega))) F.lay38 rfl rfl rfl ?_
              refine X_alloc rfl rfl F.zero38 (by constructor) rfl ?_; intro b4
              refine X_assign rfl rfl rfl rfl ?_
              refine X_store rfl rfl rfl rfl (by constructor) (by first | ((try simp only [cat, List.cons_append, List.nil_append, List.append_nil]); (repeat (first | exact flat_nil | refine flat_id ?_ | (refine flat_one ?_ ?_; rfl))); done) | exact PeerV.flat _ | exact PeerV.flat ⟨_, _⟩ | (simp [flat, cat, Segs.cells, Seg.cells, Value.oneCell']; done)) (by repeat first | exact Upd.head | apply Upd.tail | apply Upd.over) F.lay38 rfl rfl ?_
              refine XD_end ?_
              refine K_then ?_
              refine C_seq ?_
              refine C_seq ?_
              refine C_region_any (l := [0, 1, 2, 3, 4, 5, 6, 7, 8, 9, 10, 11, 12, 13, 14, 15, 16, 17, 18, 19, 20, 21, 22, 23, 24, 25, 26, 27, 28, 29]) #[0, 1, 3, 7, 15, 31, 63, 127, 255, 511, 511, 1535, 4095, 8191, 16383, 32767, 65535, 131071, 262143, 262143, 786431, 2097151, 4194303, 8388607, 262143, 17039359, 67108863, 134217727, 268435455, 536870911] _ rfl (by kernel_rfl) (by kernel_rfl) St.drawn (fun _ h => h) ?_
              first | refine X_fieldAddr rfl rfl rfl F.foff38_0 rfl ?_ | refine X_fieldAddr_el rfl rfl rfl (by first | exact ⟨_, _, rfl⟩ | assumption | exact SlM.plain (by assumption) (by first | (simp; done) | (simp; omega)) | exact RdS.plain (by assumption) (by first | (simp; done) | (simp; omega)) | exact OSl.plain (by assumption) (by first | (simp; done) | (simp; omega))) F.foff38_0 rfl ?_
              first | refine X_load rfl rfl rfl (by repeat first | exact List.Mem.head _ | refine List.Mem.tail _ ?_ | refine List.mem_append_right _ ?_) F.lay3 rfl rfl rfl ?_ | refine X_load_el rfl rfl rfl (by first | assumption | exact SlM.mono (by assumption) (by assumption)) (by first | exact row_map (by omega) | exact List.getElem?_eq_getElem (by omega) | exact rfl | exact row_map (by first | (simp; done) | (simp; omega))) F.lay3 rfl rfl rfl ?_ | refine X_load_rd rfl rfl rfl (by assumption) (by first | exact row_map (by omega) | exact List.getElem?_eq_getElem (by omega) | exact rfl | exact row_map (by first | (simp; done) | (simp; omega))) F.lay3 rfl rfl rfl ?_ | refine X_load_mem rfl rfl rfl (by first | assumption | exact Mem.get_of (by assumption) (by repeat first | assumption | refine Mem.le.trans (by assumption) ?_)) F.lay3 rfl rfl rfl ?_ | refine X_load_osl rfl rfl rfl (by assumption) (by repeat first | exact Rem.here _ | exact Rem.two | apply Rem.skip | apply Rem.over) (by first | exact row_map (by omega) | exact List.getElem?_eq_getElem (by omega) | exact rfl | exact row_map (by first | (simp; done) | (simp; omega))) F.lay3 rfl rfl rfl ?_ | refine X_load_cell rfl rfl rfl (by repeat first | exact List.Mem.head _ | refine List.Mem.tail _ ?_ | refine List.mem_append_right _ ?_) F.lay3 (by first | exact id_at (by first | omega | decide) | exact arr_at (by first | omega | decide)) rfl ?_
              refine X_cmp rfl rfl rfl rfl rfl rfl ?_
              refine X_move rfl rfl rfl rfl ?_
              refine XD_part 24 rfl (fun hc5 => ?_) (fun hc5 => ?_)
              · first | replace hc5 := dT hc5 | replace hc5 := dF hc5 | replace hc5 := nT hc5 | replace hc5 := nF hc5 | skip
                try simp only [PeerV.eta] at hc5
                first
                | (exfalso; omega)
                | (exfalso; simp [eqX] at hc5; done)
                | contradiction
                | skip
                  refine X_skip rfl rfl rfl ?_
                  refine X_skip rfl rfl rfl ?_
                  refine X_skip rfl rfl rfl ?_
                  refine X_pick rfl rfl rfl rfl rfl ?_
                  refine X_move rfl rfl rfl rfl ?_
                  refine X_skip rfl rfl rfl ?_
                  refine X_skip rfl rfl rfl ?_
                  refine X_skip rfl rfl rfl ?_
                  refine X_skip rfl rfl rfl ?_
                  refine X_pick rfl rfl rfl rfl rfl ?_
                  refine X_move rfl rfl rfl rfl ?_
                  refine X_skip rfl rfl rfl ?_
                  refine X_skip rfl rfl rfl ?_
                  refine X_skip rfl rfl rfl ?_
                  refine X_skip rfl rfl rfl ?_
                  refine X_skip rfl rfl rfl ?_
                  refine X_skip rfl rfl rfl ?_
                  refine X_skip rfl rfl rfl ?_
                  refine X_skip rfl rfl rfl ?_
                  refine X_skip rfl rfl rfl ?_
                  refine X_skip rfl rfl rfl ?_
                  refine X_skip rfl rfl rfl ?_
                  refine X_skip rfl rfl rfl ?_
                  refine X_skip rfl rfl rfl ?_
                  refine X_skip rfl rfl rfl ?_
                  refine X_pick rfl rfl rfl rfl rfl ?_
                  refine XD_end ?_
                  refine K_then ?_
                  refine C_true rfl ?_
                  refine C_seq ?_
                  refine C_region (l := [0]) rfl ?_
                  refine X_assign rfl rfl rfl rfl ?_
                  refine XD_end ?_
                  refine K_then ?_
                  refine C_ret ?_
                  refine K_ret ?_
                  refine K_retB ?_
                  refine K_ret ?_
                  refine K_ret ?_
                  refine K_retB ?_
                  refine K_ret ?_
                  refine K_end (.inr rfl) (.tmp rfl .nil) (fun w hw => ?_)
                  refine ⟨_, rfl, (hw.cnt (by intro zz; first | exact Nat.le_refl _ | (simp only [cnt_app, cnt_cons, cnt_nil, cat, List.append_eq, List.append_assoc, List.cons_append, List.nil_append, List.append_nil]; omega) | (simp only [cnt_app, cnt_cons, cnt_nil, cat, List.append_eq, List.append_assoc, List.cons_append, List.nil_append, List.append_nil, PeerV.segs]; omega))), ?_⟩
                  clear hw
                  refine congrArg Value.bool ?_
                  first | (have hd := circ_take (l := l_l) (k := k) (by omega); have hp := circ_pre (l := l_l); grind [IsCircle]) | (have hk9 : k = l_l.length := (by omega); subst hk9; grind [IsCircle, List.take_length]) | grind [IsCircle]
              · first | replace hc5 := dT hc5 | replace hc5 := dF hc5 | replace hc5 := nT hc5 | replace hc5 := nF hc5 | skip
                try simp only [PeerV.eta] at hc5
                first
                | (exfalso; omega)
                | (exfalso; simp [eqX] at hc5; done)
                | contradiction
                | skip
                  first | refine X_fieldAddr rfl rfl rfl F.foff38_0 rfl ?_ | refine X_fieldAddr_el rfl rfl rfl (by first | exact ⟨_, _, rfl⟩ | assumption | exact SlM.plain (by assumption) (by first | (simp; done) | (simp; omega)) | exact RdS.plain (by assumption) (by first | (simp; done) | (simp; omega)) | exact OSl.plain (by assumption) (by first | (simp; done) | (simp; omega))) F.foff38_0 rfl ?_
                  first | refine X_load rfl rfl rfl (by repeat first | exact List.Mem.head _ | refine List.Mem.tail _ ?_ | refine List.mem_append_right _ ?_) F.lay3 rfl rfl rfl ?_ | refine X_load_el rfl rfl rfl (by first | assumption | exact SlM.mono (by assumption) (by assumption)) (by first | exact row_map (by omega) | exact List.getElem?_eq_getElem (by omega) | exact rfl | exact row_map (by first | (simp; done) | (simp; omega))) F.lay3 rfl rfl rfl ?_ | refine X_load_rd rfl rfl rfl (by assumption) (by first | exact row_map (by omega) | exact List.getElem?_eq_getElem (by omega) | exact rfl | exact row_map (by first | (simp; done) | (simp; omega))) F.lay3 rfl rfl rfl ?_ | refine X_load_mem rfl rfl rfl (by first | assumption | exact Mem.get_of (by assumption) (by repeat first | assumption | refine Mem.le.trans (by assumption) ?_)) F.lay3 rfl rfl rfl ?_ | refine X_load_osl rfl rfl rfl (by assumption) (by repeat first | exact Rem.here _ | exact Rem.two | apply Rem.skip | apply Rem.over) (by first | exact row_map (by omega) | exact List.getElem?_eq_getElem (by omega) | exact rfl | exact row_map (by first | (simp; done) | (simp; omega))) F.lay3 rfl rfl rfl ?_ | refine X_load_cell rfl rfl rfl (by repeat first | exact List.Mem.head _ | refine List.Mem.tail _ ?_ | refine List.mem_append_right _ ?_) F.lay3 (by first | exact id_at (by first | omega | decide) | exact arr_at (by first | omega | decide)) rfl ?_
                  refine X_cmp rfl rfl rfl rfl rfl rfl ?_
                  refine X_pick rfl rfl rfl rfl rfl ?_
                  refine X_move rfl rfl rfl rfl ?_
                  refine XD_part 29 rfl (fun hc6 => ?_) (fun hc6 => ?_)
                  · first | replace hc6 := dT hc6 | replace hc6 := dF hc6 | replace hc6 := nT hc6 | replace hc6 := nF hc6 | skip
                    try simp only [PeerV.eta] at hc6
                    first
                    | (exfalso; omega)
                    | (exfalso; simp [eqX] at hc6; done)
                    | contradiction
                    | skip
                      refine X_skip rfl rfl rfl ?_
                      refine X_skip rfl rfl rfl ?_
                      refine X_skip rfl rfl rfl ?_
                      refine X_skip rfl rfl rfl ?_
                      refine X_pick rfl rfl rfl rfl rfl ?_
                      refine X_move rfl rfl rfl rfl ?_
                      refine X_skip rfl rfl rfl ?_
                      refine X_skip rfl rfl rfl ?_
                      refine X_skip rfl rfl rfl ?_
                      refine X_skip rfl rfl rfl ?_
                      refine X_skip rfl rfl rfl ?_
                      refine X_skip rfl rfl rfl ?_
                      refine X_skip rfl rfl rfl ?_
                      refine X_skip rfl rfl rfl ?_
                      refine X_skip rfl rfl rfl ?_
                      refine X_skip rfl rfl rfl ?_
                      refine X_skip rfl rfl rfl ?_
                      refine X_skip rfl rfl rfl ?_
                      refine X_skip rfl rfl rfl ?_
                      refine X_skip rfl rfl rfl ?_
                      refine X_pick rfl rfl rfl rfl rfl ?_
                      refine XD_end ?_
                      refine K_then ?_
                      refine C_true rfl ?_
                      refine C_seq ?_
                      refine C_region (l := [0]) rfl ?_
                      refine X_assign rfl rfl rfl rfl ?_
                      refine XD_end ?_
                      refine K_then ?_
                      refine C_ret ?_
                      refine K_ret ?_
                      refine K_retB ?_
                      refine K_ret ?_
                      refine K_ret ?_
                      refine K_retB ?_
                      refine K_ret ?_
                      refine K_end (.inr rfl) (.tmp rfl .nil) (fun w hw => ?_)
                      refine ⟨_, rfl, (hw.cnt (by intro zz; first | exact Nat.le_refl _ | (simp only [cnt_app, cnt_cons, cnt_nil, cat, List.append_eq, List.append_assoc, List.cons_append, List.nil_append, List.append_nil]; omega) | (simp only [cnt_app, cnt_cons, cnt_nil, cat, List.append_eq, List.append_assoc, List.cons_append, List.nil_append, List.append_nil, PeerV.segs]; omega))), ?_⟩
                      clear hw
                      refine congrArg Value.bool ?_
                      first | (have hd := circ_take (l := l_l) (k := k) (by omega); have hp := circ_pre (l := l_l); grind [IsCircle]) | (have hk9 : k = l_l.length := (by omega); subst hk9; grind [IsCircle, List.take_length]) | grind [IsCircle]
                  · first | replace hc6 := dT hc6 | replace hc6 := dF hc6 | replace hc6 := nT hc6 | replace hc6 := nF hc6 | skip
                    try simp only [PeerV.eta] at hc6
                    first
                    | (exfalso; omega)
                    | (exfalso; simp [eqX] at hc6; done)
                    | contradiction
                    | skip
                      refine X_move rfl rfl rfl rfl ?_
                      first | refine X_fieldAddr rfl rfl rfl F.foff38_0 rfl ?_ | refine X_fieldAddr_el rfl rfl rfl (by first | exact ⟨_, _, rfl⟩ | assumption | exact SlM.plain (by assumption) (by first | (simp; done) | (simp; omega)) | exact RdS.plain (by assumption) (by first | (simp; done) | (simp; omega)) | exact OSl.plain (by assumption) (by first | (simp; done) | (simp; omega))) F.foff38_0 rfl ?_
                      first | refine X_load rfl rfl rfl (by repeat first | exact List.Mem.head _ | refine List.Mem.tail _ ?_ | refine List.mem_append_right _ ?_) F.lay3 rfl rfl rfl ?_ | refine X_load_el rfl rfl rfl (by first | assumption | exact SlM.mono (by assumption) (by assumption)) (by first | exact row_map (by omega) | exact List.getElem?_eq_getElem (by omega) | exact rfl | exact row_map (by first | (simp; done) | (simp; omega))) F.lay3 rfl rfl rfl ?_ | refine X_load_rd rfl rfl rfl (by assumption) (by first | exact row_map (by omega) | exact List.getElem?_eq_getElem (by omega) | exact rfl | exact row_map (by first | (simp; done) | (simp; omega))) F.lay3 rfl rfl rfl ?_ | refine X_load_mem rfl rfl rfl (by first | assumption | exact Mem.get_of (by assumption) (by repeat first | assumption | refine Mem.le.trans (by assumption) ?_)) F.lay3 rfl rfl rfl ?_ | refine X_load_osl rfl rfl rfl (by assumption) (by repeat first | exact Rem.here _ | exact Rem.two | apply Rem.skip | apply Rem.over) (by first | exact row_map (by omega) | exact List.getElem?_eq_getElem (by omega) | exact rfl | exact row_map (by first | (simp; done) | (simp; omega))) F.lay3 rfl rfl rfl ?_ | refine X_load_cell rfl rfl rfl (by repeat first | exact List.Mem.head _ | refine List.Mem.tail _ ?_ | refine List.mem_append_right _ ?_) F.lay3 (by first | exact id_at (by first | omega | decide) | exact arr_at (by first | omega | decide)) rfl ?_
                      refine X_fo rfl rfl F.ok39 rfl (ContainsI_rd _ h1 ⟨ad1, cp1, (l_l.take k).map PeerV.addr⟩ _ (ho.rd _) (by simp; omega)) (by repeat first | exact Rem.here _ | exact Rem.two | apply Rem.skip | apply Rem.over) (putE_some rfl) ?_
                      rintro _ M1 _ ⟨hM1, rfl⟩; subst M1
                      refine X_pick rfl rfl rfl rfl rfl ?_
                      refine X_move rfl rfl rfl rfl ?_
                      refine XD_part 35 rfl (fun hc7 => ?_) (fun hc7 => ?_)
                      · first | replace hc7 := dT hc7 | replace hc7 := dF hc7 | replace hc7 := nT hc7 | replace hc7 := nF hc7 | skip
                        try simp only [PeerV.eta] at hc7
                        first
                        | (exfalso; omega)
                        | (exfalso; simp [eqX] at hc7; done)
                        | contradiction
                        | skip
                          refine X_skip rfl rfl rfl ?_
                          refine X_skip rfl rfl rfl ?_
                          refine X_skip rfl rfl rfl ?_
                          refine X_skip rfl rfl rfl ?_
                          refine X_skip rfl rfl rfl ?_
                          refine X_skip rfl rfl rfl ?_
                          refine X_skip rfl rfl rfl ?_
                          refine X_skip rfl rfl rfl ?_
                          refine X_skip rfl rfl rfl ?_
                          refine X_skip rfl rfl rfl ?_
                          refine X_skip rfl rfl rfl ?_
                          refine X_skip rfl rfl rfl ?_
                          refine X_skip rfl rfl rfl ?_
                          refine X_skip rfl rfl rfl ?_
                          refine X_pick rfl rfl rfl rfl rfl ?_
                          refine XD_end ?_
                          refine K_then ?_
                          refine C_true rfl ?_
                          refine C_seq ?_
                          refine C_region (l := [0]) rfl ?_
                          refine X_assign rfl rfl rfl rfl ?_
                          refine XD_end ?_
                          refine K_then ?_
                          refine C_ret ?_
                          refine K_ret ?_
                          refine K_retB ?_
                          refine K_ret ?_
                          refine K_ret ?_
                          refine K_retB ?_
                          refine K_ret ?_
                          refine K_end (.inr rfl) (.tmp rfl .nil) (fun w hw => ?_)
                          refine ⟨_, rfl, (hw.cnt (by intro zz; first | exact Nat.le_refl _ | (simp only [cnt_app, cnt_cons, cnt_nil, cat, List.append_eq, List.append_assoc, List.cons_append, List.nil_append, List.append_nil]; omega) | (simp only [cnt_app, cnt_cons, cnt_nil, cat, List.append_eq, List.append_assoc, List.cons_append, List.nil_append, List.append_nil, PeerV.segs]; omega))), ?_⟩
                          clear hw
                          refine congrArg Value.bool ?_
                          first | (have hd := circ_take (l := l_l) (k := k) (by omega); have hp := circ_pre (l := l_l); grind [IsCircle]) | (have hk9 : k = l_l.length := (by omega); subst hk9; grind [IsCircle, List.take_length]) | grind [IsCircle]
                      · first | replace hc7 := dT hc7 | replace hc7 := dF hc7 | replace hc7 := nT hc7 | replace hc7 := nF hc7 | skip
                        try simp only [PeerV.eta] at hc7
                        first
                        | (exfalso; omega)
                        | (exfalso; simp [eqX] at hc7; done)
                        | contradiction
                        | skip
                          refine X_move rfl rfl rfl rfl ?_
                          refine X_cmp rfl rfl rfl rfl rfl rfl ?_
                          refine X_move rfl rfl rfl rfl ?_
                          refine XD_part 38 rfl (fun hc8 => ?_) (fun hc8 => ?_)
                          · first | replace hc8 := dT hc8 | replace hc8 := dF hc8 | replace hc8 := nT hc8 | replace hc8 := nF hc8 | skip
                            try simp only [PeerV.eta] at hc8
                            first
                            | (exfalso; omega)
                            | (exfalso; simp [eqX] at hc8; done)
                            | contradiction
                            | skip
                              refine X_move rfl rfl rfl rfl ?_
                              refine X_move rfl rfl rfl rfl ?_
                              refine X_ari rfl rfl rfl rfl rfl (by first | exact wrap_in (by decide) (by omega) | exact wrap_u64_in (by decide) (by omega) | exact wrap_u8_in (by decide) (by omega) | exact wrap_u32_in (by decide) (by omega) | exact wrap_u64 _ | exact wrap_u8 _ | exact wrap_u32 _ | exact rfl) rfl ?_
                              refine X_indexAddr rfl rfl rfl rfl F.elem23 (by first | rfl | exact (Int.toNat_of_nonneg (by omega)).symm) (by first | omega | (simp; done) | (simp; omega)) (by first | exact ⟨_, _, rfl⟩ | assumption | exact SlM.plain (by assumption) (by first | (simp; done) | (simp; omega)) | exact RdS.plain (by assumption) (by first | (simp; done) | (simp; omega)) | exact OSl.plain (by assumption) (by first | (simp; done) | (simp; omega))) rfl ?_
                              first | refine X_fieldAddr rfl rfl rfl F.foff38_1 rfl ?_ | refine X_fieldAddr_el rfl rfl rfl (by first | exact ⟨_, _, rfl⟩ | assumption | exact SlM.plain (by assumption) (by first | (simp; done) | (simp; omega)) | exact RdS.plain (by assumption) (by first | (simp; done) | (simp; omega)) | exact OSl.plain (by assumption) (by first | (simp; done) | (simp; omega))) F.foff38_1 rfl ?_
                              first | refine X_load rfl rfl rfl (by repeat first | exact List.Mem.head _ | refine List.Mem.tail _ ?_ | refine List.mem_append_right _ ?_) F.lay32 rfl rfl rfl ?_ | refine X_load_el rfl rfl rfl (by first | assumption | exact SlM.mono (by assumption) (by assumption)) (by first | exact row_map (by omega) | exact List.getElem?_eq_getElem (by omega) | exact rfl | exact row_map (by first | (simp; done) | (simp; omega))) F.lay32 rfl rfl rfl ?_ | refine X_load_rd rfl rfl rfl (by assumption) (by first | exact row_map (by omega) | exact List.getElem?_eq_getElem (by omega) | exact rfl | exact row_map (by first | (simp; done) | (simp; omega))) F.lay32 rfl rfl rfl ?_ | refine X_load_mem rfl rfl rfl (by first | assumption | exact Mem.get_of (by assumption) (by repeat first | assumption | refine Mem.le.trans (by assumption) ?_)) F.lay32 rfl rfl rfl ?_ | refine X_load_osl rfl rfl rfl (by assumption) (by repeat first | exact Rem.here _ | exact Rem.two | apply Rem.skip | apply Rem.over) (by first | exact row_map (by omega) | exact List.getElem?_eq_getElem (by omega) | exact rfl | exact row_map (by first | (simp; done) | (simp; omega))) F.lay32 rfl rfl rfl ?_
                              first | refine X_fieldAddr rfl rfl rfl F.foff38_1 rfl ?_ | refine X_fieldAddr_el rfl rfl rfl (by first | exact ⟨_, _, rfl⟩ | assumption | exact SlM.plain (by assumption) (by first | (simp; done) | (simp; omega)) | exact RdS.plain (by assumption) (by first | (simp; done) | (simp; omega)) | exact OSl.plain (by assumption) (by first | (simp; done) | (simp; omega))) F.foff38_1 rfl ?_
                              first | refine X_load rfl rfl rfl (by repeat first | exact List.Mem.head _ | refine List.Mem.tail _ ?_ | refine List.mem_append_right _ ?_) F.lay32 rfl rfl rfl ?_ | refine X_load_el rfl rfl rfl (by first | assumption | exact SlM.mono (by assumption) (by assumption)) (by first | exact row_map (by omega) | exact List.getElem?_eq_getElem (by omega) | exact rfl | exact row_map (by first | (simp; done) | (simp; omega))) F.lay32 rfl rfl rfl ?_ | refine X_load_rd rfl rfl rfl (by assumption) (by first | exact row_map (by omega) | exact List.getElem?_eq_getElem (by omega) | exact rfl | exact row_map (by first | (simp; done) | (simp; omega))) F.lay32 rfl rfl rfl ?_ | refine X_load_mem rfl rfl rfl (by first | assumption | exact Mem.get_of (by assumption) (by repeat first | assumption | refine Mem.le.trans (by assumption) ?_)) F.lay32 rfl rfl rfl ?_ | refine X_load_osl rfl rfl rfl (by assumption) (by repeat first | exact Rem.here _ | exact Rem.two | apply Rem.skip | apply Rem.over) (by first | exact row_map (by omega) | exact List.getElem?_eq_getElem (by omega) | exact rfl | exact row_map (by first | (simp; done) | (simp; omega))) F.lay32 rfl rfl rfl ?_
                              refine X_fs rfl rfl F.ok27 rfl (Less_ok _ _ _) rfl ?_
                              rintro _ rfl
                              refine X_not rfl rfl rfl rfl ?_
                              refine X_pick rfl rfl rfl rfl rfl ?_
                              refine X_pick rfl rfl rfl rfl rfl ?_
                              refine XD_end ?_
                              refine K_then ?_
                              refine C_cond rfl (fun hc9 => ?_) (fun hc9 => ?_)
                              · first | replace hc9 := dT hc9 | replace hc9 := dF hc9 | replace hc9 := nT hc9 | replace hc9 := nF hc9 | skip
                                try simp only [PeerV.eta] at hc9
                                first
                                | (exfalso; omega)
                                | (exfalso; simp [eqX] at hc9; done)
                                | contradiction
                                | skip
                                  refine C_seq ?_
                                  refine C_region (l := [0]) rfl ?_
                                  refine X_assign rfl rfl rfl rfl ?_
                                  refine XD_end ?_
                                  refine K_then ?_
                                  refine C_ret ?_
                                  refine K_ret ?_
                                  refine K_retB ?_
                                  refine K_ret ?_
                                  refine K_ret ?_
                                  refine K_retB ?_
                                  refine K_ret ?_
                                  refine K_end (.inr rfl) (.tmp rfl .nil) (fun w hw => ?_)
                                  refine ⟨_, rfl, (hw.cnt (by intro zz; first | exact Nat.le_refl _ | (simp only [cnt_app, cnt_cons, cnt_nil, cat, List.append_eq, List.append_assoc, List.cons_append, List.nil_append, List.append_nil]; omega) | (simp only [cnt_app, cnt_cons, cnt_nil, cat, List.append_eq, List.append_assoc, List.cons_append, List.nil_append, List.append_nil, PeerV.segs]; omega))), ?_⟩
                                  clear hw
                                  refine congrArg Value.bool ?_
                                  first | (have hd := circ_take (l := l_l) (k := k) (by omega); have hp := circ_pre (l := l_l); grind [IsCircle]) | (have hk9 : k = l_l.length := (by omega); subst hk9; grind [IsCircle, List.take_length]) | grind [IsCircle]
                              · first | replace hc9 := dT hc9 | replace hc9 := dF hc9 | replace hc9 := nT hc9 | replace hc9 := nF hc9 | skip
                                try simp only [PeerV.eta] at hc9
                                first
                                | (exfalso; omega)
                                | (exfalso; simp [eqX] at hc9; done)
                                | contradiction
                                | skip
                                  refine C_skip ?_
                                  refine K_then ?_
                                  refine C_region (l := [0, 1, 2, 3, 4, 5]) rfl ?_
                                  refine X_move rfl rfl rfl rfl ?_
                                  first | refine X_fieldAddr rfl rfl rfl F.foff38_0 rfl ?_ | refine X_fieldAddr_el rfl rfl rfl (by first | exact ⟨_, _, rfl⟩ | assumption | exact SlM.plain (by assumption) (by first | (simp; done) | (simp; omega)) | exact RdS.plain (by assumption) (by first | (simp; done) | (simp; omega)) | exact OSl.plain (by assumption) (by first | (simp; done) | (simp; omega))) F.foff38_0 rfl ?_
                                  first | refine X_load rfl rfl rfl (by repeat first | exact List.Mem.head _ | refine List.Mem.tail _ ?_ | refine List.mem_append_right _ ?_) F.lay3 rfl rfl rfl ?_ | refine X_load_el rfl rfl rfl (by first | assumption | exact SlM.mono (by assumption) (by assumption)) (by first | exact row_map (by omega) | exact List.getElem?_eq_getElem (by omega) | exact rfl | exact row_map (by first | (simp; done) | (simp; omega))) F.lay3 rfl rfl rfl ?_ | refine X_load_rd rfl rfl rfl (by assumption) (by first | exact row_map (by omega) | exact List.getElem?_eq_getElem (by omega) | exact rfl | exact row_map (by first | (simp; done) | (simp; omega))) F.lay3 rfl rfl rfl ?_ | refine X_load_mem rfl rfl rfl (by first | assumption | exact Mem.get_of (by assumption) (by repeat first | assumption | refine Mem.le.trans (by assumption) ?_)) F.lay3 rfl rfl rfl ?_ | refine X_load_osl rfl rfl rfl (by assumption) (by repeat first | exact Rem.here _ | exact Rem.two | apply Rem.skip | apply Rem.over) (by first | exact row_map (by omega) | exact List.getElem?_eq_getElem (by omega) | exact rfl | exact row_map (by first | (simp; done) | (simp; omega))) F.lay3 rfl rfl rfl ?_ | refine X_load_cell rfl rfl rfl (by repeat first | exact List.Mem.head _ | refine List.Mem.tail _ ?_ | refine List.mem_append_right _ ?_) F.lay3 (by first | exact id_at (by first | omega | decide) | exact arr_at (by first | omega | decide)) rfl ?_
                                  refine X_buildSliceF rfl rfl F.elem22 F.zero3 rfl rfl (.cons rfl (by constructor) .nil) rfl rfl (by simp only [List.map_cons, List.map_nil] <;> rfl) rfl ?_; intro b10 hob11
                                  refine X_append (m := 1000000) rfl rfl rfl rfl rfl F.elem22 F.zero3 (by first | rfl | exact agg_size rfl) rfl (by first | assumption | exact OSl.nil) (by repeat first | exact Rem.here _ | exact Rem.two | apply Rem.skip | apply Rem.over) (Src.own hob11.lens (by first | exact PeerV.flat1 _ | exact PeerV.flat1 ⟨_, _⟩ | (refine rows_one1 ?_; (repeat (first | exact flat_nil | refine flat_id ?_ | (refine flat_one ?_ ?_; rfl))); done) | (refine rows_one1 ?_; exact PeerV.flat _) | (simp [rowsCells, Segs.cells, Seg.cells, Value.oneCell']; done)) rfl (by repeat first | exact List.Mem.head _ | refine List.Mem.tail _ ?_ | refine List.mem_append_right _ ?_)) (by first | omega | (simp; done) | (simp; omega)) (by decide) rfl ?_; intro v14 hs13 ho12; obtain ⟨adv14, cpv14, rfl⟩ := ho12.val
                                  refine X_assign rfl rfl rfl rfl ?_
                                  refine XD_end ?_
                                  refine K_out ?_
                                  refine K_then ?_
                                  refine C_region (l := [0, 1]) rfl ?_
                                  refine X_ari rfl rfl rfl rfl rfl (by first | exact wrap_in (by decide) (by omega) | exact wrap_u64_in (by decide) (by omega) | exact wrap_u8_in (by decide) (by omega) | exact wrap_u32_in (by decide) (by omega) | exact wrap_u64 _ | exact wrap_u8 _ | exact wrap_u32 _ | exact rfl) rfl ?_
                                  refine X_move rfl rfl rfl rfl ?_
                                  refine XD_end ?_
                                  refine K_roundO (a' := [(16, _), (3, _)]) (k + 1) (hs13) (.cons (k := 16) rfl (.cons (k := 3) rfl (.cons (k := 15) rfl (.cons (k := 14) rfl (.cons (k := 2) rfl (.cons (k := 0) rfl (.nil))))))) (by first | exact Mem.le.refl _ | assumption | (repeat first | assumption | refine Mem.le.trans (by assumption) ?_)) (fun w hw => by first | exact hw | exact hw.cnt (by intro zz; first | exact Nat.le_refl _ | (simp only [cnt_app, cnt_cons, cnt_nil, cat, List.append_eq, List.append_assoc, List.cons_append, List.nil_append, List.append_nil]; omega) | (simp only [cnt_app, cnt_cons, cnt_nil, cat, List.append_eq, List.append_assoc, List.cons_append, List.nil_append, List.append_nil, PeerV.segs]; omega))) ?_ ?_
                                  · refine ⟨_, rfl, rfl, by omega, ?_, ?_⟩
                                    · have hd := circ_take (l := l_l) (k := k) (by omega); grind
                                    · have e9 : (((l_l.take (k + 1)).map PeerV.addr).map (oneI .i64)) = (((l_l.take k).map PeerV.addr).map (oneI .i64)) ++ [oneI .i64 l_l[k].addr] := by rw [take_map_succ _ (by omega), List.map_append]; rfl
                                      rw [e9]; assumption
                                  · omega
                          · first | replace hc8 := dT hc8 | replace hc8 := dF hc8 | replace hc8 := nT hc8 | replace hc8 := nF hc8 | skip
                            try simp only [PeerV.eta] at hc8
                            first
                            | (exfalso; omega)
                            | (exfalso; simp [eqX] at hc8; done)
                            | contradiction
                            | skip
                              refine X_skip rfl rfl rfl ?_
                              refine X_skip rfl rfl rfl ?_
                              refine X_skip rfl rfl rfl ?_
                              refine X_skip rfl rfl rfl ?_
                              refine X_skip rfl rfl rfl ?_
                              refine X_skip rfl rfl rfl ?_
                              refine X_skip rfl rfl rfl ?_
                              refine X_skip rfl rfl rfl ?_
                              refine X_skip rfl rfl rfl ?_
                              refine X_skip rfl rfl rfl ?_
                              refine X_pick rfl rfl rfl rfl rfl ?_
                              refine X_pick rfl rfl rfl rfl rfl ?_
                              refine XD_end ?_
                              refine K_then ?_
                              refine C_false rfl ?_
                              refine C_skip ?_
                              refine K_then ?_
                              refine C_region (l := [0, 1, 2, 3, 4, 5]) rfl ?_
                              refine X_move rfl rfl rfl rfl ?_
                              first | refine X_fieldAddr rfl rfl rfl F.foff38_0 rfl ?_ | refine X_fieldAddr_el rfl rfl rfl (by first | exact ⟨_, _, rfl⟩ | assumption | exact SlM.plain (by assumption) (by first | (simp; done) | (simp; omega)) | exact RdS.plain (by assumption) (by first | (simp; done) | (simp; omega)) | exact OSl.plain (by assumption) (by first | (simp; done) | (simp; omega))) F.foff38_0 rfl ?_
                              first | refine X_load rfl rfl rfl (by repeat first | exact List.Mem.head _ | refine List.Mem.tail _ ?_ | refine List.mem_append_right _ ?_) F.lay3 rfl rfl rfl ?_ | refine X_load_el rfl rfl rfl (by first | assumption | exact SlM.mono (by assumption) (by assumption)) (by first | exact row_map (by omega) | exact List.getElem?_eq_getElem (by omega) | exact rfl | exact row_map (by first | (simp; done) | (simp; omega))) F.lay3 rfl rfl rfl ?_ | refine X_load_rd rfl rfl rfl (by assumption) (by first | exact row_map (by omega) | exact List.getElem?_eq_getElem (by omega) | exact rfl | exact row_map (by first | (simp; done) | (simp; omega))) F.lay3 rfl rfl rfl ?_ | refine X_load_mem rfl rfl rfl (by first | assumption | exact Mem.get_of (by assumption) (by repeat first | assumption | refine Mem.le.trans (by assumption) ?_)) F.lay3 rfl rfl rfl ?_ | refine X_load_osl rfl rfl rfl (by assumption) (by repeat first | exact Rem.here _ | exact Rem.two | apply Rem.skip | apply Rem.over) (by first | exact row_map (by omega) | exact List.getElem?_eq_getElem (by omega) | exact rfl | exact row_map (by first | (simp; done) | (simp; omega))) F.lay3 rfl rfl rfl ?_ | refine X_load_cell rfl rfl rfl (by repeat first | exact List.Mem.head _ | refine List.Mem.tail _ ?_ | refine List.mem_append_right _ ?_) F.lay3 (by first | exact id_at (by first | omega | decide) | exact arr_at (by first | omega | decide)) rfl ?_
                              refine X_buildSliceF rfl rfl F.elem22 F.zero3 rfl rfl (.cons rfl (by constructor) .nil) rfl rfl (by simp only [List.map_cons, List.map_nil] <;> rfl) rfl ?_; intro b15 hob16
                              refine X_append (m := 1000000) rfl rfl rfl rfl rfl F.elem22 F.zero3 (by first | rfl | exact agg_size rfl) rfl (by first | assumption | exact OSl.nil) (by repeat first | exact Rem.here _ | exact Rem.two | apply Rem.skip | apply Rem.over) (Src.own hob16.lens (by first | exact PeerV.flat1 _ | exact PeerV.flat1 ⟨_, _⟩ | (refine rows_one1 ?_; (repeat (first | exact flat_nil | refine flat_id ?_ | (refine flat_one ?_ ?_; rfl))); done) | (refine rows_one1 ?_; exact PeerV.flat _) | (simp [rowsCells, Segs.cells, Seg.cells, Value.oneCell']; done)) rfl (by repeat first | exact List.Mem.head _ | refine List.Mem.tail _ ?_ | refine List.mem_append_right _ ?_)) (by first | omega | (simp; done) | (simp; omega)) (by decide) rfl ?_; intro v19 hs18 ho17; obtain ⟨adv19, cpv19, rfl⟩ := ho17.val
                              refine X_assign rfl rfl rfl rfl ?_
                              refine XD_end ?_
                              refine K_out ?_
                              refine K_then ?_
                              refine C_region (l := [0, 1]) rfl ?_
                              refine X_ari rfl rfl rfl rfl rfl (by first | exact wrap_in (by decide) (by omega) | exact wrap_u64_in (by decide) (by omega) | exact wrap_u8_in (by decide) (by omega) | exact wrap_u32_in (by decide) (by omega) | exact wrap_u64 _ | exact wrap_u8 _ | exact wrap_u32 _ | exact rfl) rfl ?_
                              refine X_move rfl rfl rfl rfl ?_
                              refine XD_end ?_
                              refine K_roundO (a' := [(16, _), (3, _)]) (k + 1) (hs18) (.cons (k := 16) rfl (.cons (k := 3) rfl (.cons (k := 15) rfl (.cons (k := 14) rfl (.cons (k := 2) rfl (.cons (k := 0) rfl (.nil))))))) (by first | exact Mem.le.refl _ | assumption | (repeat first | assumption | refine Mem.le.trans (by assumption) ?_)) (fun w hw => by first | exact hw | exact hw.cnt (by intro zz; first | exact Nat.le_refl _ | (simp only [cnt_app, cnt_cons, cnt_nil, cat, List.append_eq, List.append_assoc, List.cons_append, List.nil_append, List.append_nil]; omega) | (simp only [cnt_app, cnt_cons, cnt_nil, cat, List.append_eq, List.append_assoc, List.cons_append, List.nil_append, List.append_nil, PeerV.segs]; omega))) ?_ ?_
                              · refine ⟨_, rfl, rfl, by omega, ?_, ?_⟩
                                · have hd := circ_take (l := l_l) (k := k) (by omega); grind
                                · have e9 : (((l_l.take (k + 1)).map PeerV.addr).map (oneI .i64)) = (((l_l.take k).map PeerV.addr).map (oneI .i64)) ++ [oneI .i64 l_l[k].addr] := by rw [take_map_succ _ (by omega), List.map_append]; rfl
                                  rw [e9]; assumption
                              · omega
          · first | replace hc3 := dT hc3 | replace hc3 := dF hc3 | replace hc3 := nT hc3 | replace hc3 := nF hc3 | skip
            try simp only [PeerV.eta] at hc3
            first
            | (exfalso; omega)
            | (exfalso; simp [eqX] at hc3; done)
            | contradiction
            | skip
              refine C_exit ?_
              refine K_exit ?_
              refine K_exit ?_
              refine K_hit ?_
              refine K_then ?_
              refine C_pick (.cons (k := 2) rfl .nil) ?_
              refine C_seq ?_
              refine C_region (l := [0]) rfl ?_
              refine X_assign rfl rfl rfl rfl ?_
              refine XD_end ?_
              refine K_then ?_
              refine C_ret ?_
              refine K_end (.inr rfl) (.tmp rfl .nil) (fun w hw => ?_)
              refine ⟨_, rfl, (hw.cnt (by intro zz; first | exact Nat.le_refl _ | (simp only [cnt_app, cnt_cons, cnt_nil, cat, List.append_eq, List.append_assoc, List.cons_append, List.nil_append, List.append_nil]; omega) | (simp only [cnt_app, cnt_cons, cnt_nil, cat, List.append_eq, List.append_assoc, List.cons_append, List.nil_append, List.append_nil, PeerV.segs]; omega))), ?_⟩
              clear hw
              refine congrArg Value.bool ?_
              first | (have hd := circ_take (l := l_l) (k := k) (by omega); have hp := circ_pre (l := l_l); grind [IsCircle]) | (have hk9 : k = l_l.length := (by omega); subst hk9; grind [IsCircle, List.take_length]) | grind [IsCircle]

theorem rCirc_ok (M : Mem) (l : (Sl PeerV)) (hl0 : SlK M PeerV.segs 21 l) : Fs Tryd.prog 13 [Sl.val l] M (fun v => v = Value.bool (decide (IsCircle l.l))) := by
  obtain ⟨l_a, l_c, l_l⟩ := l
  have k_l : SlK M PeerV.segs 21 ⟨l_a, l_c, l_l⟩ := hl0
  have s_l : SlM M l_a (l_l.map PeerV.segs) 21 := k_l.h1
  have n_l : (l_l.map PeerV.segs).length = l_l.length := List.length_map ..
  have m_l : l_l.length ≤ 9223372036854775807 := k_l.h2
  have c_l : l_l.length ≤ l_c := k_l.h3
  refine fs_enter Tryd.func13 rfl Tryd.ntmps13 rfl ?_; intro H
  refine C_seq ?_
  refine C_region (l := [0]) rfl ?_
  refine X_assign rfl rfl rfl rfl ?_
  refine XD_end ?_
  refine K_then ?_
  refine C_seq ?_
  refine C_seq ?_
  refine C_region (l := [0, 1, 2, 3, 4, 5, 6, 7]) rfl ?_
  refine X_move rfl rfl rfl rfl ?_
  refine X_len_sl rfl rfl rfl rfl F.elem23 rfl ?_
  refine X_cmp rfl rfl rfl rfl rfl rfl ?_
  refine X_move rfl rfl rfl rfl ?_
  refine XD_part 8 rfl (fun hc1 => ?_) (fun hc1 => ?_)
  · first | replace hc1 := dT hc1 | replace hc1 := dF hc1 | replace hc1 := nT hc1 | replace hc1 := nF hc1 | skip
    try simp only [PeerV.eta] at hc1
    first
    | (exfalso; omega)
    | (exfalso; simp [eqX] at hc1; done)
    | contradiction
    | skip
      refine X_skip rfl rfl rfl ?_
      refine X_skip rfl rfl rfl ?_
      refine X_skip rfl rfl rfl ?_
      refine X_pick rfl rfl rfl rfl rfl ?_
      refine XD_end ?_
      refine K_then ?_
      refine C_pick (.cons (k := 12) rfl (.cons (k := 2) rfl (.cons (k := 0) rfl .nil))) ?_
      refine C_true rfl ?_
      refine C_seq ?_
      refine C_region (l := [0]) rfl ?_
      refine X_assign rfl rfl rfl rfl ?_
      refine XD_end ?_
      refine K_then ?_
      refine C_pick (.cons (k := 2) rfl (.cons (k := 0) rfl .nil)) ?_
      refine C_ret ?_
      refine K_ret ?_
      refine K_end (.inr rfl) (.tmp rfl .nil) (fun w hw => ?_)
      refine ⟨_, rfl, (hw.cnt (by intro zz; first | exact Nat.le_refl _ | (simp only [cnt_app, cnt_cons, cnt_nil, cat, List.append_eq, List.append_assoc, List.cons_append, List.nil_append, List.append_nil]; omega) | (simp only [cnt_app, cnt_cons, cnt_nil, cat, List.append_eq, List.append_assoc, List.cons_append, List.nil_append, List.append_nil, PeerV.segs]; omega))), ?_⟩
      clear hw
      refine congrArg Value.bool ?_
      first | (have hd := circ_take (l := l_l) (k := k) (by omega); have hp := circ_pre (l := l_l); grind [IsCircle, mem_map_take]) | (have hk9 : k = l_l.length := (by omega); subst hk9; grind [IsCircle, List.take_length]) | grind [IsCircle]
  · first | replace hc1 := dT hc1 | replace hc1 := dF hc1 | replace hc1 := nT hc1 | replace hc1 := nF hc1 | skip
    try simp only [PeerV.eta] at hc1
    first
    | (exfalso; omega)
    | (exfalso; simp [eqX] at hc1; done)
    | contradiction
    | skip
      refine X_move rfl rfl rfl rfl ?_
      refine X_len_sl rfl rfl rfl rfl F.elem23 rfl ?_
      refine X_cmp rfl rfl rfl rfl rfl rfl ?_
      refine X_pick rfl rfl rfl rfl rfl ?_
      refine XD_end ?_
      refine K_then ?_
      refine C_pick (.cons (k := 12) rfl (.cons (k := 2) rfl (.cons (k := 0) rfl .nil))) ?_
      refine C_cond rfl (fun hc2 => ?_) (fun hc2 => ?_)
      · first | replace hc2 := dT hc2 | replace hc2 := dF hc2 | replace hc2 := nT hc2 | replace hc2 := nF hc2 | skip
        try simp only [PeerV.eta] at hc2
        first
        | (exfalso; omega)
        | (exfalso; simp [eqX] at hc2; done)
        | contradiction
        | skip
          refine C_seq ?_
          refine C_region (l := [0]) rfl ?_
          refine X_assign rfl rfl rfl rfl ?_
          refine XD_end ?_
          refine K_then ?_
          refine C_pick (.cons (k := 2) rfl (.cons (k := 0) rfl .nil)) ?_
          refine C_ret ?_
          refine K_ret ?_
          refine K_end (.inr rfl) (.tmp rfl .nil) (fun w hw => ?_)
          refine ⟨_, rfl, (hw.cnt (by intro zz; first | exact Nat.le_refl _ | (simp only [cnt_app, cnt_cons, cnt_nil, cat, List.append_eq, List.append_assoc, List.cons_append, List.nil_append, List.append_nil]; omega) | (simp only [cnt_app, cnt_cons, cnt_nil, cat, List.append_eq, List.append_assoc, List.cons_append, List.nil_append, List.append_nil, PeerV.segs]; omega))), ?_⟩
          clear hw
          refine congrArg Value.bool ?_
          first | (have hd := circ_take (l := l_l) (k := k) (by omega); have hp := circ_pre (l := l_l); grind [IsCircle, mem_map_take]) | (have hk9 : k = l_l.length := (by omega); subst hk9; grind [IsCircle, List.take_length]) | grind [IsCircle]
      · first | replace hc2 := dT hc2 | replace hc2 := dF hc2 | replace hc2 := nT hc2 | replace hc2 := nF hc2 | skip
        try simp only [PeerV.eta] at hc2
        first
        | (exfalso; omega)
        | (exfalso; simp [eqX] at hc2; done)
        | contradiction
        | skip
          refine C_skip ?_
          refine K_then ?_
          refine C_pick (.cons (k := 2) rfl (.cons (k := 0) rfl .nil)) ?_
          refine C_seq ?_
          refine C_seq ?_
          refine C_region (l := [0]) rfl ?_
          refine X_assign rfl rfl rfl rfl ?_
          refine XD_end ?_
          refine K_then ?_
          refine C_block ?_
          refine C_pick (.cons (k := 3) rfl (.cons (k := 2) rfl (.cons (k := 0) rfl .nil))) ?_
          refine C_loopS (.succ .zero) (fun (k : Nat) z => z = [(3, .int .i64 (k : Int))] ∧ k ≤ l_l.length ∧ ((1 ≤ l_l.length ∧ l_l.length ≤ 16) ∧ CircOk (l_l.take k))) (fun k => l_l.length - k) (0) (⟨rfl, by omega, by (refine ⟨by omega, ?_⟩; simp [CircOk])⟩) ?_
          rintro k _ ⟨rfl, hk, hI⟩
          have hlk : (l_l.take k).length = k := by rw [List.length_take]; omega
          refine C_seq ?_
          refine C_seq ?_
          refine C_region (l := [0, 1, 2, 3]) rfl ?_
          refine X_move rfl rfl rfl rfl ?_
          refine X_move rfl rfl rfl rfl ?_
          refine X_len_sl rfl rfl rfl rfl F.elem23 rfl ?_
          refine X_cmp rfl rfl rfl rfl rfl rfl ?_
          refine XD_end ?_
          refine K_then ?_
          refine C_cond rfl (fun hc3 => ?_) (fun hc3 => ?_)
          · first | replace hc3 := dT hc3 | replace hc3 := dF hc3 | replace hc3 := nT hc3 | replace hc3 := nF hc3 | skip
            try simp only [PeerV.eta] at hc3
            first
            | (exfalso; omega)
            | (exfalso; simp [eqX] at hc3; done)
            | contradiction
            | skip
              refine C_skip ?_
              refine K_then ?_
              refine C_seq ?_
              refine C_block ?_
              refine C_seq ?_
              refine C_seq ?_
              refine C_region_any (l := [0, 1, 2, 3, 4, 5, 6, 7, 8, 9, 10, 11, 12, 13, 14, 15, 16, 17, 18, 19, 20, 21, 22, 23, 24, 25, 26, 27, 28, 29, 30, 31, 32]) #[0, 0, 3, 7, 15, 31, 63, 127, 127, 511, 1023, 2047, 4095, 8191, 16383, 32767, 65535, 131071, 262143, 262143, 786431, 2097151, 4194303, 8388607, 262143, 262143, 50593791, 117702655, 251920383, 536870911, 1073741823, 2147483647, 4294967295] _ rfl (by kernel_rfl) (by kernel_rfl) St.drawn (fun _ h => h) ?_
              refine X_move rfl rfl rfl rfl ?_
              refine X_move rfl rfl rfl rfl ?_
              refine X_indexAddr rfl rfl rfl rfl F.elem23 (by first | rfl | exact (Int.toNat_of_nonneg (by omega)).symm) (by first | omega | (simp; done) | (simp; omega)) (by first | exact ⟨_, _, rfl⟩ | assumption | exact SlM.plain (by assumption) (by first | (simp; done) | (simp; omega)) | exact RdS.plain (by assumption) (by first | (simp; done) | (simp; omega)) | exact OSl.plain (by assumption) (by first | (simp; done) | (simp; omega))) rfl ?_
              first | refine X_fieldAddr rfl rfl rfl F.foff38_0 rfl ?_ | refine X_fieldAddr_el rfl rfl rfl (by first | exact ⟨_, _, rfl⟩ | assumption | exact SlM.plain (by assumption) (by first | (simp; done) | (simp; omega)) | exact RdS.plain (by assumption) (by first | (simp; done) | (simp; omega)) | exact OSl.plain (by assumption) (by first | (simp; done) | (simp; omega))) F.foff38_0 rfl ?_
              first | refine X_load rfl rfl rfl (by repeat first | exact List.Mem.head _ | refine List.Mem.tail _ ?_ | refine List.mem_append_right _ ?_) F.lay3 rfl rfl rfl ?_ | refine X_load_el rfl rfl rfl (by first | assumption | exact SlM.mono (by assumption) (by assumption)) (by first | exact row_map (by omega) | exact List.getElem?_eq_getElem (by omega) | exact rfl | exact row_map (by first | (simp; done) | (simp; omega))) F.lay3 rfl rfl rfl ?_ | refine X_load_rd rfl rfl rfl (by assumption) (by first | exact row_map (by omega) | exact List.getElem?_eq_getElem (by omega) | exact rfl | exact row_map (by first | (simp; done) | (simp; omega))) F.lay3 rfl rfl rfl ?_ | refine X_load_mem rfl rfl rfl (by first | assumption | exact Mem.get_of (by assumption) (by repeat first | assumption | refine Mem.le.trans (by assumption) ?_)) F.lay3 rfl rfl rfl ?_ | refine X_load_osl rfl rfl rfl (by assumption) (by repeat first | exact Rem.here _ | exact Rem.two | apply Rem.skip | apply Rem.over) (by first | exact row_map (by omega) | exact List.getElem?_eq_getElem (by omega) | exact rfl | exact row_map (by first | (simp; done) | (simp; omega))) F.lay3 rfl rfl rfl ?_ | refine X_load_cell rfl rfl rfl (by repeat first | exact List.Mem.head _ | refine List.Mem.tail _ ?_ | refine List.mem_append_right _ ?_) F.lay3 (by first | exact id_at (by first | omega | decide) | exact arr_at (by first | omega | decide)) rfl ?_
              refine X_cmp rfl rfl rfl rfl rfl rfl ?_
              refine X_move rfl rfl rfl rfl ?_
              refine XD_part 25 rfl (fun hc4 => ?_) (fun hc4 => ?_)
              · first | replace hc4 := dT hc4 | replace hc4 := dF hc4 | replace hc4 := nT hc4 | replace hc4 := nF hc4 | skip
                try simp only [PeerV.eta] at hc4
                first
                | (exfalso; omega)
                | (exfalso; simp [eqX] at hc4; done)
                | contradiction
                | skip
                  refine X_skip rfl rfl rfl ?_
                  refine X_skip rfl rfl rfl ?_
                  refine X_skip rfl rfl rfl ?_
                  refine X_skip rfl rfl rfl ?_
                  refine X_skip rfl rfl rfl ?_
                  refine X_skip rfl rfl rfl ?_
                  refine X_pick rfl rfl rfl rfl rfl ?_
                  refine X_move rfl rfl rfl rfl ?_
                  refine X_skip rfl rfl rfl ?_
                  refine X_skip rfl rfl rfl ?_
                  refine X_skip rfl rfl rfl ?_
                  refine X_skip rfl rfl rfl ?_
                  refine X_skip rfl rfl rfl ?_
                  refine X_skip rfl rfl rfl ?_
                  refine X_skip rfl rfl rfl ?_
                  refine X_skip rfl rfl rfl ?_
                  refine X_skip rfl rfl rfl ?_
                  refine X_skip rfl rfl rfl ?_
                  refine X_skip rfl rfl rfl ?_
                  refine X_skip rfl rfl rfl ?_
                  refine X_skip rfl rfl rfl ?_
                  refine X_skip rfl rfl rfl ?_
                  refine X_skip rfl rfl rfl ?_
                  refine X_skip rfl rfl rfl ?_
                  refine X_skip rfl rfl rfl ?_
                  refine X_pick rfl rfl rfl rfl rfl ?_
                  refine XD_end ?_
                  refine K_then ?_
                  refine C_true rfl ?_
                  refine C_seq ?_
                  refine C_region (l := [0]) rfl ?_
                  refine X_assign rfl rfl rfl rfl ?_
                  refine XD_end ?_
                  refine K_then ?_
                  refine C_ret ?_
                  refine K_ret ?_
                  refine K_retB ?_
                  refine K_ret ?_
                  refine K_ret ?_
                  refine K_retB ?_
                  refine K_ret ?_
                  refine K_end (.inr rfl) (.tmp rfl .nil) (fun w hw => ?_)
                  refine ⟨_, rfl, (hw.cnt (by intro zz; first | exact Nat.le_refl _ | (simp only [cnt_app, cnt_cons, cnt_nil, cat, List.append_eq, List.append_assoc, List.cons_append, List.nil_append, List.append_nil]; omega) | (simp only [cnt_app, cnt_cons, cnt_nil, cat, List.append_eq, List.append_assoc, List.cons_append, List.nil_append, List.append_nil, PeerV.segs]; omega))), ?_⟩
                  clear hw
                  refine congrArg Value.bool ?_
                  first | (have hd := circ_take (l := l_l) (k := k) (by omega); have hp := circ_pre (l := l_l); grind [IsCircle, mem_map_take]) | (have hk9 : k = l_l.length := (by omega); subst hk9; grind [IsCircle, List.take_length]) | grind [IsCircle]
              · first | replace hc4 := dT hc4 | replace hc4 := dF hc4 | replace hc4 := nT hc4 | replace hc4 := nF hc4 | skip
                try simp only [PeerV.eta] at hc4
                first
                | (exfalso; omega)
                | (exfalso; simp [eqX] at hc4; done)
                | contradiction
                | skip
                  refine X_move rfl rfl rfl rfl ?_
                  refine X_move rfl rfl rfl rfl ?_
                  refine X_indexAddr rfl rfl rfl rfl F.elem23 (by first | rfl | exact (Int.toNat_of_nonneg (by omega)).symm) (by first | omega | (simp; done) | (simp; omega)) (by first | exact ⟨_, _, rfl⟩ | assumption | exact SlM.plain (by assumption) (by first | (simp; done) | (simp; omega)) | exact RdS.plain (by assumption) (by first | (simp; done) | (simp; omega)) | exact OSl.plain (by assumption) (by first | (simp; done) | (simp; omega))) rfl ?_
                  first | refine X_fieldAddr rfl rfl rfl F.foff38_0 rfl ?_ | refine X_fieldAddr_el rfl rfl rfl (by first | exact ⟨_, _, rfl⟩ | assumption | exact SlM.plain (by assumption) (by first | (simp; done) | (simp; omega)) | exact RdS.plain (by assumption) (by first | (simp; done) | (simp; omega)) | exact OSl.plain (by assumption) (by first | (simp; done) | (simp; omega))) F.foff38_0 rfl ?_
                  first | refine X_load rfl rfl rfl (by repeat first | exact List.Mem.head _ | refine List.Mem.tail _ ?_ | refine List.mem_append_right _ ?_) F.lay3 rfl rfl rfl ?_ | refine X_load_el rfl rfl rfl (by first | assumption | exact SlM.mono (by assumption) (by assumption)) (by first | exact row_map (by omega) | exact List.getElem?_eq_getElem (by omega) | exact rfl | exact row_map (by first | (simp; done) | (simp; omega))) F.lay3 rfl rfl rfl ?_ | refine X_load_rd rfl rfl rfl (by assumption) (by first | exact row_map (by omega) | exact List.getElem?_eq_getElem (by omega) | exact rfl | exact row_map (by first | (simp; done) | (simp; omega))) F.lay3 rfl rfl rfl ?_ | refine X_load_mem rfl rfl rfl (by first | assumption | exact Mem.get_of (by assumption) (by repeat first | assumption | refine Mem.le.trans (by assumption) ?_)) F.lay3 rfl rfl rfl ?_ | refine X_load_osl rfl rfl rfl (by assumption) (by repeat first | exact Rem.here _ | exact Rem.two | apply Rem.skip | apply Rem.over) (by first | exact row_map (by omega) | exact List.getElem?_eq_getElem (by omega) | exact rfl | exact row_map (by first | (simp; done) | (simp; omega))) F.lay3 rfl rfl rfl ?_ | refine X_load_cell rfl rfl rfl (by repeat first | exact List.Mem.head _ | refine List.Mem.tail _ ?_ | refine List.mem_append_right _ ?_) F.lay3 (by first | exact id_at (by first | omega | decide) | exact arr_at (by first | omega | decide)) rfl ?_
                  refine X_cmp rfl rfl rfl rfl rfl rfl ?_
                  refine X_pick rfl rfl rfl rfl rfl ?_
                  refine X_move rfl rfl rfl rfl ?_
                  refine XD_part 33 rfl (fun hc5 => ?_) (fun hc5 => ?_)
                  · first | replace hc5 := dT hc5 | replace hc5 := dF hc5 | replace hc5 := nT hc5 | replace hc5 := nF hc5 | skip
                    try simp only [PeerV.eta] at hc5
                    first
                    | (exfalso; omega)
                    | (exfalso; simp [eqX] at hc5; done)
                    | contradiction
                    | skip
                      refine X_skip rfl rfl rfl ?_
                      refine X_skip rfl rfl rfl ?_
                      refine X_skip rfl rfl rfl ?_
                      refine X_skip rfl rfl rfl ?_
                      refine X_skip rfl rfl rfl ?_
                      refine X_skip rfl rfl rfl ?_
                      refine X_skip rfl rfl rfl ?_
                      refine X_skip rfl rfl rfl ?_
                      refine X_skip rfl rfl rfl ?_
                      refine X_skip rfl rfl rfl ?_
                      refine X_skip rfl rfl rfl ?_
                      refine X_skip rfl rfl rfl ?_
                      refine X_skip rfl rfl rfl ?_
                      refine X_skip rfl rfl rfl ?_
                      refine X_skip rfl rfl rfl ?_
                      refine X_skip rfl rfl rfl ?_
                      refine X_skip rfl rfl rfl ?_
                      refine X_pick rfl rfl rfl rfl rfl ?_
                      refine XD_end ?_
                      refine K_then ?_
                      refine C_true rfl ?_
                      refine C_seq ?_
                      refine C_region (l := [0]) rfl ?_
                      refine X_assign rfl rfl rfl rfl ?_
                      refine XD_end ?_
                      refine K_then ?_
                      refine C_ret ?_
                      refine K_ret ?_
                      refine K_retB ?_
                      refine K_ret ?_
                      refine K_ret ?_
                      refine K_retB ?_
                      refine K_ret ?_
                      refine K_end (.inr rfl) (.tmp rfl .nil) (fun w hw => ?_)
                      refine ⟨_, rfl, (hw.cnt (by intro zz; first | exact Nat.le_refl _ | (simp only [cnt_app, cnt_cons, cnt_nil, cat, List.append_eq, List.append_assoc, List.cons_append, List.nil_append, List.append_nil]; omega) | (simp only [cnt_app, cnt_cons, cnt_nil, cat, List.append_eq, List.append_assoc, List.cons_append, List.nil_append, List.append_nil, PeerV.segs]; omega))), ?_⟩
                      clear hw
                      refine congrArg Value.bool ?_
                      first | (have hd := circ_take (l := l_l) (k := k) (by omega); have hp := circ_pre (l := l_l); grind [IsCircle, mem_map_take]) | (have hk9 : k = l_l.length := (by omega); subst hk9; grind [IsCircle, List.take_length]) | grind [IsCircle]
                  · first | replace hc5 := dT hc5 | replace hc5 := dF hc5 | replace hc5 := nT hc5 | replace hc5 := nF hc5 | skip
                    try simp only [PeerV.eta] at hc5
                    first
                    | (exfalso; omega)
                    | (exfalso; simp [eqX] at hc5; done)
                    | contradiction
                    | skip
                      refine X_move rfl rfl rfl rfl ?_
                      refine X_cmp rfl rfl rfl rfl rfl rfl ?_
                      refine X_move rfl rfl rfl rfl ?_
                      refine XD_part 36 rfl (fun hc6 => ?_) (fun hc6 => ?_)
                      · first | replace hc6 := dT hc6 | replace hc6 := dF hc6 | replace hc6 := nT hc6 | replace hc6 := nF hc6 | skip
                        try simp only [PeerV.eta] at hc6
                        first
                        | (exfalso; omega)
                        | (exfalso; simp [eqX] at hc6; done)
                        | contradiction
                        | skip
                          refine X_move rfl rfl rfl rfl ?_
                          refine X_move rfl rfl rfl rfl ?_
                          refine X_ari rfl rfl rfl rfl rfl (by first | exact wrap_in (by decide) (by omega) | exact wrap_u64_in (by decide) (by omega) | exact wrap_u8_in (by decide) (by omega) | exact wrap_u32_in (by decide) (by omega) | exact wrap_u64 _ | exact wrap_u8 _ | exact wrap_u32 _ | exact rfl) rfl ?_
                          refine X_indexAddr rfl rfl rfl rfl F.elem23 (by first | rfl | exact (Int.toNat_of_nonneg (by omega)).symm) (by first | omega | (simp; done) | (simp; omega)) (by first | exact ⟨_, _, rfl⟩ | assumption | exact SlM.plain (by assumption) (by first | (simp; done) | (simp; omega)) | exact RdS.plain (by assumption) (by first | (simp; done) | (simp; omega)) | exact OSl.plain (by assumption) (by first | (simp; done) | (simp; omega))) rfl ?_
                          first | refine X_fieldAddr rfl rfl rfl F.foff38_1 rfl ?_ | refine X_fieldAddr_el rfl rfl rfl (by first | exact ⟨_, _, rfl⟩ | assumption | exact SlM.plain (by assumption) (by first | (simp; done) | (simp; omega)) | exact RdS.plain (by assumption) (by first | (simp; done) | (simp; omega)) | exact OSl.plain (by assumption) (by first | (simp; done) | (simp; omega))) F.foff38_1 rfl ?_
                          first | refine X_load rfl rfl rfl (by repeat first | exact List.Mem.head _ | refine List.Mem.tail _ ?_ | refine List.mem_append_right _ ?_) F.lay32 rfl rfl rfl ?_ | refine X_load_el rfl rfl rfl (by first | assumption | exact SlM.mono (by assumption) (by assumption)) (by first | exact row_map (by omega) | exact List.getElem?_eq_getElem (by omega) | exact rfl | exact row_map (by first | (simp; done) | (simp; omega))) F.lay32 rfl rfl rfl ?_ | refine X_load_rd rfl rfl rfl (by assumption) (by first | exact row_map (by omega) | exact List.getElem?_eq_getElem (by omega) | exact rfl | exact row_map (by first | (simp; done) | (simp; omega))) F.lay32 rfl rfl rfl ?_ | refine X_load_mem rfl rfl rfl (by first | assumption | exact Mem.get_of (by assumption) (by repeat first | assumption | refine Mem.le.trans (by assumption) ?_)) F.lay32 rfl rfl rfl ?_ | refine X_load_osl rfl rfl rfl (by assumption) (by repeat first | exact Rem.here _ | exact Rem.two | apply Rem.skip | apply Rem.over) (by first | exact row_map (by omega) | exact List.getElem?_eq_getElem (by omega) | exact rfl | exact row_map (by first | (simp; done) | (simp; omega))) F.lay32 rfl rfl rfl ?_
                          refine X_move rfl rfl rfl rfl ?_
                          refine X_move rfl rfl rfl rfl ?_
                          refine X_indexAddr rfl rfl rfl rfl F.elem23 (by first | rfl | exact (Int.toNat_of_nonneg (by omega)).symm) (by first | omega | (simp; done) | (simp; omega)) (by first | exact ⟨_, _, rfl⟩ | assumption | exact SlM.plain (by assumption) (by first | (simp; done) | (simp; omega)) | exact RdS.plain (by assumption) (by first | (simp; done) | (simp; omega)) | exact OSl.plain (by assumption) (by first | (simp; done) | (simp; omega))) rfl ?_
                          first | refine X_fieldAddr rfl rfl rfl F.foff38_1 rfl ?_ | refine X_fieldAddr_el rfl rfl rfl (by first | exact ⟨_, _, rfl⟩ | assumption | exact SlM.plain (by assumption) (by first | (simp; done) | (simp; omega)) | exact RdS.plain (by assumption) (by first | (simp; done) | (simp; omega)) | exact OSl.plain (by assumption) (by first | (simp; done) | (simp; omega))) F.foff38_1 rfl ?_
                          first | refine X_load rfl rfl rfl (by repeat first | exact List.Mem.head _ | refine List.Mem.tail _ ?_ | refine List.mem_append_right _ ?_) F.lay32 rfl rfl rfl ?_ | refine X_load_el rfl rfl rfl (by first | assumption | exact SlM.mono (by assumption) (by assumption)) (by first | exact row_map (by omega) | exact List.getElem?_eq_getElem (by omega) | exact rfl | exact row_map (by first | (simp; done) | (simp; omega))) F.lay32 rfl rfl rfl ?_ | refine X_load_rd rfl rfl rfl (by assumption) (by first | exact row_map (by omega) | exact List.getElem?_eq_getElem (by omega) | exact rfl | exact row_map (by first | (simp; done) | (simp; omega))) F.lay32 rfl rfl rfl ?_ | refine X_load_mem rfl rfl rfl (by first | assumption | exact Mem.get_of (by assumption) (by repeat first | assumption | refine Mem.le.trans (by assumption) ?_)) F.lay32 rfl rfl rfl ?_ | refine X_load_osl rfl rfl rfl (by assumption) (by repeat first | exact Rem.here _ | exact Rem.two | apply Rem.skip | apply Rem.over) (by first | exact row_map (by omega) | exact List.getElem?_eq_getElem (by omega) | exact rfl | exact row_map (by first | (simp; done) | (simp; omega))) F.lay32 rfl rfl rfl ?_
                          refine X_fs rfl rfl F.ok35 rfl (rLess_ok _ _ _) rfl ?_
                          rintro _ rfl
                          refine X_not rfl rfl rfl rfl ?_
                          refine X_pick rfl rfl rfl rfl rfl ?_
                          refine X_pick rfl rfl rfl rfl rfl ?_
                          refine XD_end ?_
                          refine K_then ?_
                          refine C_cond rfl (fun hc7 => ?_) (fun hc7 => ?_)
                          · first | replace hc7 := dT hc7 | replace hc7 := dF hc7 | replace hc7 := nT hc7 | replace hc7 := nF hc7 | skip
                            try simp only [PeerV.eta] at hc7
                            first
                            | (exfalso; omega)
                            | (exfalso; simp [eqX] at hc7; done)
                            | contradiction
                            | skip
                              refine C_seq ?_
                              refine C_region (l := [0]) rfl ?_
                              refine X_assign rfl rfl rfl rfl ?_
                              refine XD_end ?_
                              refine K_then ?_
                              refine C_ret ?_
                              refine K_ret ?_
                              refine K_retB ?_
                              refine K_ret ?_
                              refine K_ret ?_
                              refine K_retB ?_
                              refine K_ret ?_
                              refine K_end (.inr rfl) (.tmp rfl .nil) (fun w hw => ?_)
                              refine ⟨_, rfl, (hw.cnt (by intro zz; first | exact Nat.le_refl _ | (simp only [cnt_app, cnt_cons, cnt_nil, cat, List.append_eq, List.append_assoc, List.cons_append, List.nil_append, List.append_nil]; omega) | (simp only [cnt_app, cnt_cons, cnt_nil, cat, List.append_eq, List.append_assoc, List.cons_append, List.nil_append, List.append_nil, PeerV.segs]; omega))), ?_⟩
                              clear hw
                              refine congrArg Value.bool ?_
                              first | (have hd := circ_take (l := l_l) (k := k) (by omega); have hp := circ_pre (l := l_l); grind [IsCircle, mem_map_take]) | (have hk9 : k = l_l.length := (by omega); subst hk9; grind [IsCircle, List.take_length]) | grind [IsCircle]
                          · first | replace hc7 := dT hc7 | replace hc7 := dF hc7 | replace hc7 := nT hc7 | replace hc7 := nF hc7 | skip
                            try simp only [PeerV.eta] at hc7
                            first
                            | (exfalso; omega)
                            | (exfalso; simp [eqX] at hc7; done)
                            | contradiction
                            | skip
                              refine C_skip ?_
                              refine K_then ?_
                              refine C_seq ?_
                              refine C_region (l := [0]) rfl ?_
                              refine X_assign rfl rfl rfl rfl ?_
                              refine XD_end ?_
                              refine K_then ?_
                              refine C_block ?_
                              refine C_pick (.cons (k := 4) rfl (.cons (k := 51) rfl (.cons (k := 50) rfl (.cons (k := 49) rfl (.cons (k := 48) rfl (.cons (k := 47) rfl (.cons (k := 46) rfl (.cons (k := 45) rfl (.cons (k := 44) rfl (.cons (k := 43) rfl (.cons (k := 42) rfl (.cons (k := 41) rfl (.cons (k := 40) rfl (.cons (k := 39) rfl (.cons (k := 38) rfl (.cons (k := 37) rfl (.cons (k := 36) rfl (.cons (k := 35) rfl (.cons (k := 34) rfl (.cons (k := 33) rfl (.cons (k := 32) rfl (.cons (k := 31) rfl (.cons (k := 30) rfl (.cons (k := 29) rfl (.cons (k := 28) rfl (.cons (k := 27) rfl (.cons (k := 26) rfl (.cons (k := 25) rfl (.cons (k := 24) rfl (.cons (k := 23) rfl (.cons (k := 22) rfl (.cons (k := 21) rfl (.cons (k := 20) rfl (.cons (k := 19) rfl (.cons (k := 16) rfl (.cons (k := 15) rfl (.cons (k := 14) rfl (.cons (k := 13) rfl (.cons (k := 3) rfl (.cons (k := 2) rfl (.cons (k := 0) rfl .nil))))))))))))))))))))))))))))))))))))))))) ?_
                              refine C_loopS (.succ .zero) (fun (j : Nat) z => z = [(4, .int .i64 (j : Int))] ∧ j ≤ k ∧ l_l[k].addr ∉ (l_l.take j).map PeerV.addr) (fun j => k - j) (0) (⟨rfl, by omega, by simp⟩) ?_
                              rintro j _ ⟨rfl, hj, hJ⟩
                              refine C_seq ?_
                              refine C_seq ?_
                              refine C_region (l := [0, 1, 2]) rfl ?_
                              refine X_move rfl rfl rfl rfl ?_
                              refine X_move rfl rfl rfl rfl ?_
                              refine X_cmp rfl rfl rfl rfl rfl rfl ?_
                              refine XD_end ?_
                              refine K_then ?_
                              refine C_cond rfl (fun hc8 => ?_) (fun hc8 => ?_)
                              · first | replace hc8 := dT hc8 | replace hc8 := dF hc8 | replace hc8 := nT hc8 | replace hc8 := nF hc8 | skip
                                try simp only [PeerV.eta] at hc8
                                first
                                | (exfalso; omega)
                                | (exfalso; simp [eqX] at hc8; done)
                                | contradiction
                                | skip
                                  refine C_skip ?_
                                  refine K_then ?_
                                  refine C_seq ?_
                                  refine C_block ?_
                                  refine C_seq ?_
                                  refine C_region_any (l := [0, 1, 2, 3, 4, 5, 6, 7, 8, 9, 10]) #[0, 0, 3, 7, 15, 0, 0, 96, 224, 480, 1023] _ rfl (by kernel_rfl) (by kernel_rfl) St.drawn (fun _ h => h) ?_
                                  refine X_move rfl rfl rfl rfl ?_
                                  refine X_move rfl rfl rfl rfl ?_
                                  refine X_indexAddr rfl rfl rfl rfl F.elem23 (by first | rfl | exact (Int.toNat_of_nonneg (by omega)).symm) (by first | omega | (simp; done) | (simp; omega)) (by first | exact ⟨_, _, rfl⟩ | assumption | exact SlM.plain (by assumption) (by first | (simp; done) | (simp; omega)) | exact RdS.plain (by assumption) (by first | (simp; done) | (simp; omega)) | exact OSl.plain (by assumption) (by first | (simp; done) | (simp; omega))) rfl ?_
                                  first | refine X_fieldAddr rfl rfl rfl F.foff38_0 rfl ?_ | refine X_fieldAddr_el rfl rfl rfl (by first | exact ⟨_, _, rfl⟩ | assumption | exact SlM.plain (by assumption) (by first | (simp; done) | (simp; omega)) | exact RdS.plain (by assumption) (by first | (simp; done) | (simp; omega)) | exact OSl.plain (by assumption) (by first | (simp; done) | (simp; omega))) F.foff38_0 rfl ?_
                                  first | refine X_load rfl rfl rfl (by repeat first | exact List.Mem.head _ | refine List.Mem.tail _ ?_ | refine List.mem_append_right _ ?_) F.lay3 rfl rfl rfl ?_ | refine X_load_el rfl rfl rfl (by first | assumption | exact SlM.mono (by assumption) (by assumption)) (by first | exact row_map (by omega) | exact List.getElem?_eq_getElem (by omega) | exact rfl | exact row_map (by first | (simp; done) | (simp; omega))) F.lay3 rfl rfl rfl ?_ | refine X_load_rd rfl rfl rfl (by assumption) (by first | exact row_map (by omega) | exact List.getElem?_eq_getElem (by omega) | exact rfl | exact row_map (by first | (simp; done) | (simp; omega))) F.lay3 rfl rfl rfl ?_ | refine X_load_mem rfl rfl rfl (by first | assumption | exact Mem.get_of (by assumption) (by repeat first | assumption | refine Mem.le.trans (by assumption) ?_)) F.lay3 rfl rfl rfl ?_ | refine X_load_osl rfl rfl rfl (by assumption) (by repeat first | exact Rem.here _ | exact Rem.two | apply Rem.skip | apply Rem.over) (by first | exact row_map (by omega) | exact List.getElem?_eq_getElem (by omega) | exact rfl | exact row_map (by first | (simp; done) | (simp; omega))) F.lay3 rfl rfl rfl ?_ | refine X_load_cell rfl rfl rfl (by repeat first | exact List.Mem.head _ | refine List.Mem.tail _ ?_ | refine List.mem_append_right _ ?_) F.lay3 (by first | exact id_at (by first | omega | decide) | exact arr_at (by first | omega | decide)) rfl ?_
                                  refine X_move rfl rfl rfl rfl ?_
                                  refine X_move rfl rfl rfl rfl ?_
                                  refine X_indexAddr rfl rfl rfl rfl F.elem23 (by first | rfl | exact (Int.toNat_of_nonneg (by omega)).symm) (by first | omega | (simp; done) | (simp; omega)) (by first | exact ⟨_, _, rfl⟩ | assumption | exact SlM.plain (by assumption) (by first | (simp; done) | (simp; omega)) | exact RdS.plain (by assumption) (by first | (simp; done) | (simp; omega)) | exact OSl.plain (by assumption) (by first | (simp; done) | (simp; omega))) rfl ?_
                                  first | refine X_fieldAddr rfl rfl rfl F.foff38_0 rfl ?_ | refine X_fieldAddr_el rfl rfl rfl (by first | exact ⟨_, _, rfl⟩ | assumption | exact SlM.plain (by assumption) (by first | (simp; done) | (simp; omega)) | exact RdS.plain (by assumption) (by first | (simp; done) | (simp; omega)) | exact OSl.plain (by assumption) (by first | (simp; done) | (simp; omega))) F.foff38_0 rfl ?_
                                  first | refine X_load rfl rfl rfl (by repeat first | exact List.Mem.head _ | refine List.Mem.tail _ ?_ | refine List.mem_append_right _ ?_) F.lay3 rfl rfl rfl ?_ | refine X_load_el rfl rfl rfl (by first | assumption | exact SlM.mono (by assumption) (by assumption)) (by first | exact row_map (by omega) | exact List.getElem?_eq_getElem (by omega) | exact rfl | exact row_map (by first | (simp; done) | (simp; omega))) F.lay3 rfl rfl rfl ?_ | refine X_load_rd rfl rfl rfl (by assumption) (by first | exact row_map (by omega) | exact List.getElem?_eq_getElem (by omega) | exact rfl | exact row_map (by first | (simp; done) | (simp; omega))) F.lay3 rfl rfl rfl ?_ | refine X_load_mem rfl rfl rfl (by first | assumption | exact Mem.get_of (by assumption) (by repeat first | assumption | refine Mem.le.trans (by assumption) ?_)) F.lay3 rfl rfl rfl ?_ | refine X_load_osl rfl rfl rfl (by assumption) (by repeat first | exact Rem.here _ | exact Rem.two | apply Rem.skip | apply Rem.over) (by first | exact row_map (by omega) | exact List.getElem?_eq_getElem (by omega) | exact rfl | exact row_map (by first | (simp; done) | (simp; omega))) F.lay3 rfl rfl rfl ?_ | refine X_load_cell rfl rfl rfl (by repeat first | exact List.Mem.head _ | refine List.Mem.tail _ ?_ | refine List.mem_append_right _ ?_) F.lay3 (by first | exact id_at (by first | omega | decide) | exact arr_at (by first | omega | decide)) rfl ?_
                                  refine X_cmp rfl rfl rfl rfl rfl rfl ?_
                                  refine XD_end ?_
                                  refine K_then ?_
                                  refine C_cond rfl (fun hc9 => ?_) (fun hc9 => ?_)
                                  · first | replace hc9 := dT hc9 | replace hc9 := dF hc9 | replace hc9 := nT hc9 | replace hc9 := nF hc9 | skip
                                    try simp only [PeerV.eta] at hc9
                                    first
                                    | (exfalso; omega)
                                    | (exfalso; simp [eqX] at hc9; done)
                                    | contradiction
                                    | skip
                                      refine C_seq ?_
                                      refine C_region (l := [0]) rfl ?_
                                      refine X_assign rfl rfl rfl rfl ?_
                                      refine XD_end ?_
                                      refine K_then ?_
                                      refine C_ret ?_
                                      refine K_retB ?_
                                      refine K_ret ?_
                                      refine K_ret ?_
                                      refine K_retB ?_
                                      refine K_retB ?_
                                      refine K_ret ?_
                                      refine K_ret ?_
                                      refine K_retB ?_
                                      refine K_ret ?_
                                      refine K_end (.inr rfl) (.tmp rfl .nil) (fun w hw => ?_)
                                      refine ⟨_, rfl, (hw.cnt (by intro zz; first | exact Nat.le_refl _ | (simp only [cnt_app, cnt_cons, cnt_nil, cat, List.append_eq, List.append_assoc, List.cons_append, List.nil_append, List.append_nil]; omega) | (simp only [cnt_app, cnt_cons, cnt_nil, cat, List.append_eq, List.append_assoc, List.cons_append, List.nil_append, List.append_nil, PeerV.segs]; omega))), ?_⟩
                                      clear hw
                                      refine congrArg Value.bool ?_
                                      first | (have hd := circ_take (l := l_l) (k := k) (by omega); have hp := circ_pre (l := l_l); grind [IsCircle, mem_map_take]) | (have hk9 : k = l_l.length := (by omega); subst hk9; grind [IsCircle, List.take_length]) | grind [IsCircle]
                                  · first | replace hc9 := dT hc9 | replace hc9 := dF hc9 | replace hc9 := nT hc9 | replace hc9 := nF hc9 | skip
                                    try simp only [PeerV.eta] at hc9
                                    first
                                    | (exfalso; omega)
                                    | (exfalso; simp [eqX] at hc9; done)
                                    | contradiction
                                    | skip
                                      refine C_skip ?_
                                      refine K_out ?_
                                      refine K_then ?_
                                      refine C_region (l := [0, 1, 2]) rfl ?_
                                      refine X_move rfl rfl rfl rfl ?_
                                      refine X_ari rfl rfl rfl rfl rfl (by first | exact wrap_in (by decide) (by omega) | exact wrap_u64_in (by decide) (by omega) | exact wrap_u8_in (by decide) (by omega) | exact wrap_u32_in (by decide) (by omega) | exact wrap_u64 _ | exact wrap_u8 _ | exact wrap_u32 _ | exact rfl) rfl ?_
                                      refine X_assign rfl rfl rfl rfl ?_
                                      refine XD_end ?_
                                      refine K_roundS (a' := [(4, _)]) (j + 1) (.cons (k := 4) rfl (.cons (k := 51) rfl (.cons (k := 50) rfl (.cons (k := 49) rfl (.cons (k := 48) rfl (.cons (k := 47) rfl (.cons (k := 46) rfl (.cons (k := 45) rfl (.cons (k := 44) rfl (.cons (k := 43) rfl (.cons (k := 42) rfl (.cons (k := 41) rfl (.cons (k := 40) rfl (.cons (k := 39) rfl (.cons (k := 38) rfl (.cons (k := 37) rfl (.cons (k := 36) rfl (.cons (k := 35) rfl (.cons (k := 34) rfl (.cons (k := 33) rfl (.cons (k := 32) rfl (.cons (k := 31) rfl (.cons (k := 30) rfl (.cons (k := 29) rfl (.cons (k := 28) rfl (.cons (k := 27) rfl (.cons (k := 26) rfl (.cons (k := 25) rfl (.cons (k := 24) rfl (.cons (k := 23) rfl (.cons (k := 22) rfl (.cons (k := 21) rfl (.cons (k := 20) rfl (.cons (k := 19) rfl (.cons (k := 16) rfl (.cons (k := 15) rfl (.cons (k := 14) rfl (.cons (k := 13) rfl (.cons (k := 3) rfl (.cons (k := 2) rfl (.cons (k := 0) rfl (.nil)))))))))))))))))))))))))))))))))))))))))) (fun w hw => by first | exact hw | exact hw.cnt (by intro zz; first | exact Nat.le_refl _ | (simp only [cnt_app, cnt_cons, cnt_nil, cat, List.append_eq, List.append_assoc, List.cons_append, List.nil_append, List.append_nil]; omega) | (simp only [cnt_app, cnt_cons, cnt_nil, cat, List.append_eq, List.append_assoc, List.cons_append, List.nil_append, List.append_nil, PeerV.segs]; omega))) ?_ ?_
                                      · refine ⟨rfl, by omega, ?_⟩
                                        exact not_mem_step (by omega) hJ (by assumption)
                                      · omega
                              · first | replace hc8 := dT hc8 | replace hc8 := dF hc8 | replace hc8 := nT hc8 | replace hc8 := nF hc8 | skip
                                try simp only [PeerV.eta] at hc8
                                first
                                | (exfalso; omega)
                                | (exfalso; simp [eqX] at hc8; done)
                                | contradiction
                                | skip
                                  refine C_exit ?_
                                  refine K_exit ?_
                                  refine K_exit ?_
                                  refine K_hit ?_
                                  refine K_out ?_
                                  refine K_then ?_
                                  refine C_region (l := [0, 1, 2]) rfl ?_
                                  refine X_move rfl rfl rfl rfl ?_
                                  refine X_ari rfl rfl rfl rfl rfl (by first | exact wrap_in (by decide) (by omega) | exact wrap_u64_in (by decide) (by omega) | exact wrap_u8_in (by decide) (by omega) | exact wrap_u32_in (by decide) (by omega) | exact wrap_u64 _ | exact wrap_u8 _ | exact wrap_u32 _ | exact rfl) rfl ?_
                                  refine X_assign rfl rfl rfl rfl ?_
                                  refine XD_end ?_
                                  refine K_roundS (a' := [(3, _)]) (k + 1) (.cons (k := 3) rfl (.cons (k := 2) rfl (.cons (k := 0) rfl (.nil)))) (fun w hw => by first | exact hw | exact hw.cnt (by intro zz; first | exact Nat.le_refl _ | (simp only [cnt_app, cnt_cons, cnt_nil, cat, List.append_eq, List.append_assoc, List.cons_append, List.nil_append, List.append_nil]; omega) | (simp only [cnt_app, cnt_cons, cnt_nil, cat, List.append_eq, List.append_assoc, List.cons_append, List.nil_append, List.append_nil, PeerV.segs]; omega))) ?_ ?_
                                  · refine ⟨rfl, by omega, ?_⟩
                                    have hd := circ_take (l := l_l) (k := k) (by omega); have hj9 : j = k := (by omega); subst hj9; grind
                                  · omega
                      · first | replace hc6 := dT hc6 | replace hc6 := dF hc6 | replace hc6 := nT hc6 | replace hc6 := nF hc6 | skip
                        try simp only [PeerV.eta] at hc6
                        first
                        | (exfalso; omega)
                        | (exfalso; simp [eqX] at hc6; done)
                        | contradiction
                        | skip
                          refine X_skip rfl rfl rfl ?_
                          refine X_skip rfl rfl rfl ?_
                          refine X_skip rfl rfl rfl ?_
                          refine X_skip rfl rfl rfl ?_
                          refine X_skip rfl rfl rfl ?_
                          refine X_skip rfl rfl rfl ?_
                          refine X_skip rfl rfl rfl ?_
                          refine X_skip rfl rfl rfl ?_
                          refine X_skip rfl rfl rfl ?_
                          refine X_skip rfl rfl rfl ?_
                          refine X_skip rfl rfl rfl ?_
                          refine X_skip rfl rfl rfl ?_
                          refine X_skip rfl rfl rfl ?_
                          refine X_pick rfl rfl rfl rfl rfl ?_
                          refine X_pick rfl rfl rfl rfl rfl ?_
                          refine XD_end ?_
                          refine K_then ?_
                          refine C_false rfl ?_
                          refine C_skip ?_
                          refine K_then ?_
                          refine C_seq ?_
                          refine C_region (l := [0]) rfl ?_
                          refine X_assign rfl rfl rfl rfl ?_
                          refine XD_end ?_
                          refine K_then ?_
                          refine C_block ?_
                          refine C_pick (.cons (k := 4) rfl (.cons (k := 51) rfl (.cons (k := 50) rfl (.cons (k := 49) rfl (.cons (k := 48) rfl (.cons (k := 47) rfl (.cons (k := 46) rfl (.cons (k := 45) rfl (.cons (k := 44) rfl (.cons (k := 43) rfl (.cons (k := 42) rfl (.cons (k := 41) rfl (.cons (k := 40) rfl (.cons (k := 39) rfl (.cons (k := 38) rfl (.cons (k := 37) rfl (.cons (k := 36) rfl (.cons (k := 35) rfl (.cons (k := 34) rfl (.cons (k := 33) rfl (.cons (k := 32) rfl (.cons (k := 31) rfl (.cons (k := 30) rfl (.cons (k := 29) rfl (.cons (k := 28) rfl (.cons (k := 27) rfl (.cons (k := 26) rfl (.cons (k := 25) rfl (.cons (k := 24) rfl (.cons (k := 23) rfl (.cons (k := 22) rfl (.cons (k := 21) rfl (.cons (k := 20) rfl (.cons (k := 19) rfl (.cons (k := 16) rfl (.cons (k := 15) rfl (.cons (k := 14) rfl (.cons (k := 13) rfl (.cons (k := 3) rfl (.cons (k := 2) rfl (.cons (k := 0) rfl .nil))))))))))))))))))))))))))))))))))))))))) ?_
                          refine C_loopS (.succ .zero) (fun (j : Nat) z => z = [(4, .int .i64 (j : Int))] ∧ j ≤ k ∧ l_l[k].addr ∉ (l_l.take j).map PeerV.addr) (fun j => k - j) (0) (⟨rfl, by omega, by simp⟩) ?_
                          rintro j _ ⟨rfl, hj, hJ⟩
                          refine C_seq ?_
                          refine C_seq ?_
                          refine C_region (l := [0, 1, 2]) rfl ?_
                          refine X_move rfl rfl rfl rfl ?_
                          refine X_move rfl rfl rfl rfl ?_
                          refine X_cmp rfl rfl rfl rfl rfl rfl ?_
                          refine XD_end ?_
                          refine K_then ?_
                          refine C_cond rfl (fun hc10 => ?_) (fun hc10 => ?_)
                          · first | replace hc10 := dT hc10 | replace hc10 := dF hc10 | replace hc10 := nT hc10 | replace hc10 := nF hc10 | skip
                            try simp only [PeerV.eta] at hc10
                            first
                            | (exfalso; omega)
                            | (exfalso; simp [eqX] at hc10; done)
                            | contradiction
                            | skip
                              refine C_skip ?_
                              refine K_then ?_
                              refine C_seq ?_
                              refine C_block ?_
                              refine C_seq ?_
                              refine C_region_any (l := [0, 1, 2, 3, 4, 5, 6, 7, 8, 9, 10]) #[0, 0, 3, 7, 15, 0, 0, 96, 224, 480, 1023] _ rfl (by kernel_rfl) (by kernel_rfl) St.drawn (fun _ h => h) ?_
                              refine X_move rfl rfl rfl rfl ?_
                              refine X_move rfl rfl rfl rfl ?_
                              refine X_indexAddr rfl rfl rfl rfl F.elem23 (by first | rfl | exact (Int.toNat_of_nonneg (by omega)).symm) (by first | omega | (simp; done) | (simp; omega)) (by first | exact ⟨_, _, rfl⟩ | assumption | exact SlM.plain (by assumption) (by first | (simp; done) | (simp; omega)) | exact RdS.plain (by assumption) (by first | (simp; done) | (simp; omega)) | exact OSl.plain (by assumption) (by first | (simp; done) | (simp; omega))) rfl ?_
                              first | refine X_fieldAddr rfl rfl rfl F.foff38_0 rfl ?_ | refine X_fieldAddr_el rfl rfl rfl (by first | exact ⟨_, _, rfl⟩ | assumption | exact SlM.plain (by assumption) (by first | (simp; done) | (simp; omega)) | exact RdS.plain (by assumption) (by first | (simp; done) | (simp; omega)) | exact OSl.plain (by assumption) (by first | (simp; done) | (simp; omega))) F.foff38_0 rfl ?_
                              first | refine X_load rfl rfl rfl (by repeat first | exact List.Mem.head _ | refine List.Mem.tail _ ?_ | refine List.mem_append_right _ ?_) F.lay3 rfl rfl rfl ?_ | refine X_load_el rfl rfl rfl (by first | assumption | exact SlM.mono (by assumption) (by assumption)) (by first | exact row_map (by omega) | exact List.getElem?_eq_getElem (by omega) | exact rfl | exact row_map (by first | (simp; done) | (simp; omega))) F.lay3 rfl rfl rfl ?_ | refine X_load_rd rfl rfl rfl (by assumption) (by first | exact row_map (by omega) | exact List.getElem?_eq_getElem (by omega) | exact rfl | exact row_map (by first | (simp; done) | (simp; omega))) F.lay3 rfl rfl rfl ?_ | refine X_load_mem rfl rfl rfl (by first | assumption | exact Mem.get_of (by assumption) (by repeat first | assumption | refine Mem.le.trans (by assumption) ?_)) F.lay3 rfl rfl rfl ?_ | refine X_load_osl rfl rfl rfl (by assumption) (by repeat first | exact Rem.here _ | exact Rem.two | apply Rem.skip | apply Rem.over) (by first | exact row_map (by omega) | exact List.getElem?_eq_getElem (by omega) | exact rfl | exact row_map (by first | (simp; done) | (simp; omega))) F.lay3 rfl rfl rfl ?_ | refine X_load_cell rfl rfl rfl (by repeat first | exact List.Mem.head _ | refine List.Mem.tail _ ?_ | refine List.mem_append_right _ ?_) F.lay3 (by first | exact id_at (by first | omega | decide) | exact arr_at (by first | omega | decide)) rfl ?_
                              refine X_move rfl rfl rfl rfl ?_
                              refine X_move rfl rfl rfl rfl ?_
                              refine X_indexAddr rfl rfl rfl rfl F.elem23 (by first | rfl | exact (Int.toNat_of_nonneg (by omega)).symm) (by first | omega | (simp; done) | (simp; omega)) (by first | exact ⟨_, _, rfl⟩ | assumption | exact SlM.plain (by assumption) (by first | (simp; done) | (simp; omega)) | exact RdS.plain (by assumption) (by first | (simp; done) | (simp; omega)) | exact OSl.plain (by assumption) (by first | (simp; done) | (simp; omega))) rfl ?_
                              first | refine X_fieldAddr rfl rfl rfl F.foff38_0 rfl ?_ | refine X_fieldAddr_el rfl rfl rfl (by first | exact ⟨_, _, rfl⟩ | assumption | exact SlM.plain (by assumption) (by first | (simp; done) | (simp; omega)) | exact RdS.plain (by assumption) (by first | (simp; done) | (simp; omega)) | exact OSl.plain (by assumption) (by first | (simp; done) | (simp; omega))) F.foff38_0 rfl ?_
                              first | refine X_load rfl rfl rfl (by repeat first | exact List.Mem.head _ | refine List.Mem.tail _ ?_ | refine List.mem_append_right _ ?_) F.lay3 rfl rfl rfl ?_ | refine X_load_el rfl rfl rfl (by first | assumption | exact SlM.mono (by assumption) (by assumption)) (by first | exact row_map (by omega) | exact List.getElem?_eq_getElem (by omega) | exact rfl | exact row_map (by first | (simp; done) | (simp; omega))) F.lay3 rfl rfl rfl ?_ | refine X_load_rd rfl rfl rfl (by assumption) (by first | exact row_map (by omega) | exact List.getElem?_eq_getElem (by omega) | exact rfl | exact row_map (by first | (simp; done) | (simp; omega))) F.lay3 rfl rfl rfl ?_ | refine X_load_mem rfl rfl rfl (by first | assumption | exact Mem.get_of (by assumption) (by repeat first | assumption | refine Mem.le.trans (by assumption) ?_)) F.lay3 rfl rfl rfl ?_ | refine X_load_osl rfl rfl rfl (by assumption) (by repeat first | exact Rem.here _ | exact Rem.two | apply Rem.skip | apply Rem.over) (by first | exact row_map (by omega) | exact List.getElem?_eq_getElem (by omega) | exact rfl | exact row_map (by first | (simp; done) | (simp; omega))) F.lay3 rfl rfl rfl ?_ | refine X_load_cell rfl rfl rfl (by repeat first | exact List.Mem.head _ | refine List.Mem.tail _ ?_ | refine List.mem_append_right _ ?_) F.lay3 (by first | exact id_at (by first | omega | decide) | exact arr_at (by first | omega | decide)) rfl ?_
                              refine X_cmp rfl rfl rfl rfl rfl rfl ?_
                              refine XD_end ?_
                              refine K_then ?_
                              refine C_cond rfl (fun hc11 => ?_) (fun hc11 => ?_)
                              · first | replace hc11 := dT hc11 | replace hc11 := dF hc11 | replace hc11 := nT hc11 | replace hc11 := nF hc11 | skip
                                try simp only [PeerV.eta] at hc11
                                first
                                | (exfalso; omega)
                                | (exfalso; simp [eqX] at hc11; done)
                                | contradiction
                                | skip
                                  refine C_seq ?_
                                  refine C_region (l := [0]) rfl ?_
                                  refine X_assign rfl rfl rfl rfl ?_
                                  refine XD_end ?_
                                  refine K_then ?_
                                  refine C_ret ?_
                                  refine K_retB ?_
                                  refine K_ret ?_
                                  refine K_ret ?_
                                  refine K_retB ?_
                                  refine K_retB ?_
                                  refine K_ret ?_
                                  refine K_ret ?_
                                  refine K_retB ?_
                                  refine K_ret ?_
                                  refine K_end (.inr rfl) (.tmp rfl .nil) (fun w hw => ?_)
                                  refine ⟨_, rfl, (hw.cnt (by intro zz; first | exact Nat.le_refl _ | (simp only [cnt_app, cnt_cons, cnt_nil, cat, List.append_eq, List.append_assoc, List.cons_append, List.nil_append, List.append_nil]; omega) | (simp only [cnt_app, cnt_cons, cnt_nil, cat, List.append_eq, List.append_assoc, List.cons_append, List.nil_append, List.append_nil, PeerV.segs]; omega))), ?_⟩
                                  clear hw
                                  refine congrArg Value.bool ?_
                                  first | (have hd := circ_take (l := l_l) (k := k) (by omega); have hp := circ_pre (l := l_l); grind [IsCircle, mem_map_take]) | (have hk9 : k = l_l.length := (by omega); subst hk9; grind [IsCircle, List.take_length]) | grind [IsCircle]
                              · first | replace hc11 := dT hc11 | replace hc11 := dF hc11 | replace hc11 := nT hc11 | replace hc11 := nF hc11 | skip
                                try simp only [PeerV.eta] at hc11
                                first
                                | (exfalso; omega)
                                | (exfalso; simp [eqX] at hc11; done)
                                | contradiction
                                | skip
                                  refine C_skip ?_
                                  refine K_out ?_
                                  refine K_then ?_
                                  refine C_region (l := [0, 1, 2]) rfl ?_
                                  refine X_move rfl rfl rfl rfl ?_
                                  refine X_ari rfl rfl rfl rfl rfl (by first | exact wrap_in (by decide) (by omega) | exact wrap_u64_in (by decide) (by omega) | exact wrap_u8_in (by decide) (by omega) | exact wrap_u32_in (by decide) (by omega) | exact wrap_u64 _ | exact wrap_u8 _ | exact wrap_u32 _ | exact rfl) rfl ?_
                                  refine X_assign rfl rfl rfl rfl ?_
                                  refine XD_end ?_
                                  refine K_roundS (a' := [(4, _)]) (j + 1) (.cons (k := 4) rfl (.cons (k := 51) rfl (.cons (k := 50) rfl (.cons (k := 49) rfl (.cons (k := 48) rfl (.cons (k := 47) rfl (.cons (k := 46) rfl (.cons (k := 45) rfl (.cons (k := 44) rfl (.cons (k := 43) rfl (.cons (k := 42) rfl (.cons (k := 41) rfl (.cons (k := 40) rfl (.cons (k := 39) rfl (.cons (k := 38) rfl (.cons (k := 37) rfl (.cons (k := 36) rfl (.cons (k := 35) rfl (.cons (k := 34) rfl (.cons (k := 33) rfl (.cons (k := 32) rfl (.cons (k := 31) rfl (.cons (k := 30) rfl (.cons (k := 29) rfl (.cons (k := 28) rfl (.cons (k := 27) rfl (.cons (k := 26) rfl (.cons (k := 25) rfl (.cons (k := 24) rfl (.cons (k := 23) rfl (.cons (k := 22) rfl (.cons (k := 21) rfl (.cons (k := 20) rfl (.cons (k := 19) rfl (.cons (k := 16) rfl (.cons (k := 15) rfl (.cons (k := 14) rfl (.cons (k := 13) rfl (.cons (k := 3) rfl (.cons (k := 2) rfl (.cons (k := 0) rfl (.nil)))))))))))))))))))))))))))))))))))))))))) (fun w hw => by first | exact hw | exact hw.cnt (by intro zz; first | exact Nat.le_refl _ | (simp only [cnt_app, cnt_cons, cnt_nil, cat, List.append_eq, List.append_assoc, List.cons_append, List.nil_append, List.append_nil]; omega) | (simp only [cnt_app, cnt_cons, cnt_nil, cat, List.append_eq, List.append_assoc, List.cons_append, List.nil_append, List.append_nil, PeerV.segs]; omega))) ?_ ?_
                                  · refine ⟨rfl, by omega, ?_⟩
                                    exact not_mem_step (by omega) hJ (by assumption)
                                  · omega
                          · first | replace hc10 := dT hc10 | replace hc10 := dF hc10 | replace hc10 := nT hc10 | replace hc10 := nF hc10 | skip
                            try simp only [PeerV.eta] at hc10
                            first
                            | (exfalso; omega)
                            | (exfalso; simp [eqX] at hc10; done)
                            | contradiction
                            | skip
                              refine C_exit ?_
                              refine K_exit ?_
                              refine K_exit ?_
                              refine K_hit ?_
                              refine K_out ?_
                              refine K_then ?_
                              refine C_region (l := [0, 1, 2]) rfl ?_
                              refine X_move rfl rfl rfl rfl ?_
                              refine X_ari rfl rfl rfl rfl rfl (by first | exact wrap_in (by decide) (by omega) | exact wrap_u64_in (by decide) (by omega) | exact wrap_u8_in (by decide) (by omega) | exact wrap_u32_in (by decide) (by omega) | exact wrap_u64 _ | exact wrap_u8 _ | exact wrap_u32 _ | exact rfl) rfl ?_
                              refine X_assign rfl rfl rfl rfl ?_
                              refine XD_end ?_
                              refine K_roundS (a' := [(3, _)]) (k + 1) (.cons (k := 3) rfl (.cons (k := 2) rfl (.cons (k := 0) rfl (.nil)))) (fun w hw => by first | exact hw | exact hw.cnt (by intro zz; first | exact Nat.le_refl _ | (simp only [cnt_app, cnt_cons, cnt_nil, cat, List.append_eq, List.append_assoc, List.cons_append, List.nil_append, List.append_nil]; omega) | (simp only [cnt_app, cnt_cons, cnt_nil, cat, List.append_eq, List.append_assoc, List.cons_append, List.nil_append, List.append_nil, PeerV.segs]; omega))) ?_ ?_
                              · refine ⟨rfl, by omega, ?_⟩
                                have hd := circ_take (l := l_l) (k := k) (by omega); have hj9 : j = k := (by omega); subst hj9; grind
                              · omega
          · first | replace hc3 := dT hc3 | replace hc3 := dF hc3 | replace hc3 := nT hc3 | replace hc3 := nF hc3 | skip
            try simp only [PeerV.eta] at hc3
            first
            | (exfalso; omega)
            | (exfalso; simp [eqX] at hc3; done)
            | contradiction
            | skip
              refine C_exit ?_
              refine K_exit ?_
              refine K_exit ?_
              refine K_hit ?_
              refine K_then ?_
              refine C_pick (.cons (k := 2) rfl .nil) ?_
              refine C_seq ?_
              refine C_region (l := [0]) rfl ?_
              refine X_assign rfl rfl rfl rfl ?_
              refine XD_end ?_
              refine K_then ?_
              refine C_ret ?_
              refine K_end (.inr rfl) (.tmp rfl .nil) (fun w hw => ?_)
              refine ⟨_, rfl, (hw.cnt (by intro zz; first | exact Nat.le_refl _ | (simp only [cnt_app, cnt_cons, cnt_nil, cat, List.append_eq, List.append_assoc, List.cons_append, List.nil_append, List.append_nil]; omega) | (simp only [cnt_app, cnt_cons, cnt_nil, cat, List.append_eq, List.append_assoc, List.cons_append, List.nil_append, List.append_nil, PeerV.segs]; omega))), ?_⟩
              clear hw
              refine congrArg Value.bool ?_
              first | (have hd := circ_take (l := l_l) (k := k) (by omega); have hp := circ_pre (l := l_l); grind [IsCircle, mem_map_take]) | (have hk9 : k = l_l.length := (by omega); subst hk9; grind [IsCircle, List.take_length]) | grind [IsCircle]

theorem Search_ok (M : Mem) (Hin : Hp) (g : FuncId) (caps : List Value) (p : Nat → Bool) (n : Nat) (hn : n ≤ 1000000000) (hok : okFn Tryd.prog g = true) (hc : ∀ i, i < n → Fo Tryd.prog g ([.int .i64 (i : Int)] ++ caps) M Hin (fun M' v => M' = M ∧ v = .bool (p i))) (hmono : ∀ i j, i ≤ j → j < n → p i = true → p j = true) : Fo Tryd.prog 55 [.int .i64 (n : Int), .func (.func g) #[] caps.toArray] M Hin (fun M' v => M' = M ∧ v = .int .i64 (firstP p n : Nat)) := by
  refine fo_enter Tryd.func55 rfl Tryd.ntmps55 rfl ?_; intro H
  refine C_seq ?_
  refine C_region (l := [0]) rfl ?_
  refine X_assign rfl rfl rfl rfl ?_
  refine XD_end ?_
  refine K_then ?_
  refine C_seq ?_
  refine C_region (l := [0, 1, 2]) rfl ?_
  refine X_move rfl rfl rfl rfl ?_
  refine X_assign rfl rfl rfl rfl ?_
  refine X_assign rfl rfl rfl rfl ?_
  refine XD_end ?_
  refine K_then ?_
  refine C_pick (.cons (k := 6) rfl (.cons (k := 5) rfl (.cons (k := 4) rfl (.cons (k := 1) rfl .nil)))) ?_
  refine C_seq ?_
  refine C_block ?_
  refine C_pick (.cons (k := 5) rfl (.cons (k := 6) rfl (.cons (k := 4) rfl (.cons (k := 1) rfl .nil)))) ?_
  refine C_loopS (.succ (.succ .zero)) (fun (x : Nat × Nat) z => z = [(5, .int .i64 (x.1 : Int)), (6, .int .i64 (x.2 : Int))] ∧ x.1 ≤ x.2 ∧ x.2 ≤ n ∧ (∀ y, y < x.1 → p y = false) ∧ (x.2 < n → p x.2 = true)) (fun x => x.2 - x.1) ((0, n)) (⟨rfl, Nat.zero_le _, Nat.le_refl _, fun y h => (by cases h), fun h => (by omega)⟩) ?_
  rintro ⟨a, b⟩ z ⟨hz, h1, h2, h3, h4⟩
  simp only at hz h1 h2 h3 h4
  subst hz
  refine C_seq ?_
  refine C_seq ?_
  refine C_region (l := [0, 1, 2]) rfl ?_
  refine X_move rfl rfl rfl rfl ?_
  refine X_move rfl rfl rfl rfl ?_
  refine X_cmp rfl rfl rfl rfl rfl rfl ?_
  refine XD_end ?_
  refine K_then ?_
  refine C_cond rfl (fun hc1 => ?_) (fun hc1 => ?_)
  · try simp only [Bool.not_eq_true', Bool.not_eq_false'] at hc1
    first | replace hc1 := dT hc1 | replace hc1 := dF hc1 | have hP := hc1
    first
    | (exfalso; omega)
    | (exfalso; simp [eqX] at hc1; done)
    | contradiction
    | skip
      refine C_skip ?_
      refine K_then ?_
      refine C_block ?_
      refine C_seq ?_
      refine C_region (l := [0, 1, 2, 3, 4, 5, 6]) rfl ?_
      refine X_move rfl rfl rfl rfl ?_
      refine X_move rfl rfl rfl rfl ?_
      refine X_ari rfl rfl rfl rfl rfl (by first | exact wrap_in (by decide) (by omega) | exact wrap_u64_in (by decide) (by omega) | exact wrap_u8_in (by decide) (by omega) | exact wrap_u32_in (by decide) (by omega) | exact wrap_u64 _ | exact wrap_u8 _ | exact wrap_u32 _ | exact rfl) rfl ?_
      refine X_conv rfl rfl rfl Tryd.underlying3 Tryd.underlying63 (by first | exact wrap_in (by decide) (by omega) | exact wrap_u64_in (by decide) (by omega) | exact wrap_u8_in (by decide) (by omega) | exact wrap_u32_in (by decide) (by omega) | exact wrap_u64 _ | exact wrap_u8 _ | exact wrap_u32 _ | exact rfl) rfl ?_
      refine X_shift rfl rfl rfl rfl (by decide) (shr_lit 1 (by decide)) rfl rfl ?_
      refine X_conv rfl rfl rfl Tryd.underlying63 Tryd.underlying3 (by first | exact wrap_in (by decide) (by omega) | exact wrap_u64_in (by decide) (by omega) | exact wrap_u8_in (by decide) (by omega) | exact wrap_u32_in (by decide) (by omega) | exact wrap_u64 _ | exact wrap_u8 _ | exact wrap_u32 _ | exact rfl) rfl ?_
      have e9 : ((a : Int) + (b : Int)) / 2 ^ 1 = (((a + b) / 2 : Nat) : Int) := by omega
      rw [e9]
      refine X_assign rfl rfl rfl rfl ?_
      refine XD_end ?_
      refine K_then ?_
      refine C_seq ?_
      refine C_region (l := [0, 1, 2, 3]) rfl ?_
      refine X_move rfl rfl rfl rfl ?_
      refine X_move rfl rfl rfl rfl ?_
      have hab : a < b := by omega
      refine X_foV rfl rfl rfl hok rfl rfl (hc ((a + b) / 2) (by omega)) (by repeat first | exact Rem.here _ | exact Rem.two | apply Rem.skip | apply Rem.over) (putE_some rfl) ?_
      rintro _ M1 _ ⟨hM1, rfl⟩; subst M1
      refine X_not rfl rfl rfl rfl ?_
      refine XD_end ?_
      refine K_then ?_
      refine C_cond rfl (fun hc2 => ?_) (fun hc2 => ?_)
      · try simp only [Bool.not_eq_true', Bool.not_eq_false'] at hc2
        first | replace hc2 := dT hc2 | replace hc2 := dF hc2 | have hP := hc2
        first
        | (exfalso; omega)
        | (exfalso; simp [eqX] at hc2; done)
        | contradiction
        | skip
          refine C_region (l := [0, 1, 2]) rfl ?_
          refine X_move rfl rfl rfl rfl ?_
          refine X_ari rfl rfl rfl rfl rfl (by first | exact wrap_in (by decide) (by omega) | exact wrap_u64_in (by decide) (by omega) | exact wrap_u8_in (by decide) (by omega) | exact wrap_u32_in (by decide) (by omega) | exact wrap_u64 _ | exact wrap_u8 _ | exact wrap_u32 _ | exact rfl) rfl ?_
          refine X_assign rfl rfl rfl rfl ?_
          refine XD_end ?_
          refine K_out ?_
          refine K_roundS (a' := [(5, _), (6, _)]) (((a + b) / 2 + 1, b)) (.cons (k := 5) rfl (.cons (k := 6) rfl (.cons (k := 4) rfl (.cons (k := 1) rfl (.nil))))) (fun w hw => by first | exact hw | exact hw.cnt (by intro zz; first | exact Nat.le_refl _ | (simp only [cnt_app, cnt_cons, cnt_nil, cat, List.append_eq, List.append_assoc, List.cons_append, List.nil_append, List.append_nil]; omega) | (simp only [cnt_app, cnt_cons, cnt_nil, cat, List.append_eq, List.append_assoc, List.cons_append, List.nil_append, List.append_nil, PeerV.segs]; omega))) ?_ ?_
          · refine ⟨rfl, (by show (a + b) / 2 + 1 ≤ b; omega), h2, fun y hy => ?_, h4⟩
            have hy2 : y < (a + b) / 2 + 1 := hy
            cases hpy : p y with
            | false => rfl
            | true => have := hmono y ((a + b) / 2) (by omega) (by omega) hpy; simp_all
          · show b - ((a + b) / 2 + 1) < b - a; omega
      · try simp only [Bool.not_eq_true', Bool.not_eq_false'] at hc2
        first | replace hc2 := dT hc2 | replace hc2 := dF hc2 | have hP := hc2
        first
        | (exfalso; omega)
        | (exfalso; simp [eqX] at hc2; done)
        | contradiction
        | skip
          refine C_region (l := [0, 1]) rfl ?_
          refine X_move rfl rfl rfl rfl ?_
          refine X_assign rfl rfl rfl rfl ?_
          refine XD_end ?_
          refine K_out ?_
          refine K_roundS (a' := [(5, _), (6, _)]) ((a, (a + b) / 2)) (.cons (k := 5) rfl (.cons (k := 6) rfl (.cons (k := 4) rfl (.cons (k := 1) rfl (.nil))))) (fun w hw => by first | exact hw | exact hw.cnt (by intro zz; first | exact Nat.le_refl _ | (simp only [cnt_app, cnt_cons, cnt_nil, cat, List.append_eq, List.append_assoc, List.cons_append, List.nil_append, List.append_nil]; omega) | (simp only [cnt_app, cnt_cons, cnt_nil, cat, List.append_eq, List.append_assoc, List.cons_append, List.nil_append, List.append_nil, PeerV.segs]; omega))) ?_ ?_
          · exact ⟨rfl, (by show a ≤ (a + b) / 2; omega), (by show (a + b) / 2 ≤ n; omega), h3, fun _ => by simpa using hP⟩
          · show (a + b) / 2 - a < b - a; omega
  · try simp only [Bool.not_eq_true', Bool.not_eq_false'] at hc1
    first | replace hc1 := dT hc1 | replace hc1 := dF hc1 | have hP := hc1
    first
    | (exfalso; omega)
    | (exfalso; simp [eqX] at hc1; done)
    | contradiction
    | skip
      refine C_exit ?_
      refine K_exit ?_
      refine K_exit ?_
      refine K_hit ?_
      refine K_then ?_
      refine C_pick (.cons (k := 5) rfl (.cons (k := 4) rfl .nil)) ?_
      refine C_seq ?_
      refine C_region (l := [0, 1]) rfl ?_
      refine X_move rfl rfl rfl rfl ?_
      refine X_assign rfl rfl rfl rfl ?_
      refine XD_end ?_
      refine K_then ?_
      refine C_pick (.cons (k := 4) rfl .nil) ?_
      refine C_ret ?_
      refine K_end (.inr rfl) (.tmp rfl .nil) (fun w hw => ?_)
      refine ⟨_, M, rfl, Mem.le.refl M, hw.cnt (by intro zz; first | exact Nat.le_refl _ | (simp only [cnt_app, cnt_cons, cnt_nil, cat, List.append_eq, List.append_assoc, List.cons_append, List.nil_append, List.append_nil]; omega)), rfl, ?_⟩
      refine congrArg (Value.int .i64) ?_
      have e : a = b := by omega
      subst e
      exact congrArg Nat.cast (firstP_at h2 h3 h4).symm

theorem own1_ok (M : Mem) (b1 b2 : Nat) (l : Sl PeerV) (x : Plc) (s_l : SlM M l.a (l.l.map PeerV.segs) 21) (i : Nat) (hi : i < l.l.length) : Fo Tryd.prog 56 ([.int .i64 (i : Int)] ++ [.pointer (some ⟨b1, 0, none⟩), .pointer (some ⟨b2, 0, none⟩)]) M [(b2, rowO [idSeg x] 32), (b1, rowO [.one l.val] 23)] (fun M' v => M' = M ∧ v = .bool (pO l.l x i)) := by
  obtain ⟨l_a, l_c, l_l⟩ := l
  simp only at s_l hi
  have n_l : (l_l.map PeerV.segs).length = l_l.length := List.length_map ..
  refine fo_enter Tryd.func56 rfl Tryd.ntmps56 rfl ?_; intro H
  refine C_seq ?_
  refine C_region (l := [0]) rfl ?_
  refine X_assign rfl rfl rfl rfl ?_
  refine XD_end ?_
  refine K_then ?_
  refine C_seq ?_
  refine C_region_any (l := [0, 1, 2, 3, 4, 5, 6, 7, 8]) #[0, 0, 3, 7, 15, 0, 63, 127, 255] _ rfl (by kernel_rfl) (by kernel_rfl) St.drawn (fun _ h => h) ?_
  first | refine X_load rfl rfl rfl (by repeat first | exact List.Mem.head _ | refine List.Mem.tail _ ?_ | refine List.mem_append_right _ ?_) F.lay23 rfl rfl rfl ?_ | refine X_load_el rfl rfl rfl (by first | assumption | exact SlM.mono (by assumption) (by assumption)) (by first | exact row_map (by omega) | exact List.getElem?_eq_getElem (by omega) | exact rfl | exact row_map (by first | (simp; done) | (simp; omega))) F.lay23 rfl rfl rfl ?_ | refine X_load_rd rfl rfl rfl (by assumption) (by first | exact row_map (by omega) | exact List.getElem?_eq_getElem (by omega) | exact rfl | exact row_map (by first | (simp; done) | (simp; omega))) F.lay23 rfl rfl rfl ?_ | refine X_load_mem rfl rfl rfl (by first | assumption | exact Mem.get_of (by assumption) (by repeat first | assumption | refine Mem.le.trans (by assumption) ?_)) F.lay23 rfl rfl rfl ?_ | refine X_load_osl rfl rfl rfl (by assumption) (by repeat first | exact Rem.here _ | exact Rem.two | apply Rem.skip | apply Rem.over) (by first | exact row_map (by omega) | exact List.getElem?_eq_getElem (by omega) | exact rfl | exact row_map (by first | (simp; done) | (simp; omega))) F.lay23 rfl rfl rfl ?_ | refine X_load_cell rfl rfl rfl (by repeat first | exact List.Mem.head _ | refine List.Mem.tail _ ?_ | refine List.mem_append_right _ ?_) F.lay23 (by first | exact id_at (by first | omega | decide) | exact arr_at (by first | omega | decide)) rfl ?_
  refine X_move rfl rfl rfl rfl ?_
  refine X_indexAddr rfl rfl rfl rfl F.elem23 (by first | rfl | exact (Int.toNat_of_nonneg (by omega)).symm) (by first | omega | (simp; done) | (simp; omega)) (by first | exact ⟨_, _, rfl⟩ | assumption | exact SlM.plain (by assumption) (by first | (simp; done) | (simp; omega)) | exact RdS.plain (by assumption) (by first | (simp; done) | (simp; omega)) | exact OSl.plain (by assumption) (by first | (simp; done) | (simp; omega))) rfl ?_
  first | refine X_fieldAddr rfl rfl rfl F.foff38_1 rfl ?_ | refine X_fieldAddr_el rfl rfl rfl (by first | exact ⟨_, _, rfl⟩ | assumption | exact SlM.plain (by assumption) (by first | (simp; done) | (simp; omega)) | exact RdS.plain (by assumption) (by first | (simp; done) | (simp; omega)) | exact OSl.plain (by assumption) (by first | (simp; done) | (simp; omega))) F.foff38_1 rfl ?_
  first | refine X_load rfl rfl rfl (by repeat first | exact List.Mem.head _ | refine List.Mem.tail _ ?_ | refine List.mem_append_right _ ?_) F.lay32 rfl rfl rfl ?_ | refine X_load_el rfl rfl rfl (by first | assumption | exact SlM.mono (by assumption) (by assumption)) (by first | exact row_map (by omega) | exact List.getElem?_eq_getElem (by omega) | exact rfl | exact row_map (by first | (simp; done) | (simp; omega))) F.lay32 rfl rfl rfl ?_ | refine X_load_rd rfl rfl rfl (by assumption) (by first | exact row_map (by omega) | exact List.getElem?_eq_getElem (by omega) | exact rfl | exact row_map (by first | (simp; done) | (simp; omega))) F.lay32 rfl rfl rfl ?_ | refine X_load_mem rfl rfl rfl (by first | assumption | exact Mem.get_of (by assumption) (by repeat first | assumption | refine Mem.le.trans (by assumption) ?_)) F.lay32 rfl rfl rfl ?_ | refine X_load_osl rfl rfl rfl (by assumption) (by repeat first | exact Rem.here _ | exact Rem.two | apply Rem.skip | apply Rem.over) (by first | exact row_map (by omega) | exact List.getElem?_eq_getElem (by omega) | exact rfl | exact row_map (by first | (simp; done) | (simp; omega))) F.lay32 rfl rfl rfl ?_
  first | refine X_load rfl rfl rfl (by repeat first | exact List.Mem.head _ | refine List.Mem.tail _ ?_ | refine List.mem_append_right _ ?_) F.lay32 rfl rfl rfl ?_ | refine X_load_el rfl rfl rfl (by first | assumption | exact SlM.mono (by assumption) (by assumption)) (by first | exact row_map (by omega) | exact List.getElem?_eq_getElem (by omega) | exact rfl | exact row_map (by first | (simp; done) | (simp; omega))) F.lay32 rfl rfl rfl ?_ | refine X_load_rd rfl rfl rfl (by assumption) (by first | exact row_map (by omega) | exact List.getElem?_eq_getElem (by omega) | exact rfl | exact row_map (by first | (simp; done) | (simp; omega))) F.lay32 rfl rfl rfl ?_ | refine X_load_mem rfl rfl rfl (by first | assumption | exact Mem.get_of (by assumption) (by repeat first | assumption | refine Mem.le.trans (by assumption) ?_)) F.lay32 rfl rfl rfl ?_ | refine X_load_osl rfl rfl rfl (by assumption) (by repeat first | exact Rem.here _ | exact Rem.two | apply Rem.skip | apply Rem.over) (by first | exact row_map (by omega) | exact List.getElem?_eq_getElem (by omega) | exact rfl | exact row_map (by first | (simp; done) | (simp; omega))) F.lay32 rfl rfl rfl ?_
  refine X_fs rfl rfl F.ok27 rfl (Less_ok _ _ _) rfl ?_
  rintro _ rfl
  refine X_not rfl rfl rfl rfl ?_
  refine X_assign rfl rfl rfl rfl ?_
  refine XD_end ?_
  refine K_then ?_
  refine C_pick (.cons (k := 4) rfl .nil) ?_
  refine C_ret ?_
  refine K_end (.inr rfl) (.tmp rfl .nil) (fun w hw => ?_)
  exact ⟨_, M, rfl, Mem.le.refl M, hw.cnt (by intro zz; first | exact Nat.le_refl _ | (simp only [cnt_app, cnt_cons, cnt_nil, cat, List.append_eq, List.append_assoc, List.cons_append, List.nil_append, List.append_nil]; omega)), rfl, congrArg Value.bool (by rw [pO_at hi]; simp)⟩

theorem owner_ok (M : Mem) (l : (Sl PeerV)) (x : Plc) (hl0 : SlK M PeerV.segs 21 l) (hc : IsCircle l.l) : Fs Tryd.prog 40 [Sl.val l, aggV [idSeg x]] M (fun v => v = Value.int .i64 (((ownerI l.l x : Nat) : Int))) := by
  obtain ⟨l_a, l_c, l_l⟩ := l
  have k_l : SlK M PeerV.segs 21 ⟨l_a, l_c, l_l⟩ := hl0
  have s_l : SlM M l_a (l_l.map PeerV.segs) 21 := k_l.h1
  have n_l : (l_l.map PeerV.segs).length = l_l.length := List.length_map ..
  have m_l : l_l.length ≤ 9223372036854775807 := k_l.h2
  have c_l : l_l.length ≤ l_c := k_l.h3
  have hc1 := hc.1
  simp only at hc1
  refine fs_enter Tryd.func40 rfl Tryd.ntmps40 rfl ?_; intro H
  refine C_seq ?_
  refine C_region (l := [0, 1, 2]) rfl ?_
  refine X_box rfl rfl rfl (by constructor) rfl ?_; intro b1
  refine X_box rfl rfl rfl (by constructor) rfl ?_; intro b2
  refine X_assign rfl rfl rfl rfl ?_
  refine XD_end ?_
  refine K_then ?_
  refine C_pick (.cons (k := 4) rfl (.cons (k := 3) rfl (.cons (k := 2) rfl .nil))) ?_
  refine C_seq ?_
  refine C_region_any (l := [0, 1, 2, 3, 4, 5, 6, 7]) #[0, 1, 0, 7, 0, 16, 63, 127] _ rfl (by kernel_rfl) (by kernel_rfl) St.drawn (fun _ h => h) ?_
  first | refine X_load rfl rfl rfl (by repeat first | exact List.Mem.head _ | refine List.Mem.tail _ ?_ | refine List.mem_append_right _ ?_) F.lay23 rfl rfl rfl ?_ | refine X_load_el rfl rfl rfl (by first | assumption | exact SlM.mono (by assumption) (by assumption)) (by first | exact row_map (by omega) | exact List.getElem?_eq_getElem (by omega) | exact rfl | exact row_map (by first | (simp; done) | (simp; omega))) F.lay23 rfl rfl rfl ?_ | refine X_load_rd rfl rfl rfl (by assumption) (by first | exact row_map (by omega) | exact List.getElem?_eq_getElem (by omega) | exact rfl | exact row_map (by first | (simp; done) | (simp; omega))) F.lay23 rfl rfl rfl ?_ | refine X_load_mem rfl rfl rfl (by first | assumption | exact Mem.get_of (by assumption) (by repeat first | assumption | refine Mem.le.trans (by assumption) ?_)) F.lay23 rfl rfl rfl ?_ | refine X_load_osl rfl rfl rfl (by assumption) (by repeat first | exact Rem.here _ | exact Rem.two | apply Rem.skip | apply Rem.over) (by first | exact row_map (by omega) | exact List.getElem?_eq_getElem (by omega) | exact rfl | exact row_map (by first | (simp; done) | (simp; omega))) F.lay23 rfl rfl rfl ?_ | refine X_load_cell rfl rfl rfl (by repeat first | exact List.Mem.head _ | refine List.Mem.tail _ ?_ | refine List.mem_append_right _ ?_) F.lay23 (by first | exact id_at (by first | omega | decide) | exact arr_at (by first | omega | decide)) rfl ?_
  refine X_len_sl rfl rfl rfl rfl F.elem23 rfl ?_
  refine X_makeFunc rfl rfl rfl rfl rfl ?_
  refine X_fo rfl rfl F.ok55 rfl (Search_ok _ _ 56 [_, _] (pO l_l x) l_l.length (by omega) F.ok56 (fun i hi => own1_ok M _ _ ⟨l_a, l_c, l_l⟩ x s_l i hi) (pO_mono hc.2)) (by repeat first | exact Rem.here _ | exact Rem.two | apply Rem.skip | apply Rem.over) (putE_some rfl) ?_
  rintro _ M1 _ ⟨hM1, rfl⟩; subst M1
  first | refine X_load rfl rfl rfl (by repeat first | exact List.Mem.head _ | refine List.Mem.tail _ ?_ | refine List.mem_append_right _ ?_) F.lay23 rfl rfl rfl ?_ | refine X_load_el rfl rfl rfl (by first | assumption | exact SlM.mono (by assumption) (by assumption)) (by first | exact row_map (by omega) | exact List.getElem?_eq_getElem (by omega) | exact rfl | exact row_map (by first | (simp; done) | (simp; omega))) F.lay23 rfl rfl rfl ?_ | refine X_load_rd rfl rfl rfl (by assumption) (by first | exact row_map (by omega) | exact List.getElem?_eq_getElem (by omega) | exact rfl | exact row_map (by first | (simp; done) | (simp; omega))) F.lay23 rfl rfl rfl ?_ | refine X_load_mem rfl rfl rfl (by first | assumption | exact Mem.get_of (by assumption) (by repeat first | assumption | refine Mem.le.trans (by assumption) ?_)) F.lay23 rfl rfl rfl ?_ | refine X_load_osl rfl rfl rfl (by assumption) (by repeat first | exact Rem.here _ | exact Rem.two | apply Rem.skip | apply Rem.over) (by first | exact row_map (by omega) | exact List.getElem?_eq_getElem (by omega) | exact rfl | exact row_map (by first | (simp; done) | (simp; omega))) F.lay23 rfl rfl rfl ?_ | refine X_load_cell rfl rfl rfl (by repeat first | exact List.Mem.head _ | refine List.Mem.tail _ ?_ | refine List.mem_append_right _ ?_) F.lay23 (by first | exact id_at (by first | omega | decide) | exact arr_at (by first | omega | decide)) rfl ?_
  refine X_len_sl rfl rfl rfl rfl F.elem23 rfl ?_
  refine X_rem rfl rfl rfl rfl (by first | decide | omega) (by first | exact rem_nn (by omega) | rfl) rfl ?_
  refine X_assign rfl rfl rfl rfl ?_
  refine XD_end ?_
  refine K_then ?_
  refine C_pick (.cons (k := 4) rfl .nil) ?_
  refine C_ret ?_
  refine K_end (.inr rfl) (.tmp rfl .nil) (fun w hw => ?_)
  refine ⟨_, rfl, (hw.cnt (by intro zz; first | exact Nat.le_refl _ | (simp only [cnt_app, cnt_cons, cnt_nil, cat, List.append_eq, List.append_assoc, List.cons_append, List.nil_append, List.append_nil]; omega) | (simp only [cnt_app, cnt_cons, cnt_nil, cat, List.append_eq, List.append_assoc, List.cons_append, List.nil_append, List.append_nil, PeerV.segs]; omega))), ?_⟩
  clear hw
  exact congrArg (Value.int .i64) (Int.natCast_emod _ _).symm

theorem Owner_ok (M : Mem) (l : (Sl PeerV)) (x : Plc) (hl0 : SlK M PeerV.segs 21 l) : Fs Tryd.prog 14 [Sl.val l, aggV [idSeg x]] M (fun v => v = ofII (ownerR l.l x)) := by
  obtain ⟨l_a, l_c, l_l⟩ := l
  have k_l : SlK M PeerV.segs 21 ⟨l_a, l_c, l_l⟩ := hl0
  have s_l : SlM M l_a (l_l.map PeerV.segs) 21 := k_l.h1
  have n_l : (l_l.map PeerV.segs).length = l_l.length := List.length_map ..
  have m_l : l_l.length ≤ 9223372036854775807 := k_l.h2
  have c_l : l_l.length ≤ l_c := k_l.h3
  refine fs_enter Tryd.func14 rfl Tryd.ntmps14 rfl ?_; intro H
  refine C_seq ?_
  refine C_region (l := [0, 1, 2]) rfl ?_
  refine X_box rfl rfl rfl (by constructor) rfl ?_; intro b1
  refine X_assign rfl rfl rfl rfl ?_
  refine X_assign rfl rfl rfl rfl ?_
  refine XD_end ?_
  refine K_then ?_
  refine C_pick (.cons (k := 5) rfl (.cons (k := 4) rfl (.cons (k := 3) rfl (.cons (k := 0) rfl .nil)))) ?_
  refine C_seq ?_
  refine C_seq ?_
  refine C_region (l := [0, 1, 2]) rfl ?_
  refine X_move rfl rfl rfl rfl ?_
  refine X_fs rfl rfl F.ok12 rfl (Circ_ok _ ⟨_, _, _⟩ (by first | assumption | omega | exact SlK.mono (by assumption) (by assumption) | exact SlM.mono (by assumption) (by assumption) | exact SlM.mono (by assumption) (by repeat first | assumption | refine Mem.le.trans (by assumption) ?_))) rfl ?_
  rintro _ rfl
  refine X_not rfl rfl rfl rfl ?_
  refine XD_end ?_
  refine K_then ?_
  refine C_pick (.cons (k := 8) rfl (.cons (k := 5) rfl (.cons (k := 4) rfl (.cons (k := 3) rfl (.cons (k := 0) rfl .nil))))) ?_
  refine C_cond rfl (fun hc2 => ?_) (fun hc2 => ?_)
  · first | replace hc2 := dT hc2 | replace hc2 := dF hc2 | replace hc2 := nT hc2 | replace hc2 := nF hc2 | skip
    try simp only [PeerV.eta] at hc2
    first
    | (exfalso; omega)
    | (exfalso; simp [eqX] at hc2; done)
    | contradiction
    | skip
      refine C_seq ?_
      refine C_region (l := [0, 1]) rfl ?_
      refine X_assign rfl rfl rfl rfl ?_
      refine X_assign rfl rfl rfl rfl ?_
      refine XD_end ?_
      refine K_then ?_
      refine C_pick (.cons (k := 5) rfl (.cons (k := 4) rfl (.cons (k := 3) rfl (.cons (k := 0) rfl .nil)))) ?_
      refine C_ret ?_
      refine K_ret ?_
      refine K_end (.inr rfl) (.tmp rfl (.tmp rfl .nil)) (fun w hw => ?_)
      refine ⟨_, rfl, (hw.cnt (by intro zz; first | exact Nat.le_refl _ | (simp only [cnt_app, cnt_cons, cnt_nil, cat, List.append_eq, List.append_assoc, List.cons_append, List.nil_append, List.append_nil]; omega) | (simp only [cnt_app, cnt_cons, cnt_nil, cat, List.append_eq, List.append_assoc, List.cons_append, List.nil_append, List.append_nil, PeerV.segs]; omega))), ?_⟩
      clear hw
      refine congrArg ofII (a₁ := (_, _)) ?_
      first | rfl | grind [w64, ownerR]
  · first | replace hc2 := dT hc2 | replace hc2 := dF hc2 | replace hc2 := nT hc2 | replace hc2 := nF hc2 | skip
    try simp only [PeerV.eta] at hc2
    first
    | (exfalso; omega)
    | (exfalso; simp [eqX] at hc2; done)
    | contradiction
    | skip
      refine C_skip ?_
      refine K_then ?_
      refine C_pick (.cons (k := 5) rfl (.cons (k := 4) rfl (.cons (k := 3) rfl (.cons (k := 0) rfl .nil)))) ?_
      refine C_seq ?_
      refine C_region (l := [0, 1, 2, 3, 4]) rfl ?_
      refine X_move rfl rfl rfl rfl ?_
      first | refine X_load rfl rfl rfl (by repeat first | exact List.Mem.head _ | refine List.Mem.tail _ ?_ | refine List.mem_append_right _ ?_) F.lay32 rfl rfl rfl ?_ | refine X_load_el rfl rfl rfl (by first | assumption | exact SlM.mono (by assumption) (by assumption)) (by first | exact row_map (by omega) | exact List.getElem?_eq_getElem (by omega) | exact rfl | exact row_map (by first | (simp; done) | (simp; omega))) F.lay32 rfl rfl rfl ?_ | refine X_load_rd rfl rfl rfl (by assumption) (by first | exact row_map (by omega) | exact List.getElem?_eq_getElem (by omega) | exact rfl | exact row_map (by first | (simp; done) | (simp; omega))) F.lay32 rfl rfl rfl ?_ | refine X_load_mem rfl rfl rfl (by first | assumption | exact Mem.get_of (by assumption) (by repeat first | assumption | refine Mem.le.trans (by assumption) ?_)) F.lay32 rfl rfl rfl ?_ | refine X_load_osl rfl rfl rfl (by assumption) (by repeat first | exact Rem.here _ | exact Rem.two | apply Rem.skip | apply Rem.over) (by first | exact row_map (by omega) | exact List.getElem?_eq_getElem (by omega) | exact rfl | exact row_map (by first | (simp; done) | (simp; omega))) F.lay32 rfl rfl rfl ?_
      refine X_fs rfl rfl F.ok40 rfl (owner_ok _ ⟨_, _, _⟩ _ (by first | assumption | omega | exact SlK.mono (by assumption) (by assumption) | exact SlM.mono (by assumption) (by assumption) | exact SlM.mono (by assumption) (by repeat first | assumption | refine Mem.le.trans (by assumption) ?_)) (by first | assumption | grind)) rfl ?_
      rintro _ rfl
      refine X_assign rfl rfl rfl rfl ?_
      refine X_assign rfl rfl rfl rfl ?_
      refine XD_end ?_
      refine K_then ?_
      refine C_pick (.cons (k := 5) rfl (.cons (k := 4) rfl .nil)) ?_
      refine C_ret ?_
      refine K_end (.inr rfl) (.tmp rfl (.tmp rfl .nil)) (fun w hw => ?_)
      refine ⟨_, rfl, (hw.cnt (by intro zz; first | exact Nat.le_refl _ | (simp only [cnt_app, cnt_cons, cnt_nil, cat, List.append_eq, List.append_assoc, List.cons_append, List.nil_append, List.append_nil]; omega) | (simp only [cnt_app, cnt_cons, cnt_nil, cat, List.append_eq, List.append_assoc, List.cons_append, List.nil_append, List.append_nil, PeerV.segs]; omega))), ?_⟩
      clear hw
      refine congrArg ofII (a₁ := (_, _)) ?_
      first | rfl | grind [w64, ownerR]

theorem rOwner_ok (M : Mem) (l : (Sl PeerV)) (x : Plc) (hl0 : SlK M PeerV.segs 21 l) : Fs Tryd.prog 18 [Sl.val l, aggV [idSeg x]] M (fun v => v = ofII (ownerR l.l x)) := by
  obtain ⟨l_a, l_c, l_l⟩ := l
  have k_l : SlK M PeerV.segs 21 ⟨l_a, l_c, l_l⟩ := hl0
  have s_l : SlM M l_a (l_l.map PeerV.segs) 21 := k_l.h1
  have n_l : (l_l.map PeerV.segs).length = l_l.length := List.length_map ..
  have m_l : l_l.length ≤ 9223372036854775807 := k_l.h2
  have c_l : l_l.length ≤ l_c := k_l.h3
  refine fs_enter Tryd.func18 rfl Tryd.ntmps18 rfl ?_; intro H
  refine C_seq ?_
  refine C_region (l := [0, 1, 2]) rfl ?_
  refine X_box rfl rfl rfl (by constructor) rfl ?_; intro b1
  refine X_assign rfl rfl rfl rfl ?_
  refine X_assign rfl rfl rfl rfl ?_
  refine XD_end ?_
  refine K_then ?_
  refine C_pick (.cons (k := 5) rfl (.cons (k := 4) rfl (.cons (k := 3) rfl (.cons (k := 0) rfl .nil)))) ?_
  refine C_seq ?_
  refine C_seq ?_
  refine C_region (l := [0, 1, 2]) rfl ?_
  refine X_move rfl rfl rfl rfl ?_
  refine X_fs rfl rfl F.ok13 rfl (rCirc_ok _ ⟨_, _, _⟩ (by first | assumption | omega | exact SlK.mono (by assumption) (by assumption) | exact SlM.mono (by assumption) (by assumption) | exact SlM.mono (by assumption) (by repeat first | assumption | refine Mem.le.trans (by assumption) ?_))) rfl ?_
  rintro _ rfl
  refine X_not rfl rfl rfl rfl ?_
  refine XD_end ?_
  refine K_then ?_
  refine C_pick (.cons (k := 9) rfl (.cons (k := 5) rfl (.cons (k := 4) rfl (.cons (k := 3) rfl (.cons (k := 0) rfl .nil))))) ?_
  refine C_cond rfl (fun hc2 => ?_) (fun hc2 => ?_)
  · first | replace hc2 := dT hc2 | replace hc2 := dF hc2 | replace hc2 := nT hc2 | replace hc2 := nF hc2 | skip
    try simp only [PeerV.eta] at hc2
    first
    | (exfalso; omega)
    | (exfalso; simp [eqX] at hc2; done)
    | contradiction
    | skip
      refine C_seq ?_
      refine C_region (l := [0, 1]) rfl ?_
      refine X_assign rfl rfl rfl rfl ?_
      refine X_assign rfl rfl rfl rfl ?_
      refine XD_end ?_
      refine K_then ?_
      refine C_pick (.cons (k := 5) rfl (.cons (k := 4) rfl (.cons (k := 3) rfl (.cons (k := 0) rfl .nil)))) ?_
      refine C_ret ?_
      refine K_ret ?_
      refine K_end (.inr rfl) (.tmp rfl (.tmp rfl .nil)) (fun w hw => ?_)
      refine ⟨_, rfl, (hw.cnt (by intro zz; first | exact Nat.le_refl _ | (simp only [cnt_app, cnt_cons, cnt_nil, cat, List.append_eq, List.append_assoc, List.cons_append, List.nil_append, List.append_nil]; omega) | (simp only [cnt_app, cnt_cons, cnt_nil, cat, List.append_eq, List.append_assoc, List.cons_append, List.nil_append, List.append_nil, PeerV.segs]; omega))), ?_⟩
      clear hw
      refine congrArg ofII (a₁ := (_, _)) ?_
      first | (have h9 := ownerI_at (l := l_l) (x := x) (k := k) (by omega) hI.2 (by rw [pO_at (by omega)]; simp_all); grind [ownerR]) | (have hk9 : k = l_l.length := (by omega); subst hk9; have h9 := ownerI_none hI.2; grind [ownerR]) | grind [ownerR]
  · first | replace hc2 := dT hc2 | replace hc2 := dF hc2 | replace hc2 := nT hc2 | replace hc2 := nF hc2 | skip
    try simp only [PeerV.eta] at hc2
    first
    | (exfalso; omega)
    | (exfalso; simp [eqX] at hc2; done)
    | contradiction
    | skip
      refine C_skip ?_
      refine K_then ?_
      refine C_pick (.cons (k := 5) rfl (.cons (k := 4) rfl (.cons (k := 3) rfl (.cons (k := 0) rfl .nil)))) ?_
      refine C_seq ?_
      refine C_seq ?_
      refine C_region (l := [0]) rfl ?_
      refine X_assign rfl rfl rfl rfl ?_
      refine XD_end ?_
      refine K_then ?_
      refine C_block ?_
      refine C_pick (.cons (k := 6) rfl (.cons (k := 5) rfl (.cons (k := 4) rfl (.cons (k := 3) rfl (.cons (k := 0) rfl .nil))))) ?_
      refine C_loopS (.succ .zero) (fun (k : Nat) z => z = [(6, .int .i64 (k : Int))] ∧ k ≤ l_l.length ∧ (IsCircle l_l ∧ ∀ j, j < k → pO l_l x j = false)) (fun k => l_l.length - k) (0) (⟨rfl, by omega, by (refine ⟨by assumption, ?_⟩; intro j hj; omega)⟩) ?_
      rintro k _ ⟨rfl, hk, hI⟩
      refine C_seq ?_
      refine C_seq ?_
      refine C_region (l := [0, 1, 2, 3]) rfl ?_
      refine X_move rfl rfl rfl rfl ?_
      refine X_move rfl rfl rfl rfl ?_
      refine X_len_sl rfl rfl rfl rfl F.elem23 rfl ?_
      refine X_cmp rfl rfl rfl rfl rfl rfl ?_
      refine XD_end ?_
      refine K_then ?_
      refine C_cond rfl (fun hc3 => ?_) (fun hc3 => ?_)
      · first | replace hc3 := dT hc3 | replace hc3 := dF hc3 | replace hc3 := nT hc3 | replace hc3 := nF hc3 | skip
        try simp only [PeerV.eta] at hc3
        first
        | (exfalso; omega)
        | (exfalso; simp [eqX] at hc3; done)
        | contradiction
        | skip
          refine C_skip ?_
          refine K_then ?_
          refine C_seq ?_
          refine C_block ?_
          refine C_seq ?_
          refine C_region_any (l := [0, 1, 2, 3, 4, 5, 6, 7]) #[0, 0, 3, 7, 15, 0, 63, 127] _ rfl (by kernel_rfl) (by kernel_rfl) St.drawn (fun _ h => h) ?_
          refine X_move rfl rfl rfl rfl ?_
          refine X_move rfl rfl rfl rfl ?_
          refine X_indexAddr rfl rfl rfl rfl F.elem23 (by first | rfl | exact (Int.toNat_of_nonneg (by omega)).symm) (by first | omega | (simp; done) | (simp; omega)) (by first | exact ⟨_, _, rfl⟩ | assumption | exact SlM.plain (by assumption) (by first | (simp; done) | (simp; omega)) | exact RdS.plain (by assumption) (by first | (simp; done) | (simp; omega)) | exact OSl.plain (by assumption) (by first | (simp; done) | (simp; omega))) rfl ?_
          first | refine X_fieldAddr rfl rfl rfl F.foff38_1 rfl ?_ | refine X_fieldAddr_el rfl rfl rfl (by first | exact ⟨_, _, rfl⟩ | assumption | exact SlM.plain (by assumption) (by first | (simp; done) | (simp; omega)) | exact RdS.plain (by assumption) (by first | (simp; done) | (simp; omega)) | exact OSl.plain (by assumption) (by first | (simp; done) | (simp; omega))) F.foff38_1 rfl ?_
          first | refine X_load rfl rfl rfl (by repeat first | exact List.Mem.head _ | refine List.Mem.tail _ ?_ | refine List.mem_append_right _ ?_) F.lay32 rfl rfl rfl ?_ | refine X_load_el rfl rfl rfl (by first | assumption | exact SlM.mono (by assumption) (by assumption)) (by first | exact row_map (by omega) | exact List.getElem?_eq_getElem (by omega) | exact rfl | exact row_map (by first | (simp; done) | (simp; omega))) F.lay32 rfl rfl rfl ?_ | refine X_load_rd rfl rfl rfl (by assumption) (by first | exact row_map (by omega) | exact List.getElem?_eq_getElem (by omega) | exact rfl | exact row_map (by first | (simp; done) | (simp; omega))) F.lay32 rfl rfl rfl ?_ | refine X_load_mem rfl rfl rfl (by first | assumption | exact Mem.get_of (by assumption) (by repeat first | assumption | refine Mem.le.trans (by assumption) ?_)) F.lay32 rfl rfl rfl ?_ | refine X_load_osl rfl rfl rfl (by assumption) (by repeat first | exact Rem.here _ | exact Rem.two | apply Rem.skip | apply Rem.over) (by first | exact row_map (by omega) | exact List.getElem?_eq_getElem (by omega) | exact rfl | exact row_map (by first | (simp; done) | (simp; omega))) F.lay32 rfl rfl rfl ?_
          first | refine X_load rfl rfl rfl (by repeat first | exact List.Mem.head _ | refine List.Mem.tail _ ?_ | refine List.mem_append_right _ ?_) F.lay32 rfl rfl rfl ?_ | refine X_load_el rfl rfl rfl (by first | assumption | exact SlM.mono (by assumption) (by assumption)) (by first | exact row_map (by omega) | exact List.getElem?_eq_getElem (by omega) | exact rfl | exact row_map (by first | (simp; done) | (simp; omega))) F.lay32 rfl rfl rfl ?_ | refine X_load_rd rfl rfl rfl (by assumption) (by first | exact row_map (by omega) | exact List.getElem?_eq_getElem (by omega) | exact rfl | exact row_map (by first | (simp; done) | (simp; omega))) F.lay32 rfl rfl rfl ?_ | refine X_load_mem rfl rfl rfl (by first | assumption | exact Mem.get_of (by assumption) (by repeat first | assumption | refine Mem.le.trans (by assumption) ?_)) F.lay32 rfl rfl rfl ?_ | refine X_load_osl rfl rfl rfl (by assumption) (by repeat first | exact Rem.here _ | exact Rem.two | apply Rem.skip | apply Rem.over) (by first | exact row_map (by omega) | exact List.getElem?_eq_getElem (by omega) | exact rfl | exact row_map (by first | (simp; done) | (simp; omega))) F.lay32 rfl rfl rfl ?_
          refine X_fs rfl rfl F.ok35 rfl (rLess_ok _ _ _) rfl ?_
          rintro _ rfl
          refine X_not rfl rfl rfl rfl ?_
          refine XD_end ?_
          refine K_then ?_
          refine C_cond rfl (fun hc4 => ?_) (fun hc4 => ?_)
          · first | replace hc4 := dT hc4 | replace hc4 := dF hc4 | replace hc4 := nT hc4 | replace hc4 := nF hc4 | skip
            try simp only [PeerV.eta] at hc4
            first
            | (exfalso; omega)
            | (exfalso; simp [eqX] at hc4; done)
            | contradiction
            | skip
              refine C_seq ?_
              refine C_region (l := [0, 1, 2]) rfl ?_
              refine X_move rfl rfl rfl rfl ?_
              refine X_assign rfl rfl rfl rfl ?_
              refine X_assign rfl rfl rfl rfl ?_
              refine XD_end ?_
              refine K_then ?_
              refine C_ret ?_
              refine K_retB ?_
              refine K_ret ?_
              refine K_ret ?_
              refine K_retB ?_
              refine K_ret ?_
              refine K_end (.inr rfl) (.tmp rfl (.tmp rfl .nil)) (fun w hw => ?_)
              refine ⟨_, rfl, (hw.cnt (by intro zz; first | exact Nat.le_refl _ | (simp only [cnt_app, cnt_cons, cnt_nil, cat, List.append_eq, List.append_assoc, List.cons_append, List.nil_append, List.append_nil]; omega) | (simp only [cnt_app, cnt_cons, cnt_nil, cat, List.append_eq, List.append_assoc, List.cons_append, List.nil_append, List.append_nil, PeerV.segs]; omega))), ?_⟩
              clear hw
              refine congrArg ofII (a₁ := (_, _)) ?_
              first | (have h9 := ownerI_at (l := l_l) (x := x) (k := k) (by omega) hI.2 (by rw [pO_at (by omega)]; simp_all); grind [ownerR]) | (have hk9 : k = l_l.length := (by omega); subst hk9; have h9 := ownerI_none hI.2; grind [ownerR]) | grind [ownerR]
          · first | replace hc4 := dT hc4 | replace hc4 := dF hc4 | replace hc4 := nT hc4 | replace hc4 := nF hc4 | skip
            try simp only [PeerV.eta] at hc4
            first
            | (exfalso; omega)
            | (exfalso; simp [eqX] at hc4; done)
            | contradiction
            | skip
              refine C_skip ?_
              refine K_out ?_
              refine K_then ?_
              refine C_region (l := [0, 1, 2]) rfl ?_
              refine X_move rfl rfl rfl rfl ?_
              refine X_ari rfl rfl rfl rfl rfl (by first | exact wrap_in (by decide) (by omega) | exact wrap_u64_in (by decide) (by omega) | exact wrap_u8_in (by decide) (by omega) | exact wrap_u32_in (by decide) (by omega) | exact wrap_u64 _ | exact wrap_u8 _ | exact wrap_u32 _ | exact rfl) rfl ?_
              refine X_assign rfl rfl rfl rfl ?_
              refine XD_end ?_
              refine K_roundS (a' := [(6, _)]) (k + 1) (.cons (k := 6) rfl (.cons (k := 5) rfl (.cons (k := 4) rfl (.cons (k := 3) rfl (.cons (k := 0) rfl (.nil)))))) (fun w hw => by first | exact hw | exact hw.cnt (by intro zz; first | exact Nat.le_refl _ | (simp only [cnt_app, cnt_cons, cnt_nil, cat, List.append_eq, List.append_assoc, List.cons_append, List.nil_append, List.append_nil]; omega) | (simp only [cnt_app, cnt_cons, cnt_nil, cat, List.append_eq, List.append_assoc, List.cons_append, List.nil_append, List.append_nil, PeerV.segs]; omega))) ?_ ?_
              · refine ⟨rfl, by omega, ?_⟩
                refine ⟨hI.1, ?_⟩; intro j hj; rcases Nat.lt_or_ge j k with h9 | h9; exact hI.2 j h9; obtain rfl : j = k := by omega
                rw [pO_at (by omega)]; simp_all
              · omega
      · first | replace hc3 := dT hc3 | replace hc3 := dF hc3 | replace hc3 := nT hc3 | replace hc3 := nF hc3 | skip
        try simp only [PeerV.eta] at hc3
        first
        | (exfalso; omega)
        | (exfalso; simp [eqX] at hc3; done)
        | contradiction
        | skip
          refine C_exit ?_
          refine K_exit ?_
          refine K_exit ?_
          refine K_hit ?_
          refine K_then ?_
          refine C_pick (.cons (k := 5) rfl (.cons (k := 4) rfl .nil)) ?_
          refine C_seq ?_
          refine C_region (l := [0, 1]) rfl ?_
          refine X_assign rfl rfl rfl rfl ?_
          refine X_assign rfl rfl rfl rfl ?_
          refine XD_end ?_
          refine K_then ?_
          refine C_ret ?_
          refine K_end (.inr rfl) (.tmp rfl (.tmp rfl .nil)) (fun w hw => ?_)
          refine ⟨_, rfl, (hw.cnt (by intro zz; first | exact Nat.le_refl _ | (simp only [cnt_app, cnt_cons, cnt_nil, cat, List.append_eq, List.append_assoc, List.cons_append, List.nil_append, List.append_nil]; omega) | (simp only [cnt_app, cnt_cons, cnt_nil, cat, List.append_eq, List.append_assoc, List.cons_append, List.nil_append, List.append_nil, PeerV.segs]; omega))), ?_⟩
          clear hw
          refine congrArg ofII (a₁ := (_, _)) ?_
          first | (have h9 := ownerI_at (l := l_l) (x := x) (k := k) (by omega) hI.2 (by rw [pO_at (by omega)]; simp_all); grind [ownerR]) | (have hk9 : k = l_l.length := (by omega); subst hk9; have h9 := ownerI_none hI.2; grind [ownerR]) | grind [ownerR]

end Go.Proofs.YtbafnjniijodfaaDoor
