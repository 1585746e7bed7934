/-
  The walks of a bag: what lies where, and cutting out of a row.
-/
import Derived.Test.YtenamdnnmdilgaaBag1
set_option linter.unusedSimpArgs false
set_option linter.unusedVariables false
set_option linter.unnecessarySimpa false
namespace Go.Proofs.Ytenamdnnmdilgaa
open Go.Esp
theorem F.bld28 : Bld Try.prog 28 [[.one (.int .i64 0)], [.one (.int .i64 0)], [.one (.string ⟨#[]⟩)]] := ⟨by kernel_rfl, by kernel_rfl⟩
theorem F.zero28 : zeroOf Try.prog 28 = some (aggV [.one (.int .i64 0), .one (.int .i64 0), .one (.string ⟨#[]⟩)]) := by kernel_rfl

theorem At_ok (M : Mem) (b : Nat) (most N : Int) (l : List Mail) (Hb : Hp) (i : Int) (hb : BagIs b most N l Hb) : Fo Try.prog 12 [.pointer (some ⟨b, 0, none⟩), .int .i64 i] M Hb (fun M' v => M' = M ∧ v = .tuple #[(atM i l).val, .int .i64 (atC i l)]) := by
  obtain ⟨next, mb, rv, o, hs, ids, im, rfl, ho, hm, hin, hn0, hnN, hl1, hl2⟩ := hb
  obtain ⟨ad, cp, rfl⟩ := ho.val
  have hil : (ids.map oneI).length = l.length := by simp [hin.len]
  have hil2 : ids.length = l.length := hin.len
  have hget := fun z k hk => Inner.at hin z k hk
  refine fo_enterF (fun H => (b, rowO [.one (.int .i64 most), Seg.one (.int .i64 next), .one _, .one (.map (some mb))] 54) :: (mb, o) :: (hs ++ H)) (fun _ => rfl) Try.func12 rfl Try.ntmps12 rfl ?_; intro H
  refine C_seq ?_
  refine C_region (l := [0, 1]) rfl ?_
  refine X_alloc rfl rfl F.zero28 (by constructor) rfl ?_; intro b1
  refine X_assign rfl rfl rfl rfl ?_
  refine XD_end ?_
  refine K_then ?_
  refine C_seq ?_
  refine C_block ?_
  refine C_seq ?_
  refine C_region (l := [0, 1, 2]) rfl ?_
  refine X_move rfl rfl rfl rfl ?_
  refine X_nil rfl rfl rfl rfl Try.underlying23 rfl rfl ?_
  refine X_assign rfl rfl rfl rfl ?_
  refine XD_end ?_
  refine K_then ?_
  refine C_pick (.cons (k := 6) rfl (.cons (k := 5) rfl (.cons (k := 4) rfl (.cons (k := 0) rfl (.cons (k := 1) rfl .nil))))) ?_
  refine C_cond rfl (fun hc2 => ?_) (fun hc2 => ?_)
  · first | replace hc2 := dT hc2 | replace hc2 := dF hc2 | replace hc2 := nT hc2 | replace hc2 := nF hc2 | skip
    first
    | (exfalso; omega)
    | (exfalso; simp [eqX] at hc2; done)
    | skip
      refine C_seq ?_
      refine C_region (l := [0, 1, 2]) rfl ?_
      refine X_build rfl rfl F.bld28 (.nil) rfl rfl ?_
      refine X_store rfl rfl rfl rfl (by constructor) (by first | exact Mail.flat _ | (simp [flat, cat, Segs.cells, Seg.cells, Value.oneCell']; done)) (by repeat first | exact Upd.head | apply Upd.tail | apply Upd.over) F.lay28 rfl rfl ?_
      refine X_assign rfl rfl rfl rfl ?_
      refine XD_end ?_
      refine K_then ?_
      refine C_pick (.cons (k := 5) rfl (.cons (k := 4) rfl (.cons (k := 0) rfl (.cons (k := 1) rfl .nil)))) ?_
      refine C_ret ?_
      refine K_retB ?_
      refine K_ret ?_
      refine K_end (.inr rfl) (.cell rfl (by repeat first | exact List.Mem.head _ | refine List.Mem.tail _ ?_ | refine List.mem_append_right _ ?_) F.lay28 rfl rfl (.tmp rfl .nil)) (fun w hw => ?_)
      first
      | (have hp := at_none i l (by omega); exact ⟨_, M, rfl, Mem.le.refl M, hw.cnt (by intro zz; first | exact Nat.le_refl _ | (simp only [cnt_app, cnt_cons, cnt_nil, cat, List.append_eq, List.append_assoc, List.cons_append, List.nil_append, List.append_nil]; omega)), rfl, by rw [hp.1, hp.2]; rfl⟩)
      | (have hp := at_ok i l (by omega) (by omega); exact ⟨_, M, rfl, Mem.le.refl M, hw.cnt (by intro zz; first | exact Nat.le_refl _ | (simp only [cnt_app, cnt_cons, cnt_nil, cat, List.append_eq, List.append_assoc, List.cons_append, List.nil_append, List.append_nil]; omega)), rfl, by rw [hp.1, hp.2]; rfl⟩)
  · first | replace hc2 := dT hc2 | replace hc2 := dF hc2 | replace hc2 := nT hc2 | replace hc2 := nF hc2 | skip
    first
    | (exfalso; omega)
    | (exfalso; simp [eqX] at hc2; done)
    | skip
      refine C_seq ?_
      refine C_region (l := [0, 1, 2, 3, 4, 5, 6, 7, 8, 9, 10, 11]) rfl ?_
      refine X_move rfl rfl rfl rfl ?_
      refine X_cmp rfl rfl rfl rfl rfl rfl ?_
      refine X_move rfl rfl rfl rfl ?_
      refine XD_part 13 rfl (fun hc3 => ?_) (fun hc3 => ?_)
      · first | replace hc3 := dT hc3 | replace hc3 := dF hc3 | replace hc3 := nT hc3 | replace hc3 := nF hc3 | skip
        first
        | (exfalso; omega)
        | (exfalso; simp [eqX] at hc3; done)
        | skip
          refine X_skip rfl rfl rfl ?_
          refine X_skip rfl rfl rfl ?_
          refine X_skip rfl rfl rfl ?_
          refine X_skip rfl rfl rfl ?_
          refine X_skip rfl rfl rfl ?_
          refine X_skip rfl rfl rfl ?_
          refine X_skip rfl rfl rfl ?_
          refine X_pick rfl rfl rfl rfl rfl ?_
          refine X_assign rfl rfl rfl rfl ?_
          refine XD_end ?_
          refine K_then ?_
          refine C_pick (.cons (k := 10) rfl (.cons (k := 5) rfl (.cons (k := 4) rfl (.cons (k := 0) rfl (.cons (k := 1) rfl .nil))))) ?_
          refine C_true rfl ?_
          refine C_seq ?_
          refine C_region (l := [0, 1, 2]) rfl ?_
          refine X_build rfl rfl F.bld28 (.nil) rfl rfl ?_
          refine X_store rfl rfl rfl rfl (by constructor) (by first | exact Mail.flat _ | (simp [flat, cat, Segs.cells, Seg.cells, Value.oneCell']; done)) (by repeat first | exact Upd.head | apply Upd.tail | apply Upd.over) F.lay28 rfl rfl ?_
          refine X_assign rfl rfl rfl rfl ?_
          refine XD_end ?_
          refine K_then ?_
          refine C_pick (.cons (k := 5) rfl (.cons (k := 4) rfl (.cons (k := 0) rfl (.cons (k := 1) rfl .nil)))) ?_
          refine C_ret ?_
          refine K_retB ?_
          refine K_ret ?_
          refine K_end (.inr rfl) (.cell rfl (by repeat first | exact List.Mem.head _ | refine List.Mem.tail _ ?_ | refine List.mem_append_right _ ?_) F.lay28 rfl rfl (.tmp rfl .nil)) (fun w hw => ?_)
          first
          | (have hp := at_none i l (by omega); exact ⟨_, M, rfl, Mem.le.refl M, hw.cnt (by intro zz; first | exact Nat.le_refl _ | (simp only [cnt_app, cnt_cons, cnt_nil, cat, List.append_eq, List.append_assoc, List.cons_append, List.nil_append, List.append_nil]; omega)), rfl, by rw [hp.1, hp.2]; rfl⟩)
          | (have hp := at_ok i l (by omega) (by omega); exact ⟨_, M, rfl, Mem.le.refl M, hw.cnt (by intro zz; first | exact Nat.le_refl _ | (simp only [cnt_app, cnt_cons, cnt_nil, cat, List.append_eq, List.append_assoc, List.cons_append, List.nil_append, List.append_nil]; omega)), rfl, by rw [hp.1, hp.2]; rfl⟩)
      · first | replace hc3 := dT hc3 | replace hc3 := dF hc3 | replace hc3 := nT hc3 | replace hc3 := nF hc3 | skip
        first
        | (exfalso; omega)
        | (exfalso; simp [eqX] at hc3; done)
        | skip
          refine X_move rfl rfl rfl rfl ?_
          refine X_move rfl rfl rfl rfl ?_
          refine X_nilCheck rfl rfl rfl rfl ?_
          first | refine X_fieldAddr rfl rfl rfl F.foff54_2 rfl ?_ | refine X_fieldAddr_el rfl rfl rfl (by first | exact ⟨_, _, rfl⟩ | assumption | exact SlM.plain (by assumption) (by simp; omega) | exact RdS.plain (by assumption) (by simp; omega) | exact OSl.plain (by assumption) (by simp; omega)) F.foff54_2 rfl ?_
          first | refine X_load rfl rfl rfl (by repeat first | exact List.Mem.head _ | refine List.Mem.tail _ ?_ | refine List.mem_append_right _ ?_) F.lay47 rfl rfl rfl ?_ | refine X_load_el rfl rfl rfl (by first | assumption | exact SlM.mono (by assumption) (by assumption)) (by first | exact row_map (by omega) | exact List.getElem?_eq_getElem (by omega)) F.lay47 rfl rfl rfl ?_ | refine X_load_rd rfl rfl rfl (by assumption) (by first | exact row_map (by omega) | exact List.getElem?_eq_getElem (by omega)) F.lay47 rfl rfl rfl ?_ | refine X_load_mem rfl rfl rfl (by first | assumption | exact Mem.get_of (by assumption) (by repeat first | assumption | refine Mem.le.trans (by assumption) ?_)) F.lay47 rfl rfl rfl ?_ | refine X_load_osl rfl rfl rfl (by assumption) (by repeat first | exact Rem.here _ | exact Rem.two | apply Rem.skip | apply Rem.over) (by first | exact row_map (by omega) | exact List.getElem?_eq_getElem (by omega)) F.lay47 rfl rfl rfl ?_
          refine X_len_sl rfl rfl rfl rfl F.elem47 rfl ?_
          refine X_cmp rfl rfl rfl rfl rfl rfl ?_
          refine X_pick rfl rfl rfl rfl rfl ?_
          refine X_assign rfl rfl rfl rfl ?_
          refine XD_end ?_
          refine K_then ?_
          refine C_pick (.cons (k := 10) rfl (.cons (k := 5) rfl (.cons (k := 4) rfl (.cons (k := 0) rfl (.cons (k := 1) rfl .nil))))) ?_
          refine C_cond rfl (fun hc4 => ?_) (fun hc4 => ?_)
          · first | replace hc4 := dT hc4 | replace hc4 := dF hc4 | replace hc4 := nT hc4 | replace hc4 := nF hc4 | skip
            first
            | (exfalso; omega)
            | (exfalso; simp [eqX] at hc4; done)
            | skip
              refine C_seq ?_
              refine C_region (l := [0, 1, 2]) rfl ?_
              refine X_build rfl rfl F.bld28 (.nil) rfl rfl ?_
              refine X_store rfl rfl rfl rfl (by constructor) (by first | exact Mail.flat _ | (simp [flat, cat, Segs.cells, Seg.cells, Value.oneCell']; done)) (by repeat first | exact Upd.head | apply Upd.tail | apply Upd.over) F.lay28 rfl rfl ?_
              refine X_assign rfl rfl rfl rfl ?_
              refine XD_end ?_
              refine K_then ?_
              refine C_pick (.cons (k := 5) rfl (.cons (k := 4) rfl (.cons (k := 0) rfl (.cons (k := 1) rfl .nil)))) ?_
              refine C_ret ?_
              refine K_retB ?_
              refine K_ret ?_
              refine K_end (.inr rfl) (.cell rfl (by repeat first | exact List.Mem.head _ | refine List.Mem.tail _ ?_ | refine List.mem_append_right _ ?_) F.lay28 rfl rfl (.tmp rfl .nil)) (fun w hw => ?_)
              first
              | (have hp := at_none i l (by omega); exact ⟨_, M, rfl, Mem.le.refl M, hw.cnt (by intro zz; first | exact Nat.le_refl _ | (simp only [cnt_app, cnt_cons, cnt_nil, cat, List.append_eq, List.append_assoc, List.cons_append, List.nil_append, List.append_nil]; omega)), rfl, by rw [hp.1, hp.2]; rfl⟩)
              | (have hp := at_ok i l (by omega) (by omega); exact ⟨_, M, rfl, Mem.le.refl M, hw.cnt (by intro zz; first | exact Nat.le_refl _ | (simp only [cnt_app, cnt_cons, cnt_nil, cat, List.append_eq, List.append_assoc, List.cons_append, List.nil_append, List.append_nil]; omega)), rfl, by rw [hp.1, hp.2]; rfl⟩)
          · first | replace hc4 := dT hc4 | replace hc4 := dF hc4 | replace hc4 := nT hc4 | replace hc4 := nF hc4 | skip
            first
            | (exfalso; omega)
            | (exfalso; simp [eqX] at hc4; done)
            | skip
              refine C_skip ?_
              refine K_out ?_
              refine K_then ?_
              refine C_pick (.cons (k := 5) rfl (.cons (k := 4) rfl (.cons (k := 0) rfl (.cons (k := 1) rfl .nil)))) ?_
              refine C_seq ?_
              refine C_region_any (l := [0, 1, 2, 3, 4, 5, 6, 7, 8, 9, 10, 11, 12, 13]) #[0, 1, 3, 7, 0, 16, 48, 112, 0, 496, 1008, 2047, 4095, 8191] _ rfl (by kernel_rfl) (by kernel_rfl) St.drawn (fun _ h => h) ?_
              refine X_move rfl rfl rfl rfl ?_
              refine X_nilCheck rfl rfl rfl rfl ?_
              first | refine X_fieldAddr rfl rfl rfl F.foff54_3 rfl ?_ | refine X_fieldAddr_el rfl rfl rfl (by first | exact ⟨_, _, rfl⟩ | assumption | exact SlM.plain (by assumption) (by simp; omega) | exact RdS.plain (by assumption) (by simp; omega) | exact OSl.plain (by assumption) (by simp; omega)) F.foff54_3 rfl ?_
              first | refine X_load rfl rfl rfl (by repeat first | exact List.Mem.head _ | refine List.Mem.tail _ ?_ | refine List.mem_append_right _ ?_) F.lay52 rfl rfl rfl ?_ | refine X_load_el rfl rfl rfl (by first | assumption | exact SlM.mono (by assumption) (by assumption)) (by first | exact row_map (by omega) | exact List.getElem?_eq_getElem (by omega)) F.lay52 rfl rfl rfl ?_ | refine X_load_rd rfl rfl rfl (by assumption) (by first | exact row_map (by omega) | exact List.getElem?_eq_getElem (by omega)) F.lay52 rfl rfl rfl ?_ | refine X_load_mem rfl rfl rfl (by first | assumption | exact Mem.get_of (by assumption) (by repeat first | assumption | refine Mem.le.trans (by assumption) ?_)) F.lay52 rfl rfl rfl ?_ | refine X_load_osl rfl rfl rfl (by assumption) (by repeat first | exact Rem.here _ | exact Rem.two | apply Rem.skip | apply Rem.over) (by first | exact row_map (by omega) | exact List.getElem?_eq_getElem (by omega)) F.lay52 rfl rfl rfl ?_
              refine X_move rfl rfl rfl rfl ?_
              refine X_nilCheck rfl rfl rfl rfl ?_
              first | refine X_fieldAddr rfl rfl rfl F.foff54_2 rfl ?_ | refine X_fieldAddr_el rfl rfl rfl (by first | exact ⟨_, _, rfl⟩ | assumption | exact SlM.plain (by assumption) (by simp; omega) | exact RdS.plain (by assumption) (by simp; omega) | exact OSl.plain (by assumption) (by simp; omega)) F.foff54_2 rfl ?_
              first | refine X_load rfl rfl rfl (by repeat first | exact List.Mem.head _ | refine List.Mem.tail _ ?_ | refine List.mem_append_right _ ?_) F.lay47 rfl rfl rfl ?_ | refine X_load_el rfl rfl rfl (by first | assumption | exact SlM.mono (by assumption) (by assumption)) (by first | exact row_map (by omega) | exact List.getElem?_eq_getElem (by omega)) F.lay47 rfl rfl rfl ?_ | refine X_load_rd rfl rfl rfl (by assumption) (by first | exact row_map (by omega) | exact List.getElem?_eq_getElem (by omega)) F.lay47 rfl rfl rfl ?_ | refine X_load_mem rfl rfl rfl (by first | assumption | exact Mem.get_of (by assumption) (by repeat first | assumption | refine Mem.le.trans (by assumption) ?_)) F.lay47 rfl rfl rfl ?_ | refine X_load_osl rfl rfl rfl (by assumption) (by repeat first | exact Rem.here _ | exact Rem.two | apply Rem.skip | apply Rem.over) (by first | exact row_map (by omega) | exact List.getElem?_eq_getElem (by omega)) F.lay47 rfl rfl rfl ?_
              refine X_move rfl rfl rfl rfl ?_
              refine X_indexAddr rfl rfl rfl rfl F.elem47 (by first | rfl | exact (Int.toNat_of_nonneg (by omega)).symm) (by first | omega | (simp; omega)) (by first | exact ⟨_, _, rfl⟩ | assumption | exact SlM.plain (by assumption) (by simp; omega) | exact RdS.plain (by assumption) (by simp; omega) | exact OSl.plain (by assumption) (by simp; omega)) rfl ?_
              first | refine X_load rfl rfl rfl (by repeat first | exact List.Mem.head _ | refine List.Mem.tail _ ?_ | refine List.mem_append_right _ ?_) F.lay3 rfl rfl rfl ?_ | refine X_load_el rfl rfl rfl (by first | assumption | exact SlM.mono (by assumption) (by assumption)) (by first | exact row_map (by omega) | exact List.getElem?_eq_getElem (by omega)) F.lay3 rfl rfl rfl ?_ | refine X_load_rd rfl rfl rfl (by assumption) (by first | exact row_map (by omega) | exact List.getElem?_eq_getElem (by omega)) F.lay3 rfl rfl rfl ?_ | refine X_load_mem rfl rfl rfl (by first | assumption | exact Mem.get_of (by assumption) (by repeat first | assumption | refine Mem.le.trans (by assumption) ?_)) F.lay3 rfl rfl rfl ?_ | refine X_load_osl rfl rfl rfl (by assumption) (by repeat first | exact Rem.here _ | exact Rem.two | apply Rem.skip | apply Rem.over) (by first | exact row_map (by omega) | exact List.getElem?_eq_getElem (by omega)) F.lay3 rfl rfl rfl ?_
              refine X_lookup rfl rfl rfl rfl F.map52 F.zero28 (by repeat first | exact List.Mem.head _ | refine List.Mem.tail _ ?_ | refine List.mem_append_right _ ?_) (by assumption) (hget _ _ (by omega)) rfl ?_
              refine X_store rfl rfl rfl rfl (by constructor) (by first | exact Mail.flat _ | (simp [flat, cat, Segs.cells, Seg.cells, Value.oneCell']; done)) (by repeat first | exact Upd.head | apply Upd.tail | apply Upd.over) F.lay28 rfl rfl ?_
              refine X_assign rfl rfl rfl rfl ?_
              refine XD_end ?_
              refine K_then ?_
              refine C_pick (.cons (k := 5) rfl (.cons (k := 4) rfl .nil)) ?_
              refine C_ret ?_
              refine K_end (.inr rfl) (.cell rfl (by repeat first | exact List.Mem.head _ | refine List.Mem.tail _ ?_ | refine List.mem_append_right _ ?_) F.lay28 rfl rfl (.tmp rfl .nil)) (fun w hw => ?_)
              first
              | (have hp := at_none i l (by omega); exact ⟨_, M, rfl, Mem.le.refl M, hw.cnt (by intro zz; first | exact Nat.le_refl _ | (simp only [cnt_app, cnt_cons, cnt_nil, cat, List.append_eq, List.append_assoc, List.cons_append, List.nil_append, List.append_nil]; omega)), rfl, by rw [hp.1, hp.2]; rfl⟩)
              | (have hp := at_ok i l (by omega) (by omega); exact ⟨_, M, rfl, Mem.le.refl M, hw.cnt (by intro zz; first | exact Nat.le_refl _ | (simp only [cnt_app, cnt_cons, cnt_nil, cat, List.append_eq, List.append_assoc, List.cons_append, List.nil_append, List.append_nil]; omega)), rfl, by rw [hp.1, hp.2]; rfl⟩)

theorem At_nil (M : Mem) (i : Int) : Fs Try.prog 12 [.pointer none, .int .i64 i] M (fun v => v = .tuple #[Mail.zero.val, .int .i64 6]) := by
  refine fs_enter Try.func12 rfl Try.ntmps12 rfl ?_; intro H
  refine C_seq ?_
  refine C_region (l := [0, 1]) rfl ?_
  refine X_alloc rfl rfl F.zero28 (by constructor) rfl ?_; intro b1
  refine X_assign rfl rfl rfl rfl ?_
  refine XD_end ?_
  refine K_then ?_
  refine C_seq ?_
  refine C_block ?_
  refine C_seq ?_
  refine C_region (l := [0, 1, 2]) rfl ?_
  refine X_move rfl rfl rfl rfl ?_
  refine X_nil rfl rfl rfl rfl Try.underlying23 rfl rfl ?_
  refine X_assign rfl rfl rfl rfl ?_
  refine XD_end ?_
  refine K_then ?_
  refine C_pick (.cons (k := 6) rfl (.cons (k := 5) rfl (.cons (k := 4) rfl (.cons (k := 0) rfl (.cons (k := 1) rfl .nil))))) ?_
  refine C_cond rfl (fun hc2 => ?_) (fun hc2 => ?_)
  · first | replace hc2 := dT hc2 | replace hc2 := dF hc2 | replace hc2 := nT hc2 | replace hc2 := nF hc2 | skip
    first
    | (exfalso; omega)
    | (exfalso; simp [eqX] at hc2; done)
    | skip
      refine C_seq ?_
      refine C_region (l := [0, 1, 2]) rfl ?_
      refine X_build rfl rfl F.bld28 (.nil) rfl rfl ?_
      refine X_store rfl rfl rfl rfl (by constructor) (by first | exact Mail.flat _ | (simp [flat, cat, Segs.cells, Seg.cells, Value.oneCell']; done)) (by repeat first | exact Upd.head | apply Upd.tail | apply Upd.over) F.lay28 rfl rfl ?_
      refine X_assign rfl rfl rfl rfl ?_
      refine XD_end ?_
      refine K_then ?_
      refine C_pick (.cons (k := 5) rfl (.cons (k := 4) rfl (.cons (k := 0) rfl (.cons (k := 1) rfl .nil)))) ?_
      refine C_ret ?_
      refine K_retB ?_
      refine K_ret ?_
      refine K_end (.inr rfl) (.cell rfl (by repeat first | exact List.Mem.head _ | refine List.Mem.tail _ ?_ | refine List.mem_append_right _ ?_) F.lay28 rfl rfl (.tmp rfl .nil)) (fun w hw => ?_)
      exact ⟨_, rfl, hw.suf (by repeat first | exact Suf.refl _ | refine Suf.skip ?_), rfl⟩
  · first | replace hc2 := dT hc2 | replace hc2 := dF hc2 | replace hc2 := nT hc2 | replace hc2 := nF hc2 | skip
    first
    | (exfalso; omega)
    | (exfalso; simp [eqX] at hc2; done)
    | skip
      refine C_seq ?_
      refine C_region (l := [0, 1, 2, 3, 4, 5, 6, 7, 8, 9, 10, 11]) rfl ?_
      refine X_move rfl rfl rfl rfl ?_
      refine X_cmp rfl rfl rfl rfl rfl rfl ?_
      refine X_move rfl rfl rfl rfl ?_
      refine XD_part 13 rfl (fun hc3 => ?_) (fun hc3 => ?_)
      · first | replace hc3 := dT hc3 | replace hc3 := dF hc3 | replace hc3 := nT hc3 | replace hc3 := nF hc3 | skip
        first
        | (exfalso; omega)
        | (exfalso; simp [eqX] at hc3; done)
        | skip
          refine X_skip rfl rfl rfl ?_
          refine X_skip rfl rfl rfl ?_
          refine X_skip rfl rfl rfl ?_
          refine X_skip rfl rfl rfl ?_
          refine X_skip rfl rfl rfl ?_
          refine X_skip rfl rfl rfl ?_
          refine X_skip rfl rfl rfl ?_
          refine X_pick rfl rfl rfl rfl rfl ?_
          refine X_assign rfl rfl rfl rfl ?_
          refine XD_end ?_
          refine K_then ?_
          refine C_pick (.cons (k := 10) rfl (.cons (k := 5) rfl (.cons (k := 4) rfl (.cons (k := 0) rfl (.cons (k := 1) rfl .nil))))) ?_
          refine C_true rfl ?_
          refine C_seq ?_
          refine C_region (l := [0, 1, 2]) rfl ?_
          refine X_build rfl rfl F.bld28 (.nil) rfl rfl ?_
          refine X_store rfl rfl rfl rfl (by constructor) (by first | exact Mail.flat _ | (simp [flat, cat, Segs.cells, Seg.cells, Value.oneCell']; done)) (by repeat first | exact Upd.head | apply Upd.tail | apply Upd.over) F.lay28 rfl rfl ?_
          refine X_assign rfl rfl rfl rfl ?_
          refine XD_end ?_
          refine K_then ?_
          refine C_pick (.cons (k := 5) rfl (.cons (k := 4) rfl (.cons (k := 0) rfl (.cons (k := 1) rfl .nil)))) ?_
          refine C_ret ?_
          refine K_retB ?_
          refine K_ret ?_
          refine K_end (.inr rfl) (.cell rfl (by repeat first | exact List.Mem.head _ | refine List.Mem.tail _ ?_ | refine List.mem_append_right _ ?_) F.lay28 rfl rfl (.tmp rfl .nil)) (fun w hw => ?_)
          exact ⟨_, rfl, hw.suf (by repeat first | exact Suf.refl _ | refine Suf.skip ?_), rfl⟩
      · first | replace hc3 := dT hc3 | replace hc3 := dF hc3 | replace hc3 := nT hc3 | replace hc3 := nF hc3 | skip
        first
        | (exfalso; omega)
        | (exfalso; simp [eqX] at hc3; done)
        | skip
          refine X_move rfl rfl rfl rfl ?_
          refine X_move rfl rfl rfl rfl ?_
          refine X_nilCheck rfl rfl rfl rfl ?_
          first | refine X_fieldAddr rfl rfl rfl F.foff54_2 rfl ?_ | refine X_fieldAddr_el rfl rfl rfl (by first | exact ⟨_, _, rfl⟩ | assumption | exact SlM.plain (by assumption) (by simp; omega) | exact RdS.plain (by assumption) (by simp; omega) | exact OSl.plain (by assumption) (by simp; omega)) F.foff54_2 rfl ?_
          first | refine X_load rfl rfl rfl (by repeat first | exact List.Mem.head _ | refine List.Mem.tail _ ?_ | refine List.mem_append_right _ ?_) F.lay47 rfl rfl rfl ?_ | refine X_load_el rfl rfl rfl (by first | assumption | exact SlM.mono (by assumption) (by assumption)) (by first | exact row_map (by omega) | exact List.getElem?_eq_getElem (by omega)) F.lay47 rfl rfl rfl ?_ | refine X_load_rd rfl rfl rfl (by assumption) (by first | exact row_map (by omega) | exact List.getElem?_eq_getElem (by omega)) F.lay47 rfl rfl rfl ?_ | refine X_load_mem rfl rfl rfl (by first | assumption | exact Mem.get_of (by assumption) (by repeat first | assumption | refine Mem.le.trans (by assumption) ?_)) F.lay47 rfl rfl rfl ?_ | refine X_load_osl rfl rfl rfl (by assumption) (by repeat first | exact Rem.here _ | exact Rem.two | apply Rem.skip | apply Rem.over) (by first | exact row_map (by omega) | exact List.getElem?_eq_getElem (by omega)) F.lay47 rfl rfl rfl ?_
          refine X_len_sl rfl rfl rfl rfl F.elem47 rfl ?_
          refine X_cmp rfl rfl rfl rfl rfl rfl ?_
          refine X_pick rfl rfl rfl rfl rfl ?_
          refine X_assign rfl rfl rfl rfl ?_
          refine XD_end ?_
          refine K_then ?_
          refine C_pick (.cons (k := 10) rfl (.cons (k := 5) rfl (.cons (k := 4) rfl (.cons (k := 0) rfl (.cons (k := 1) rfl .nil))))) ?_
          refine C_cond rfl (fun hc4 => ?_) (fun hc4 => ?_)
          · first | replace hc4 := dT hc4 | replace hc4 := dF hc4 | replace hc4 := nT hc4 | replace hc4 := nF hc4 | skip
            first
            | (exfalso; omega)
            | (exfalso; simp [eqX] at hc4; done)
            | skip
              refine C_seq ?_
              refine C_region (l := [0, 1, 2]) rfl ?_
              refine X_build rfl rfl F.bld28 (.nil) rfl rfl ?_
              refine X_store rfl rfl rfl rfl (by constructor) (by first | exact Mail.flat _ | (simp [flat, cat, Segs.cells, Seg.cells, Value.oneCell']; done)) (by repeat first | exact Upd.head | apply Upd.tail | apply Upd.over) F.lay28 rfl rfl ?_
              refine X_assign rfl rfl rfl rfl ?_
              refine XD_end ?_
              refine K_then ?_
              refine C_pick (.cons (k := 5) rfl (.cons (k := 4) rfl (.cons (k := 0) rfl (.cons (k := 1) rfl .nil)))) ?_
              refine C_ret ?_
              refine K_retB ?_
              refine K_ret ?_
              refine K_end (.inr rfl) (.cell rfl (by repeat first | exact List.Mem.head _ | refine List.Mem.tail _ ?_ | refine List.mem_append_right _ ?_) F.lay28 rfl rfl (.tmp rfl .nil)) (fun w hw => ?_)
              exact ⟨_, rfl, hw.suf (by repeat first | exact Suf.refl _ | refine Suf.skip ?_), rfl⟩
          · first | replace hc4 := dT hc4 | replace hc4 := dF hc4 | replace hc4 := nT hc4 | replace hc4 := nF hc4 | skip
            first
            | (exfalso; omega)
            | (exfalso; simp [eqX] at hc4; done)
            | skip
              refine C_skip ?_
              refine K_out ?_
              refine K_then ?_
              refine C_pick (.cons (k := 5) rfl (.cons (k := 4) rfl (.cons (k := 0) rfl (.cons (k := 1) rfl .nil)))) ?_
              refine C_seq ?_
              refine C_region_any (l := [0, 1, 2, 3, 4, 5, 6, 7, 8, 9, 10, 11, 12, 13]) #[0, 1, 3, 7, 0, 16, 48, 112, 0, 496, 1008, 2047, 4095, 8191] _ rfl (by kernel_rfl) (by kernel_rfl) St.drawn (fun _ h => h) ?_
              refine X_move rfl rfl rfl rfl ?_
              refine X_nilCheck rfl rfl rfl rfl ?_
              first | refine X_fieldAddr rfl rfl rfl F.foff54_3 rfl ?_ | refine X_fieldAddr_el rfl rfl rfl (by first | exact ⟨_, _, rfl⟩ | assumption | exact SlM.plain (by assumption) (by simp; omega) | exact RdS.plain (by assumption) (by simp; omega) | exact OSl.plain (by assumption) (by simp; omega)) F.foff54_3 rfl ?_
              first | refine X_load rfl rfl rfl (by repeat first | exact List.Mem.head _ | refine List.Mem.tail _ ?_ | refine List.mem_append_right _ ?_) F.lay52 rfl rfl rfl ?_ | refine X_load_el rfl rfl rfl (by first | assumption | exact SlM.mono (by assumption) (by assumption)) (by first | exact row_map (by omega) | exact List.getElem?_eq_getElem (by omega)) F.lay52 rfl rfl rfl ?_ | refine X_load_rd rfl rfl rfl (by assumption) (by first | exact row_map (by omega) | exact List.getElem?_eq_getElem (by omega)) F.lay52 rfl rfl rfl ?_ | refine X_load_mem rfl rfl rfl (by first | assumption | exact Mem.get_of (by assumption) (by repeat first | assumption | refine Mem.le.trans (by assumption) ?_)) F.lay52 rfl rfl rfl ?_ | refine X_load_osl rfl rfl rfl (by assumption) (by repeat first | exact Rem.here _ | exact Rem.two | apply Rem.skip | apply Rem.over) (by first | exact row_map (by omega) | exact List.getElem?_eq_getElem (by omega)) F.lay52 rfl rfl rfl ?_
              refine X_move rfl rfl rfl rfl ?_
              refine X_nilCheck rfl rfl rfl rfl ?_
              first | refine X_fieldAddr rfl rfl rfl F.foff54_2 rfl ?_ | refine X_fieldAddr_el rfl rfl rfl (by first | exact ⟨_, _, rfl⟩ | assumption | exact SlM.plain (by assumption) (by simp; omega) | exact RdS.plain (by assumption) (by simp; omega) | exact OSl.plain (by assumption) (by simp; omega)) F.foff54_2 rfl ?_
              first | refine X_load rfl rfl rfl (by repeat first | exact List.Mem.head _ | refine List.Mem.tail _ ?_ | refine List.mem_append_right _ ?_) F.lay47 rfl rfl rfl ?_ | refine X_load_el rfl rfl rfl (by first | assumption | exact SlM.mono (by assumption) (by assumption)) (by first | exact row_map (by omega) | exact List.getElem?_eq_getElem (by omega)) F.lay47 rfl rfl rfl ?_ | refine X_load_rd rfl rfl rfl (by assumption) (by first | exact row_map (by omega) | exact List.getElem?_eq_getElem (by omega)) F.lay47 rfl rfl rfl ?_ | refine X_load_mem rfl rfl rfl (by first | assumption | exact Mem.get_of (by assumption) (by repeat first | assumption | refine Mem.le.trans (by assumption) ?_)) F.lay47 rfl rfl rfl ?_ | refine X_load_osl rfl rfl rfl (by assumption) (by repeat first | exact Rem.here _ | exact Rem.two | apply Rem.skip | apply Rem.over) (by first | exact row_map (by omega) | exact List.getElem?_eq_getElem (by omega)) F.lay47 rfl rfl rfl ?_
              refine X_move rfl rfl rfl rfl ?_
              refine X_indexAddr rfl rfl rfl rfl F.elem47 (by first | rfl | exact (Int.toNat_of_nonneg (by omega)).symm) (by first | omega | (simp; omega)) (by first | exact ⟨_, _, rfl⟩ | assumption | exact SlM.plain (by assumption) (by simp; omega) | exact RdS.plain (by assumption) (by simp; omega) | exact OSl.plain (by assumption) (by simp; omega)) rfl ?_
              first | refine X_load rfl rfl rfl (by repeat first | exact List.Mem.head _ | refine List.Mem.tail _ ?_ | refine List.mem_append_right _ ?_) F.lay3 rfl rfl rfl ?_ | refine X_load_el rfl rfl rfl (by first | assumption | exact SlM.mono (by assumption) (by assumption)) (by first | exact row_map (by omega) | exact List.getElem?_eq_getElem (by omega)) F.lay3 rfl rfl rfl ?_ | refine X_load_rd rfl rfl rfl (by assumption) (by first | exact row_map (by omega) | exact List.getElem?_eq_getElem (by omega)) F.lay3 rfl rfl rfl ?_ | refine X_load_mem rfl rfl rfl (by first | assumption | exact Mem.get_of (by assumption) (by repeat first | assumption | refine Mem.le.trans (by assumption) ?_)) F.lay3 rfl rfl rfl ?_ | refine X_load_osl rfl rfl rfl (by assumption) (by repeat first | exact Rem.here _ | exact Rem.two | apply Rem.skip | apply Rem.over) (by first | exact row_map (by omega) | exact List.getElem?_eq_getElem (by omega)) F.lay3 rfl rfl rfl ?_
              refine X_lookup rfl rfl rfl rfl F.map52 F.zero28 (by repeat first | exact List.Mem.head _ | refine List.Mem.tail _ ?_ | refine List.mem_append_right _ ?_) (by assumption) (by assumption) rfl ?_
              refine X_store rfl rfl rfl rfl (by constructor) (by first | exact Mail.flat _ | (simp [flat, cat, Segs.cells, Seg.cells, Value.oneCell']; done)) (by repeat first | exact Upd.head | apply Upd.tail | apply Upd.over) F.lay28 rfl rfl ?_
              refine X_assign rfl rfl rfl rfl ?_
              refine XD_end ?_
              refine K_then ?_
              refine C_pick (.cons (k := 5) rfl (.cons (k := 4) rfl .nil)) ?_
              refine C_ret ?_
              refine K_end (.inr rfl) (.cell rfl (by repeat first | exact List.Mem.head _ | refine List.Mem.tail _ ?_ | refine List.mem_append_right _ ?_) F.lay28 rfl rfl (.tmp rfl .nil)) (fun w hw => ?_)
              exact ⟨_, rfl, hw.suf (by repeat first | exact Suf.refl _ | refine Suf.skip ?_), rfl⟩

theorem Delete_ok (M : Mem) (k : Nat) (v : Value) (hs : Hp) (rows : List Segs) (ho : OSl 3 1 v hs rows) (hk : k < rows.length) (h1 : ∀ u ∈ rowsCells rows, u.oneCell' = true) (hlen : rows.length ≤ 1000000) : Fh Try.prog 19 [v, .int .i64 (k : Int), .int .i64 ((k : Int) + 1)] M hs (fun M' v hs' => M' = M ∧ OSl 3 1 v hs' (rows.eraseIdx k)) := by
  obtain ⟨ad, c, rfl⟩ := ho.val
  obtain ⟨b, rfl⟩ := ho.addr (by omega)
  obtain ⟨_, _, _, _, hcap, _⟩ := ho.inv
  have hlen2 : (rows.take k ++ rows.drop (k + 1)).length + 1 = rows.length := by simp; omega
  refine fh_enter Try.func19 rfl Try.ntmps19 rfl ?_; intro H
  refine C_seq ?_
  refine C_region (l := [0]) rfl ?_
  refine X_assign rfl rfl rfl rfl ?_
  refine XD_end ?_
  refine K_then ?_
  refine C_seq ?_
  refine C_region (l := [0, 1, 2, 3, 4, 5]) rfl ?_
  refine X_move rfl rfl rfl rfl ?_
  refine X_move rfl rfl rfl rfl ?_
  refine X_move rfl rfl rfl rfl ?_
  refine X_move rfl rfl rfl rfl ?_
  refine X_len_sl rfl rfl rfl rfl F.elem47 rfl ?_
  refine X_slice rfl rfl rfl (.some rfl rfl) (.some (k := k + 1) rfl (by omega)) (.some rfl rfl) F.elem47 (by simp only [Option.getD_some, Option.getD_none]; omega) (by simp only [Option.getD_some, Option.getD_none]; omega) (by simp only [Option.getD_some, Option.getD_none]; omega) (fun _ => rfl) rfl rfl ?_
  refine XD_end ?_
  refine K_then ?_
  refine C_pick (.cons (k := 6) rfl (.cons (k := 0) rfl (.cons (k := 1) rfl (.cons (k := 2) rfl .nil)))) ?_
  refine C_seq ?_
  refine C_seq ?_
  refine C_region (l := [0, 1, 2]) rfl ?_
  refine X_move rfl rfl rfl rfl ?_
  refine X_move rfl rfl rfl rfl ?_
  refine X_cmp rfl rfl rfl rfl rfl rfl ?_
  refine XD_end ?_
  refine K_then ?_
  refine C_pick (.cons (k := 16) rfl (.cons (k := 6) rfl (.cons (k := 0) rfl (.cons (k := 1) rfl (.cons (k := 2) rfl .nil))))) ?_
  refine C_cond rfl (fun hc1 => ?_) (fun hc1 => ?_)
  · first | replace hc1 := dT hc1 | replace hc1 := dF hc1 | replace hc1 := nT hc1 | replace hc1 := nF hc1 | skip
    first
    | (exfalso; omega)
    | (exfalso; simp [eqX] at hc1; done)
    | skip
      refine C_seq ?_
      refine C_region (l := [0, 1]) rfl ?_
      refine X_move rfl rfl rfl rfl ?_
      refine X_assign rfl rfl rfl rfl ?_
      refine XD_end ?_
      refine K_then ?_
      refine C_pick (.cons (k := 6) rfl (.cons (k := 0) rfl (.cons (k := 1) rfl (.cons (k := 2) rfl .nil)))) ?_
      refine C_ret ?_
      refine K_ret ?_
      refine K_end (.inr rfl) (.tmp rfl .nil) (fun w hw => ?_)
      exact ⟨_, M, hs3, rfl, Mem.le.refl M, hw.cnt (by intro zz; first | exact Nat.le_refl _ | (simp only [cnt_app, cnt_cons, cnt_nil, cat, List.append_eq, List.append_assoc, List.cons_append, List.nil_append, List.append_nil]; omega)), rfl, by rw [List.eraseIdx_eq_take_drop_succ]; exact ho3⟩
  · first | replace hc1 := dT hc1 | replace hc1 := dF hc1 | replace hc1 := nT hc1 | replace hc1 := nF hc1 | skip
    first
    | (exfalso; omega)
    | (exfalso; simp [eqX] at hc1; done)
    | skip
      refine C_skip ?_
      refine K_then ?_
      refine C_pick (.cons (k := 6) rfl (.cons (k := 0) rfl (.cons (k := 1) rfl (.cons (k := 2) rfl .nil)))) ?_
      refine C_seq ?_
      refine C_region (l := [0, 1, 2]) rfl ?_
      refine X_move rfl rfl rfl rfl ?_
      refine X_len_sl rfl rfl rfl rfl F.elem47 rfl ?_
      refine X_assign rfl rfl rfl rfl ?_
      refine XD_end ?_
      refine K_then ?_
      refine C_pick (.cons (k := 7) rfl (.cons (k := 6) rfl (.cons (k := 0) rfl (.cons (k := 1) rfl (.cons (k := 2) rfl .nil))))) ?_
      refine C_seq ?_
      refine C_region_any (l := [0, 1, 2, 3, 4, 5, 6, 7]) #[0, 0, 3, 0, 0, 24, 63, 127] _ rfl (by kernel_rfl) (by kernel_rfl) St.drawn (fun _ h => h) ?_
      refine X_move rfl rfl rfl rfl ?_
      refine X_move rfl rfl rfl rfl ?_
      refine X_slice rfl rfl rfl .none (.some rfl rfl) .none F.elem47 (by simp only [Option.getD_some, Option.getD_none]; omega) (by simp only [Option.getD_some, Option.getD_none]; omega) (by simp only [Option.getD_some, Option.getD_none]; omega) (by simp) (show pieceV (some ⟨b, 0, none⟩) 1 0 k c = .slice (some ⟨b, 0, none⟩) k c from pieceV_zero) rfl ?_
      refine X_move rfl rfl rfl rfl ?_
      refine X_move rfl rfl rfl rfl ?_
      refine X_slice rfl rfl rfl (.some (k := k + 1) rfl (by omega)) .none .none F.elem47 (by simp only [Option.getD_some, Option.getD_none]; omega) (by simp only [Option.getD_some, Option.getD_none]; omega) (by simp only [Option.getD_some, Option.getD_none]; omega) (by simp) (show pieceV (some ⟨b, 0, none⟩) 1 (k + 1) rows.length c = pieceV (some ⟨b, 0, none⟩) 1 (k + 1) rows.length c from rfl) rfl ?_
      refine X_append_in rfl rfl rfl rfl rfl F.elem47 (ho.cut (by omega)) (by repeat first | exact Rem.here _ | exact Rem.two | apply Rem.skip | apply Rem.over) (ho.srcPiece (by repeat first | exact Rem.here _ | exact Rem.two | apply Rem.skip | apply Rem.over) h1 (by omega)) (by simp; omega) rfl ?_; intro hs2 ho2
      refine X_assign rfl rfl rfl rfl ?_
      refine XD_end ?_
      refine K_then ?_
      refine C_pick (.cons (k := 0) rfl (.cons (k := 7) rfl (.cons (k := 6) rfl .nil))) ?_
      refine C_seq ?_
      refine C_region (l := [0, 1, 2, 3, 4, 5]) rfl ?_
      refine X_move rfl rfl rfl rfl ?_
      refine X_move rfl rfl rfl rfl ?_
      refine X_len_sl rfl rfl rfl rfl F.elem47 rfl ?_
      refine X_move rfl rfl rfl rfl ?_
      refine X_slice rfl rfl rfl (.some rfl rfl) (.some rfl rfl) .none F.elem47 (by simp only [Option.getD_some, Option.getD_none]; omega) (by simp only [Option.getD_some, Option.getD_none]; omega) (by simp only [Option.getD_some, Option.getD_none]; omega) (by simp) (show pieceV (some ⟨b, 0, none⟩) 1 (rows.take k ++ rows.drop (k + 1)).length rows.length c = .slice (some ⟨b, 0 + (rows.take k ++ rows.drop (k + 1)).length * 1, none⟩) (rows.length - (rows.take k ++ rows.drop (k + 1)).length) (c - (rows.take k ++ rows.drop (k + 1)).length) from pieceV_in (by omega)) rfl ?_
      refine X_clear_own rfl rfl rfl rfl rfl F.elem47 F.zero3 rfl (by kernel_rfl) ho2 (by repeat first | exact Rem.here _ | exact Rem.two | apply Rem.skip | apply Rem.over) (by omega) (by omega) putE_none ?_; intro hs3 ho3
      refine XD_end ?_
      refine K_then ?_
      refine C_pick (.cons (k := 0) rfl (.cons (k := 6) rfl .nil)) ?_
      refine C_seq ?_
      refine C_region (l := [0, 1]) rfl ?_
      refine X_move rfl rfl rfl rfl ?_
      refine X_assign rfl rfl rfl rfl ?_
      refine XD_end ?_
      refine K_then ?_
      refine C_pick (.cons (k := 6) rfl .nil) ?_
      refine C_ret ?_
      refine K_end (.inr rfl) (.tmp rfl .nil) (fun w hw => ?_)
      exact ⟨_, M, hs3, rfl, Mem.le.refl M, hw.cnt (by intro zz; first | exact Nat.le_refl _ | (simp only [cnt_app, cnt_cons, cnt_nil, cat, List.append_eq, List.append_assoc, List.cons_append, List.nil_append, List.append_nil]; omega)), rfl, by rw [List.eraseIdx_eq_take_drop_succ]; exact ho3⟩

end Go.Proofs.Ytenamdnnmdilgaa
