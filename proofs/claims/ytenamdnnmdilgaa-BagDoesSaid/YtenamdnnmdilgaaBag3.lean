/-
  The walks of a bag: taking, and doubling.
-/
import Derived.Test.YtenamdnnmdilgaaBag2
set_option linter.unusedSimpArgs false
set_option linter.unusedVariables false
set_option linter.unnecessarySimpa false
namespace Go.Proofs.Ytenamdnnmdilgaa
open Go.Esp
theorem F.ok12 : okFn Try.prog 12 = true := by kernel_rfl
theorem F.ok19 : okFn Try.prog 19 = true := by kernel_rfl
theorem F.ok8 : okFn Try.prog 8 = true := by kernel_rfl

theorem Take_ok (M : Mem) (b : Nat) (most N : Int) (l : List Mail) (Hb : Hp) (i : Int) (hb : BagIs b most N l Hb) : Fh Try.prog 9 [.pointer (some ⟨b, 0, none⟩), .int .i64 i] M Hb (fun M' v Hb' => M' = M ∧ v = .tuple #[(atM i l).val, .int .i64 (atC i l)] ∧ BagIs b most N (takeL i l) Hb') := by
  obtain ⟨next, mb, rv, o, hs, ids, im, rfl, ho, hm, hin, hn0, hnN, hl1, hl2⟩ := hb
  obtain ⟨ad, cp, rfl⟩ := ho.val
  have hil : (ids.map oneI).length = l.length := by simp [hin.len]
  have hil2 : ids.length = l.length := hin.len
  refine fh_enterF (fun H => (b, rowO [.one (.int .i64 most), Seg.one (.int .i64 next), .one _, .one (.map (some mb))] 54) :: (mb, o) :: (hs ++ H)) (fun _ => rfl) Try.func9 rfl Try.ntmps9 rfl ?_; intro H
  refine C_seq ?_
  refine C_region (l := [0, 1]) rfl ?_
  refine X_alloc rfl rfl F.zero28 (by constructor) rfl ?_; intro b1
  refine X_assign rfl rfl rfl rfl ?_
  refine XD_end ?_
  refine K_then ?_
  refine C_seq ?_
  refine C_region (l := [0, 1, 2, 3, 4, 5, 6, 7, 8]) rfl ?_
  refine X_move rfl rfl rfl rfl ?_
  refine X_move rfl rfl rfl rfl ?_
  refine X_fo rfl rfl F.ok12 rfl (At_ok M b most N l _ i (BagIs.intro ho hm hin hn0 hnN hl1 hl2)) (by repeat first | exact Rem.here _ | exact Rem.two | apply Rem.skip | apply Rem.over) (putE_some rfl) ?_
  rintro _ M1 _ ⟨hM1, rfl⟩; subst M1
  refine X_move rfl rfl rfl rfl ?_
  refine X_extract rfl rfl rfl rfl rfl ?_
  refine X_extract rfl rfl rfl rfl rfl ?_
  refine X_alloc rfl rfl F.zero28 (by constructor) rfl ?_; intro b2
  refine X_store rfl rfl rfl rfl (by constructor) (by first | exact Mail.flat _ | (simp [flat, cat, Segs.cells, Seg.cells, Value.oneCell']; done)) (by repeat first | exact Upd.head | apply Upd.tail | apply Upd.over) F.lay28 rfl rfl ?_
  refine X_assign rfl rfl rfl rfl ?_
  refine XD_end ?_
  refine K_then ?_
  refine C_pick (.cons (k := 7) rfl (.cons (k := 6) rfl (.cons (k := 5) rfl (.cons (k := 4) rfl (.cons (k := 0) rfl (.cons (k := 1) rfl .nil)))))) ?_
  refine C_seq ?_
  refine C_seq ?_
  refine C_region (l := [0, 1]) rfl ?_
  refine X_move rfl rfl rfl rfl ?_
  refine X_cmp rfl rfl rfl rfl rfl rfl ?_
  refine XD_end ?_
  refine K_then ?_
  refine C_pick (.cons (k := 15) rfl (.cons (k := 7) rfl (.cons (k := 6) rfl (.cons (k := 5) rfl (.cons (k := 4) rfl (.cons (k := 0) rfl (.cons (k := 1) rfl .nil))))))) ?_
  refine C_cond rfl (fun hc3 => ?_) (fun hc3 => ?_)
  · first | replace hc3 := dT hc3 | replace hc3 := dF hc3 | replace hc3 := nT hc3 | replace hc3 := nF hc3 | skip
    first
    | (exfalso; omega)
    | (exfalso; simp [eqX] at hc3; done)
    | skip
      refine C_seq ?_
      refine C_region_any (l := [0, 1, 2, 3, 4, 5, 6, 7, 8, 9, 10, 11]) #[0, 1, 3, 7, 0, 16, 48, 112, 0, 496, 1008, 2047] _ rfl (by kernel_rfl) (by kernel_rfl) St.drawn (fun _ h => h) ?_
      have hi := atC_zero.1 ‹atC i l = 0›
      obtain ⟨k, rfl⟩ : ∃ k : Nat, i = k := ⟨i.toNat, by omega⟩
      refine X_move rfl rfl rfl rfl ?_
      refine X_nilCheck rfl rfl rfl rfl ?_
      first | refine X_fieldAddr rfl rfl rfl F.foff54_3 rfl ?_ | refine X_fieldAddr_el rfl rfl rfl (by first | exact ⟨_, _, rfl⟩ | assumption | exact SlM.plain (by assumption) (by simp; omega) | exact RdS.plain (by assumption) (by simp; omega) | exact OSl.plain (by assumption) (by simp; omega)) F.foff54_3 rfl ?_
      first | refine X_load rfl rfl rfl (by repeat first | exact List.Mem.head _ | refine List.Mem.tail _ ?_ | refine List.mem_append_right _ ?_) F.lay52 rfl rfl rfl ?_ | refine X_load_el rfl rfl rfl (by first | assumption | exact SlM.mono (by assumption) (by assumption)) (by first | exact row_map (by omega) | exact List.getElem?_eq_getElem (by omega)) F.lay52 rfl rfl rfl ?_ | refine X_load_rd rfl rfl rfl (by assumption) (by first | exact row_map (by omega) | exact List.getElem?_eq_getElem (by omega)) F.lay52 rfl rfl rfl ?_ | refine X_load_mem rfl rfl rfl (by first | assumption | exact Mem.get_of (by assumption) (by repeat first | assumption | refine Mem.le.trans (by assumption) ?_)) F.lay52 rfl rfl rfl ?_ | refine X_load_osl rfl rfl rfl (by assumption) (by repeat first | exact Rem.here _ | exact Rem.two | apply Rem.skip | apply Rem.over) (by first | exact row_map (by omega) | exact List.getElem?_eq_getElem (by omega)) F.lay52 rfl rfl rfl ?_
      refine X_move rfl rfl rfl rfl ?_
      refine X_nilCheck rfl rfl rfl rfl ?_
      first | refine X_fieldAddr rfl rfl rfl F.foff54_2 rfl ?_ | refine X_fieldAddr_el rfl rfl rfl (by first | exact ⟨_, _, rfl⟩ | assumption | exact SlM.plain (by assumption) (by simp; omega) | exact RdS.plain (by assumption) (by simp; omega) | exact OSl.plain (by assumption) (by simp; omega)) F.foff54_2 rfl ?_
      first | refine X_load rfl rfl rfl (by repeat first | exact List.Mem.head _ | refine List.Mem.tail _ ?_ | refine List.mem_append_right _ ?_) F.lay47 rfl rfl rfl ?_ | refine X_load_el rfl rfl rfl (by first | assumption | exact SlM.mono (by assumption) (by assumption)) (by first | exact row_map (by omega) | exact List.getElem?_eq_getElem (by omega)) F.lay47 rfl rfl rfl ?_ | refine X_load_rd rfl rfl rfl (by assumption) (by first | exact row_map (by omega) | exact List.getElem?_eq_getElem (by omega)) F.lay47 rfl rfl rfl ?_ | refine X_load_mem rfl rfl rfl (by first | assumption | exact Mem.get_of (by assumption) (by repeat first | assumption | refine Mem.le.trans (by assumption) ?_)) F.lay47 rfl rfl rfl ?_ | refine X_load_osl rfl rfl rfl (by assumption) (by repeat first | exact Rem.here _ | exact Rem.two | apply Rem.skip | apply Rem.over) (by first | exact row_map (by omega) | exact List.getElem?_eq_getElem (by omega)) F.lay47 rfl rfl rfl ?_
      refine X_move rfl rfl rfl rfl ?_
      refine X_indexAddr rfl rfl rfl rfl F.elem47 (by first | rfl | exact (Int.toNat_of_nonneg (by omega)).symm) (by first | omega | (simp; omega)) (by first | exact ⟨_, _, rfl⟩ | assumption | exact SlM.plain (by assumption) (by simp; omega) | exact RdS.plain (by assumption) (by simp; omega) | exact OSl.plain (by assumption) (by simp; omega)) rfl ?_
      first | refine X_load rfl rfl rfl (by repeat first | exact List.Mem.head _ | refine List.Mem.tail _ ?_ | refine List.mem_append_right _ ?_) F.lay3 rfl rfl rfl ?_ | refine X_load_el rfl rfl rfl (by first | assumption | exact SlM.mono (by assumption) (by assumption)) (by first | exact row_map (by omega) | exact List.getElem?_eq_getElem (by omega)) F.lay3 rfl rfl rfl ?_ | refine X_load_rd rfl rfl rfl (by assumption) (by first | exact row_map (by omega) | exact List.getElem?_eq_getElem (by omega)) F.lay3 rfl rfl rfl ?_ | refine X_load_mem rfl rfl rfl (by first | assumption | exact Mem.get_of (by assumption) (by repeat first | assumption | refine Mem.le.trans (by assumption) ?_)) F.lay3 rfl rfl rfl ?_ | refine X_load_osl rfl rfl rfl (by assumption) (by repeat first | exact Rem.here _ | exact Rem.two | apply Rem.skip | apply Rem.over) (by first | exact row_map (by omega) | exact List.getElem?_eq_getElem (by omega)) F.lay3 rfl rfl rfl ?_
      refine X_deleteF rfl rfl rfl rfl rfl F.map52 (by assumption) (by repeat first | exact List.Mem.head _ | refine List.Mem.tail _ ?_ | refine List.mem_append_right _ ?_) ?_; intro o4 him5; refine ⟨_, (by repeat first | exact Upd.head | apply Upd.tail | apply Upd.over), ?_⟩
      refine XD_end ?_
      refine K_then ?_
      refine C_pick (.cons (k := 7) rfl (.cons (k := 6) rfl (.cons (k := 5) rfl (.cons (k := 4) rfl (.cons (k := 0) rfl (.cons (k := 1) rfl .nil)))))) ?_
      refine C_regionR (l := [0, 1, 2, 3, 4, 5, 6, 7, 8, 9, 10, 11]) (Hin := hs) (by repeat first | exact Rem.here _ | exact Rem.two | apply Rem.skip | apply Rem.over) rfl ?_
      refine X_move rfl rfl rfl rfl ?_
      refine X_move rfl rfl rfl rfl ?_
      refine X_nilCheck rfl rfl rfl rfl ?_
      first | refine X_fieldAddr rfl rfl rfl F.foff54_2 rfl ?_ | refine X_fieldAddr_el rfl rfl rfl (by first | exact ⟨_, _, rfl⟩ | assumption | exact SlM.plain (by assumption) (by simp; omega) | exact RdS.plain (by assumption) (by simp; omega) | exact OSl.plain (by assumption) (by simp; omega)) F.foff54_2 rfl ?_
      first | refine X_load rfl rfl rfl (by repeat first | exact List.Mem.head _ | refine List.Mem.tail _ ?_ | refine List.mem_append_right _ ?_) F.lay47 rfl rfl rfl ?_ | refine X_load_el rfl rfl rfl (by first | assumption | exact SlM.mono (by assumption) (by assumption)) (by first | exact row_map (by omega) | exact List.getElem?_eq_getElem (by omega)) F.lay47 rfl rfl rfl ?_ | refine X_load_rd rfl rfl rfl (by assumption) (by first | exact row_map (by omega) | exact List.getElem?_eq_getElem (by omega)) F.lay47 rfl rfl rfl ?_ | refine X_load_mem rfl rfl rfl (by first | assumption | exact Mem.get_of (by assumption) (by repeat first | assumption | refine Mem.le.trans (by assumption) ?_)) F.lay47 rfl rfl rfl ?_ | refine X_load_osl rfl rfl rfl (by assumption) (by repeat first | exact Rem.here _ | exact Rem.two | apply Rem.skip | apply Rem.over) (by first | exact row_map (by omega) | exact List.getElem?_eq_getElem (by omega)) F.lay47 rfl rfl rfl ?_
      refine X_move rfl rfl rfl rfl ?_
      refine X_move rfl rfl rfl rfl ?_
      refine X_ari rfl rfl rfl rfl rfl (by first | exact wrap_in (by decide) (by omega) | rfl) rfl ?_
      refine X_fhR rfl rfl F.ok19 rfl (Delete_ok M k _ _ _ ho (by simp; omega) (oneI_cells _) (by simp; omega)) (by repeat first | exact Rem.here _ | exact Rem.two | apply Rem.skip | apply Rem.over) (fun _ _ _ hm hw => (hw.lower (by first | exact hm | exact Mem.le.trans (by assumption) hm)).cnt (by intro zz; first | exact Nat.le_refl _ | (simp only [cnt_app, cnt_cons, cnt_nil, cat, List.append_eq, List.append_assoc, List.cons_append, List.nil_append, List.append_nil]; omega))) (putE_some rfl) ?_
      rintro v5 M2 hs5 _ ⟨hM2, ho5⟩; subst M2; obtain ⟨ad5, cp5, rfl⟩ := ho5.val
      refine X_nilCheck rfl rfl rfl rfl ?_
      first | refine X_fieldAddr rfl rfl rfl F.foff54_2 rfl ?_ | refine X_fieldAddr_el rfl rfl rfl (by first | exact ⟨_, _, rfl⟩ | assumption | exact SlM.plain (by assumption) (by simp; omega) | exact RdS.plain (by assumption) (by simp; omega) | exact OSl.plain (by assumption) (by simp; omega)) F.foff54_2 rfl ?_
      refine X_store rfl rfl rfl rfl (by constructor) (by first | exact Mail.flat _ | (simp [flat, cat, Segs.cells, Seg.cells, Value.oneCell']; done)) (by repeat first | exact Upd.head | apply Upd.tail | apply Upd.over) F.lay47 rfl rfl ?_
      refine XD_end ?_
      refine K_then ?_
      refine C_pick (.cons (k := 7) rfl (.cons (k := 6) rfl (.cons (k := 5) rfl (.cons (k := 4) rfl .nil)))) ?_
      refine C_seq ?_
      refine C_region (l := [0, 1, 2, 3]) rfl ?_
      first | refine X_load rfl rfl rfl (by repeat first | exact List.Mem.head _ | refine List.Mem.tail _ ?_ | refine List.mem_append_right _ ?_) F.lay28 rfl rfl rfl ?_ | refine X_load_el rfl rfl rfl (by first | assumption | exact SlM.mono (by assumption) (by assumption)) (by first | exact row_map (by omega) | exact List.getElem?_eq_getElem (by omega)) F.lay28 rfl rfl rfl ?_ | refine X_load_rd rfl rfl rfl (by assumption) (by first | exact row_map (by omega) | exact List.getElem?_eq_getElem (by omega)) F.lay28 rfl rfl rfl ?_ | refine X_load_mem rfl rfl rfl (by first | assumption | exact Mem.get_of (by assumption) (by repeat first | assumption | refine Mem.le.trans (by assumption) ?_)) F.lay28 rfl rfl rfl ?_ | refine X_load_osl rfl rfl rfl (by assumption) (by repeat first | exact Rem.here _ | exact Rem.two | apply Rem.skip | apply Rem.over) (by first | exact row_map (by omega) | exact List.getElem?_eq_getElem (by omega)) F.lay28 rfl rfl rfl ?_
      refine X_move rfl rfl rfl rfl ?_
      refine X_store rfl rfl rfl rfl (by constructor) (by first | exact Mail.flat _ | (simp [flat, cat, Segs.cells, Seg.cells, Value.oneCell']; done)) (by repeat first | exact Upd.head | apply Upd.tail | apply Upd.over) F.lay28 rfl rfl ?_
      refine X_assign rfl rfl rfl rfl ?_
      refine XD_end ?_
      refine K_then ?_
      refine C_pick (.cons (k := 5) rfl (.cons (k := 4) rfl .nil)) ?_
      refine C_ret ?_
      refine K_end (.inr rfl) (.cell rfl (by repeat first | exact List.Mem.head _ | refine List.Mem.tail _ ?_ | refine List.mem_append_right _ ?_) F.lay28 rfl rfl (.tmp rfl .nil)) (fun w hw => ?_)
      have h9 := hin.del (i := k) (List.getElem?_eq_getElem (by omega))
      have e9 : (ids.map oneI).eraseIdx k = (ids.eraseIdx k).map oneI := by rw [eraseIdx_map']
      refine ⟨_, M, _, rfl, Mem.le.refl M, ?_, rfl, rfl, by rw [take_ok]; exact BagIs.intro (mb := mb) (by rw [← e9]; exact ho5) (by assumption) h9 hn0 hnN (by rw [List.length_eraseIdx]; split <;> omega) hl2⟩
      exact hw.cnt (by intro zz; first | exact Nat.le_refl _ | (simp only [cnt_app, cnt_cons, cnt_nil, cat, List.append_eq, List.append_assoc, List.cons_append, List.nil_append, List.append_nil]; omega))
  · first | replace hc3 := dT hc3 | replace hc3 := dF hc3 | replace hc3 := nT hc3 | replace hc3 := nF hc3 | skip
    first
    | (exfalso; omega)
    | (exfalso; simp [eqX] at hc3; done)
    | skip
      refine C_skip ?_
      refine K_then ?_
      refine C_pick (.cons (k := 7) rfl (.cons (k := 6) rfl (.cons (k := 5) rfl (.cons (k := 4) rfl .nil)))) ?_
      refine C_seq ?_
      refine C_region (l := [0, 1, 2, 3]) rfl ?_
      first | refine X_load rfl rfl rfl (by repeat first | exact List.Mem.head _ | refine List.Mem.tail _ ?_ | refine List.mem_append_right _ ?_) F.lay28 rfl rfl rfl ?_ | refine X_load_el rfl rfl rfl (by first | assumption | exact SlM.mono (by assumption) (by assumption)) (by first | exact row_map (by omega) | exact List.getElem?_eq_getElem (by omega)) F.lay28 rfl rfl rfl ?_ | refine X_load_rd rfl rfl rfl (by assumption) (by first | exact row_map (by omega) | exact List.getElem?_eq_getElem (by omega)) F.lay28 rfl rfl rfl ?_ | refine X_load_mem rfl rfl rfl (by first | assumption | exact Mem.get_of (by assumption) (by repeat first | assumption | refine Mem.le.trans (by assumption) ?_)) F.lay28 rfl rfl rfl ?_ | refine X_load_osl rfl rfl rfl (by assumption) (by repeat first | exact Rem.here _ | exact Rem.two | apply Rem.skip | apply Rem.over) (by first | exact row_map (by omega) | exact List.getElem?_eq_getElem (by omega)) F.lay28 rfl rfl rfl ?_
      refine X_move rfl rfl rfl rfl ?_
      refine X_store rfl rfl rfl rfl (by constructor) (by first | exact Mail.flat _ | (simp [flat, cat, Segs.cells, Seg.cells, Value.oneCell']; done)) (by repeat first | exact Upd.head | apply Upd.tail | apply Upd.over) F.lay28 rfl rfl ?_
      refine X_assign rfl rfl rfl rfl ?_
      refine XD_end ?_
      refine K_then ?_
      refine C_pick (.cons (k := 5) rfl (.cons (k := 4) rfl .nil)) ?_
      refine C_ret ?_
      refine K_end (.inr rfl) (.cell rfl (by repeat first | exact List.Mem.head _ | refine List.Mem.tail _ ?_ | refine List.mem_append_right _ ?_) F.lay28 rfl rfl (.tmp rfl .nil)) (fun w hw => ?_)
      refine ⟨_, M, _, rfl, Mem.le.refl M, ?_, rfl, rfl, by rw [take_none (by assumption)]; exact BagIs.intro (mb := mb) ho hm hin hn0 hnN hl1 hl2⟩
      exact hw.cnt (by intro zz; first | exact Nat.le_refl _ | (simp only [cnt_app, cnt_cons, cnt_nil, cat, List.append_eq, List.append_assoc, List.cons_append, List.nil_append, List.append_nil]; omega))

theorem Take_nil (M : Mem) (i : Int) : Fs Try.prog 9 [.pointer none, .int .i64 i] M (fun v => v = .tuple #[Mail.zero.val, .int .i64 6]) := by
  refine fs_enter Try.func9 rfl Try.ntmps9 rfl ?_; intro H
  refine C_seq ?_
  refine C_region (l := [0, 1]) rfl ?_
  refine X_alloc rfl rfl F.zero28 (by constructor) rfl ?_; intro b1
  refine X_assign rfl rfl rfl rfl ?_
  refine XD_end ?_
  refine K_then ?_
  refine C_seq ?_
  refine C_region (l := [0, 1, 2, 3, 4, 5, 6, 7, 8]) rfl ?_
  refine X_move rfl rfl rfl rfl ?_
  refine X_move rfl rfl rfl rfl ?_
  refine X_fs rfl rfl F.ok12 rfl (At_nil M i) rfl ?_
  rintro _ rfl
  refine X_move rfl rfl rfl rfl ?_
  refine X_extract rfl rfl rfl rfl rfl ?_
  refine X_extract rfl rfl rfl rfl rfl ?_
  refine X_alloc rfl rfl F.zero28 (by constructor) rfl ?_; intro b2
  refine X_store rfl rfl rfl rfl (by constructor) (by first | exact Mail.flat _ | (simp [flat, cat, Segs.cells, Seg.cells, Value.oneCell']; done)) (by repeat first | exact Upd.head | apply Upd.tail | apply Upd.over) F.lay28 rfl rfl ?_
  refine X_assign rfl rfl rfl rfl ?_
  refine XD_end ?_
  refine K_then ?_
  refine C_pick (.cons (k := 7) rfl (.cons (k := 6) rfl (.cons (k := 5) rfl (.cons (k := 4) rfl (.cons (k := 0) rfl (.cons (k := 1) rfl .nil)))))) ?_
  refine C_seq ?_
  refine C_seq ?_
  refine C_region (l := [0, 1]) rfl ?_
  refine X_move rfl rfl rfl rfl ?_
  refine X_cmp rfl rfl rfl rfl rfl rfl ?_
  refine XD_end ?_
  refine K_then ?_
  refine C_pick (.cons (k := 15) rfl (.cons (k := 7) rfl (.cons (k := 6) rfl (.cons (k := 5) rfl (.cons (k := 4) rfl (.cons (k := 0) rfl (.cons (k := 1) rfl .nil))))))) ?_
  refine C_cond rfl (fun hc3 => ?_) (fun hc3 => ?_)
  · first | replace hc3 := dT hc3 | replace hc3 := dF hc3 | replace hc3 := nT hc3 | replace hc3 := nF hc3 | skip
    first
    | (exfalso; omega)
    | (exfalso; simp [eqX] at hc3; done)
    | skip
      refine C_seq ?_
      refine C_region_any (l := [0, 1, 2, 3, 4, 5, 6, 7, 8, 9, 10, 11]) #[0, 1, 3, 7, 0, 16, 48, 112, 0, 496, 1008, 2047] _ rfl (by kernel_rfl) (by kernel_rfl) St.drawn (fun _ h => h) ?_
      refine X_move rfl rfl rfl rfl ?_
      refine X_nilCheck rfl rfl rfl rfl ?_
      first | refine X_fieldAddr rfl rfl rfl F.foff54_3 rfl ?_ | refine X_fieldAddr_el rfl rfl rfl (by first | exact ⟨_, _, rfl⟩ | assumption | exact SlM.plain (by assumption) (by simp; omega) | exact RdS.plain (by assumption) (by simp; omega) | exact OSl.plain (by assumption) (by simp; omega)) F.foff54_3 rfl ?_
      first | refine X_load rfl rfl rfl (by repeat first | exact List.Mem.head _ | refine List.Mem.tail _ ?_ | refine List.mem_append_right _ ?_) F.lay52 rfl rfl rfl ?_ | refine X_load_el rfl rfl rfl (by first | assumption | exact SlM.mono (by assumption) (by assumption)) (by first | exact row_map (by omega) | exact List.getElem?_eq_getElem (by omega)) F.lay52 rfl rfl rfl ?_ | refine X_load_rd rfl rfl rfl (by assumption) (by first | exact row_map (by omega) | exact List.getElem?_eq_getElem (by omega)) F.lay52 rfl rfl rfl ?_ | refine X_load_mem rfl rfl rfl (by first | assumption | exact Mem.get_of (by assumption) (by repeat first | assumption | refine Mem.le.trans (by assumption) ?_)) F.lay52 rfl rfl rfl ?_ | refine X_load_osl rfl rfl rfl (by assumption) (by repeat first | exact Rem.here _ | exact Rem.two | apply Rem.skip | apply Rem.over) (by first | exact row_map (by omega) | exact List.getElem?_eq_getElem (by omega)) F.lay52 rfl rfl rfl ?_
      refine X_move rfl rfl rfl rfl ?_
      refine X_nilCheck rfl rfl rfl rfl ?_
      first | refine X_fieldAddr rfl rfl rfl F.foff54_2 rfl ?_ | refine X_fieldAddr_el rfl rfl rfl (by first | exact ⟨_, _, rfl⟩ | assumption | exact SlM.plain (by assumption) (by simp; omega) | exact RdS.plain (by assumption) (by simp; omega) | exact OSl.plain (by assumption) (by simp; omega)) F.foff54_2 rfl ?_
      first | refine X_load rfl rfl rfl (by repeat first | exact List.Mem.head _ | refine List.Mem.tail _ ?_ | refine List.mem_append_right _ ?_) F.lay47 rfl rfl rfl ?_ | refine X_load_el rfl rfl rfl (by first | assumption | exact SlM.mono (by assumption) (by assumption)) (by first | exact row_map (by omega) | exact List.getElem?_eq_getElem (by omega)) F.lay47 rfl rfl rfl ?_ | refine X_load_rd rfl rfl rfl (by assumption) (by first | exact row_map (by omega) | exact List.getElem?_eq_getElem (by omega)) F.lay47 rfl rfl rfl ?_ | refine X_load_mem rfl rfl rfl (by first | assumption | exact Mem.get_of (by assumption) (by repeat first | assumption | refine Mem.le.trans (by assumption) ?_)) F.lay47 rfl rfl rfl ?_ | refine X_load_osl rfl rfl rfl (by assumption) (by repeat first | exact Rem.here _ | exact Rem.two | apply Rem.skip | apply Rem.over) (by first | exact row_map (by omega) | exact List.getElem?_eq_getElem (by omega)) F.lay47 rfl rfl rfl ?_
      refine X_move rfl rfl rfl rfl ?_
      refine X_indexAddr rfl rfl rfl rfl F.elem47 (by first | rfl | exact (Int.toNat_of_nonneg (by omega)).symm) (by first | omega | (simp; omega)) (by first | exact ⟨_, _, rfl⟩ | assumption | exact SlM.plain (by assumption) (by simp; omega) | exact RdS.plain (by assumption) (by simp; omega) | exact OSl.plain (by assumption) (by simp; omega)) rfl ?_
      first | refine X_load rfl rfl rfl (by repeat first | exact List.Mem.head _ | refine List.Mem.tail _ ?_ | refine List.mem_append_right _ ?_) F.lay3 rfl rfl rfl ?_ | refine X_load_el rfl rfl rfl (by first | assumption | exact SlM.mono (by assumption) (by assumption)) (by first | exact row_map (by omega) | exact List.getElem?_eq_getElem (by omega)) F.lay3 rfl rfl rfl ?_ | refine X_load_rd rfl rfl rfl (by assumption) (by first | exact row_map (by omega) | exact List.getElem?_eq_getElem (by omega)) F.lay3 rfl rfl rfl ?_ | refine X_load_mem rfl rfl rfl (by first | assumption | exact Mem.get_of (by assumption) (by repeat first | assumption | refine Mem.le.trans (by assumption) ?_)) F.lay3 rfl rfl rfl ?_ | refine X_load_osl rfl rfl rfl (by assumption) (by repeat first | exact Rem.here _ | exact Rem.two | apply Rem.skip | apply Rem.over) (by first | exact row_map (by omega) | exact List.getElem?_eq_getElem (by omega)) F.lay3 rfl rfl rfl ?_
      refine X_deleteF rfl rfl rfl rfl rfl F.map52 (by assumption) (by repeat first | exact List.Mem.head _ | refine List.Mem.tail _ ?_ | refine List.mem_append_right _ ?_) ?_; intro o4 him5; refine ⟨_, (by repeat first | exact Upd.head | apply Upd.tail | apply Upd.over), ?_⟩
      refine XD_end ?_
      refine K_then ?_
      refine C_pick (.cons (k := 7) rfl (.cons (k := 6) rfl (.cons (k := 5) rfl (.cons (k := 4) rfl (.cons (k := 0) rfl (.cons (k := 1) rfl .nil)))))) ?_
      refine C_region (l := [0, 1, 2, 3, 4, 5, 6, 7, 8, 9, 10, 11]) rfl ?_
      refine X_move rfl rfl rfl rfl ?_
      refine X_move rfl rfl rfl rfl ?_
      refine X_nilCheck rfl rfl rfl rfl ?_
      first | refine X_fieldAddr rfl rfl rfl F.foff54_2 rfl ?_ | refine X_fieldAddr_el rfl rfl rfl (by first | exact ⟨_, _, rfl⟩ | assumption | exact SlM.plain (by assumption) (by simp; omega) | exact RdS.plain (by assumption) (by simp; omega) | exact OSl.plain (by assumption) (by simp; omega)) F.foff54_2 rfl ?_
      first | refine X_load rfl rfl rfl (by repeat first | exact List.Mem.head _ | refine List.Mem.tail _ ?_ | refine List.mem_append_right _ ?_) F.lay47 rfl rfl rfl ?_ | refine X_load_el rfl rfl rfl (by first | assumption | exact SlM.mono (by assumption) (by assumption)) (by first | exact row_map (by omega) | exact List.getElem?_eq_getElem (by omega)) F.lay47 rfl rfl rfl ?_ | refine X_load_rd rfl rfl rfl (by assumption) (by first | exact row_map (by omega) | exact List.getElem?_eq_getElem (by omega)) F.lay47 rfl rfl rfl ?_ | refine X_load_mem rfl rfl rfl (by first | assumption | exact Mem.get_of (by assumption) (by repeat first | assumption | refine Mem.le.trans (by assumption) ?_)) F.lay47 rfl rfl rfl ?_ | refine X_load_osl rfl rfl rfl (by assumption) (by repeat first | exact Rem.here _ | exact Rem.two | apply Rem.skip | apply Rem.over) (by first | exact row_map (by omega) | exact List.getElem?_eq_getElem (by omega)) F.lay47 rfl rfl rfl ?_
      refine X_move rfl rfl rfl rfl ?_
      refine X_move rfl rfl rfl rfl ?_
      refine X_ari rfl rfl rfl rfl rfl (by first | exact wrap_in (by decide) (by omega) | rfl) rfl ?_
      fail
      refine X_nilCheck rfl rfl rfl rfl ?_
      first | refine X_fieldAddr rfl rfl rfl F.foff54_2 rfl ?_ | refine X_fieldAddr_el rfl rfl rfl (by first | exact ⟨_, _, rfl⟩ | assumption | exact SlM.plain (by assumption) (by simp; omega) | exact RdS.plain (by assumption) (by simp; omega) | exact OSl.plain (by assumption) (by simp; omega)) F.foff54_2 rfl ?_
      refine X_store rfl rfl rfl rfl (by constructor) (by first | exact Mail.flat _ | (simp [flat, cat, Segs.cells, Seg.cells, Value.oneCell']; done)) (by repeat first | exact Upd.head | apply Upd.tail | apply Upd.over) F.lay47 rfl rfl ?_
      refine XD_end ?_
      refine K_then ?_
      refine C_pick (.cons (k := 7) rfl (.cons (k := 6) rfl (.cons (k := 5) rfl (.cons (k := 4) rfl .nil)))) ?_
      refine C_seq ?_
      refine C_region (l := [0, 1, 2, 3]) rfl ?_
      first | refine X_load rfl rfl rfl (by repeat first | exact List.Mem.head _ | refine List.Mem.tail _ ?_ | refine List.mem_append_right _ ?_) F.lay28 rfl rfl rfl ?_ | refine X_load_el rfl rfl rfl (by first | assumption | exact SlM.mono (by assumption) (by assumption)) (by first | exact row_map (by omega) | exact List.getElem?_eq_getElem (by omega)) F.lay28 rfl rfl rfl ?_ | refine X_load_rd rfl rfl rfl (by assumption) (by first | exact row_map (by omega) | exact List.getElem?_eq_getElem (by omega)) F.lay28 rfl rfl rfl ?_ | refine X_load_mem rfl rfl rfl (by first | assumption | exact Mem.get_of (by assumption) (by repeat first | assumption | refine Mem.le.trans (by assumption) ?_)) F.lay28 rfl rfl rfl ?_ | refine X_load_osl rfl rfl rfl (by assumption) (by repeat first | exact Rem.here _ | exact Rem.two | apply Rem.skip | apply Rem.over) (by first | exact row_map (by omega) | exact List.getElem?_eq_getElem (by omega)) F.lay28 rfl rfl rfl ?_
      refine X_move rfl rfl rfl rfl ?_
      refine X_store rfl rfl rfl rfl (by constructor) (by first | exact Mail.flat _ | (simp [flat, cat, Segs.cells, Seg.cells, Value.oneCell']; done)) (by repeat first | exact Upd.head | apply Upd.tail | apply Upd.over) F.lay28 rfl rfl ?_
      refine X_assign rfl rfl rfl rfl ?_
      refine XD_end ?_
      refine K_then ?_
      refine C_pick (.cons (k := 5) rfl (.cons (k := 4) rfl .nil)) ?_
      refine C_ret ?_
      refine K_end (.inr rfl) (.cell rfl (by repeat first | exact List.Mem.head _ | refine List.Mem.tail _ ?_ | refine List.mem_append_right _ ?_) F.lay28 rfl rfl (.tmp rfl .nil)) (fun w hw => ?_)
      exact ⟨_, rfl, hw.suf (by repeat first | exact Suf.refl _ | refine Suf.skip ?_), rfl⟩
  · first | replace hc3 := dT hc3 | replace hc3 := dF hc3 | replace hc3 := nT hc3 | replace hc3 := nF hc3 | skip
    first
    | (exfalso; omega)
    | (exfalso; simp [eqX] at hc3; done)
    | skip
      refine C_skip ?_
      refine K_then ?_
      refine C_pick (.cons (k := 7) rfl (.cons (k := 6) rfl (.cons (k := 5) rfl (.cons (k := 4) rfl .nil)))) ?_
      refine C_seq ?_
      refine C_region (l := [0, 1, 2, 3]) rfl ?_
      first | refine X_load rfl rfl rfl (by repeat first | exact List.Mem.head _ | refine List.Mem.tail _ ?_ | refine List.mem_append_right _ ?_) F.lay28 rfl rfl rfl ?_ | refine X_load_el rfl rfl rfl (by first | assumption | exact SlM.mono (by assumption) (by assumption)) (by first | exact row_map (by omega) | exact List.getElem?_eq_getElem (by omega)) F.lay28 rfl rfl rfl ?_ | refine X_load_rd rfl rfl rfl (by assumption) (by first | exact row_map (by omega) | exact List.getElem?_eq_getElem (by omega)) F.lay28 rfl rfl rfl ?_ | refine X_load_mem rfl rfl rfl (by first | assumption | exact Mem.get_of (by assumption) (by repeat first | assumption | refine Mem.le.trans (by assumption) ?_)) F.lay28 rfl rfl rfl ?_ | refine X_load_osl rfl rfl rfl (by assumption) (by repeat first | exact Rem.here _ | exact Rem.two | apply Rem.skip | apply Rem.over) (by first | exact row_map (by omega) | exact List.getElem?_eq_getElem (by omega)) F.lay28 rfl rfl rfl ?_
      refine X_move rfl rfl rfl rfl ?_
      refine X_store rfl rfl rfl rfl (by constructor) (by first | exact Mail.flat _ | (simp [flat, cat, Segs.cells, Seg.cells, Value.oneCell']; done)) (by repeat first | exact Upd.head | apply Upd.tail | apply Upd.over) F.lay28 rfl rfl ?_
      refine X_assign rfl rfl rfl rfl ?_
      refine XD_end ?_
      refine K_then ?_
      refine C_pick (.cons (k := 5) rfl (.cons (k := 4) rfl .nil)) ?_
      refine C_ret ?_
      refine K_end (.inr rfl) (.cell rfl (by repeat first | exact List.Mem.head _ | refine List.Mem.tail _ ?_ | refine List.mem_append_right _ ?_) F.lay28 rfl rfl (.tmp rfl .nil)) (fun w hw => ?_)
      exact ⟨_, rfl, hw.suf (by repeat first | exact Suf.refl _ | refine Suf.skip ?_), rfl⟩

theorem Twice_ok (M : Mem) (b : Nat) (most N : Int) (l : List Mail) (Hb : Hp) (i : Int) (hN : N ≤ 1000000000) (hb : BagIs b most N l Hb) : Fh Try.prog 16 [.pointer (some ⟨b, 0, none⟩), .int .i64 i] M Hb (fun M' v Hb' => M' = M ∧ v = .int .i64 (twiceC i most l) ∧ BagIs b most (N + 1) (twiceL i most l) Hb') := by
  refine fh_enter Try.func16 rfl Try.ntmps16 rfl ?_; intro H
  refine C_seq ?_
  refine C_region (l := [0]) rfl ?_
  refine X_assign rfl rfl rfl rfl ?_
  refine XD_end ?_
  refine K_then ?_
  refine C_seq ?_
  refine C_region (l := [0, 1, 2, 3, 4, 5, 6, 7, 8]) rfl ?_
  refine X_move rfl rfl rfl rfl ?_
  refine X_move rfl rfl rfl rfl ?_
  refine X_fo rfl rfl F.ok12 rfl (At_ok M b most N l _ i hb) (by repeat first | exact Rem.here _ | exact Rem.two | apply Rem.skip | apply Rem.over) (putE_some rfl) ?_
  rintro _ M1 _ ⟨hM1, rfl⟩; subst M1
  refine X_move rfl rfl rfl rfl ?_
  refine X_extract rfl rfl rfl rfl rfl ?_
  refine X_extract rfl rfl rfl rfl rfl ?_
  refine X_alloc rfl rfl F.zero28 (by constructor) rfl ?_; intro b1
  refine X_store rfl rfl rfl rfl (by constructor) (by first | exact Mail.flat _ | (simp [flat, cat, Segs.cells, Seg.cells, Value.oneCell']; done)) (by repeat first | exact Upd.head | apply Upd.tail | apply Upd.over) F.lay28 rfl rfl ?_
  refine X_assign rfl rfl rfl rfl ?_
  refine XD_end ?_
  refine K_then ?_
  refine C_pick (.cons (k := 6) rfl (.cons (k := 5) rfl (.cons (k := 4) rfl (.cons (k := 0) rfl .nil)))) ?_
  refine C_seq ?_
  refine C_seq ?_
  refine C_region (l := [0, 1]) rfl ?_
  refine X_move rfl rfl rfl rfl ?_
  refine X_cmp rfl rfl rfl rfl rfl rfl ?_
  refine XD_end ?_
  refine K_then ?_
  refine C_pick (.cons (k := 14) rfl (.cons (k := 6) rfl (.cons (k := 5) rfl (.cons (k := 4) rfl (.cons (k := 0) rfl .nil))))) ?_
  refine C_cond rfl (fun hc2 => ?_) (fun hc2 => ?_)
  · first | replace hc2 := dT hc2 | replace hc2 := dF hc2 | replace hc2 := nT hc2 | replace hc2 := nF hc2 | skip
    first
    | (exfalso; omega)
    | (exfalso; simp [eqX] at hc2; done)
    | skip
      refine C_seq ?_
      refine C_region (l := [0, 1]) rfl ?_
      refine X_move rfl rfl rfl rfl ?_
      refine X_assign rfl rfl rfl rfl ?_
      refine XD_end ?_
      refine K_then ?_
      refine C_pick (.cons (k := 4) rfl (.cons (k := 5) rfl (.cons (k := 0) rfl .nil))) ?_
      refine C_ret ?_
      refine K_ret ?_
      refine K_end (.inr rfl) (.tmp rfl .nil) (fun w hw => ?_)
      have h9 := hb.mono (N' := N + 1) (by omega)
      exact ⟨_, M, Hb, rfl, Mem.le.refl M, hw.cnt (by intro zz; first | exact Nat.le_refl _ | (simp only [cnt_app, cnt_cons, cnt_nil, cat, List.append_eq, List.append_assoc, List.cons_append, List.nil_append, List.append_nil]; omega)), rfl, by unfold twiceC; rw [if_neg (by assumption)]; rfl, by unfold twiceL; rw [if_neg (by assumption)]; exact h9⟩
  · first | replace hc2 := dT hc2 | replace hc2 := dF hc2 | replace hc2 := nT hc2 | replace hc2 := nF hc2 | skip
    first
    | (exfalso; omega)
    | (exfalso; simp [eqX] at hc2; done)
    | skip
      refine C_skip ?_
      refine K_then ?_
      refine C_pick (.cons (k := 5) rfl (.cons (k := 4) rfl (.cons (k := 0) rfl .nil))) ?_
      refine C_seq ?_
      refine C_regionR (l := [0, 1, 2, 3]) (Hin := Hb) (by repeat first | exact Rem.here _ | exact Rem.two | apply Rem.skip | apply Rem.over) rfl ?_
      refine X_move rfl rfl rfl rfl ?_
      first | refine X_load rfl rfl rfl (by repeat first | exact List.Mem.head _ | refine List.Mem.tail _ ?_ | refine List.mem_append_right _ ?_) F.lay28 rfl rfl rfl ?_ | refine X_load_el rfl rfl rfl (by first | assumption | exact SlM.mono (by assumption) (by assumption)) (by first | exact row_map (by omega) | exact List.getElem?_eq_getElem (by omega)) F.lay28 rfl rfl rfl ?_ | refine X_load_rd rfl rfl rfl (by assumption) (by first | exact row_map (by omega) | exact List.getElem?_eq_getElem (by omega)) F.lay28 rfl rfl rfl ?_ | refine X_load_mem rfl rfl rfl (by first | assumption | exact Mem.get_of (by assumption) (by repeat first | assumption | refine Mem.le.trans (by assumption) ?_)) F.lay28 rfl rfl rfl ?_ | refine X_load_osl rfl rfl rfl (by assumption) (by repeat first | exact Rem.here _ | exact Rem.two | apply Rem.skip | apply Rem.over) (by first | exact row_map (by omega) | exact List.getElem?_eq_getElem (by omega)) F.lay28 rfl rfl rfl ?_
      refine X_fhR rfl rfl F.ok8 rfl (Put_ok M b most N l _ (atM i l) hN hb) (by repeat first | exact Rem.here _ | exact Rem.two | apply Rem.skip | apply Rem.over) (fun _ _ _ hm hw => (hw.lower (by first | exact hm | exact Mem.le.trans (by assumption) hm)).cnt (by intro zz; first | exact Nat.le_refl _ | (simp only [cnt_app, cnt_cons, cnt_nil, cat, List.append_eq, List.append_assoc, List.cons_append, List.nil_append, List.append_nil]; omega))) (putE_some rfl) ?_
      rintro _ M2 Hb2 _ ⟨hM2, rfl, hb2⟩; subst M2
      refine X_assign rfl rfl rfl rfl ?_
      refine XD_end ?_
      refine K_then ?_
      refine C_pick (.cons (k := 4) rfl .nil) ?_
      refine C_ret ?_
      refine K_end (.inr rfl) (.tmp rfl .nil) (fun w hw => ?_)
      exact ⟨_, M, Hb2, rfl, Mem.le.refl M, hw.cnt (by intro zz; first | exact Nat.le_refl _ | (simp only [cnt_app, cnt_cons, cnt_nil, cat, List.append_eq, List.append_assoc, List.cons_append, List.nil_append, List.append_nil]; omega)), rfl, by unfold twiceC; rw [if_pos (by omega)]; rfl, by unfold twiceL; rw [if_pos (by omega)]; exact hb2⟩

theorem Twice_nil (M : Mem) (i : Int) : Fs Try.prog 16 [.pointer none, .int .i64 i] M (fun v => v = .int .i64 6) := by
  refine fs_enter Try.func16 rfl Try.ntmps16 rfl ?_; intro H
  refine C_seq ?_
  refine C_region (l := [0]) rfl ?_
  refine X_assign rfl rfl rfl rfl ?_
  refine XD_end ?_
  refine K_then ?_
  refine C_seq ?_
  refine C_region (l := [0, 1, 2, 3, 4, 5, 6, 7, 8]) rfl ?_
  refine X_move rfl rfl rfl rfl ?_
  refine X_move rfl rfl rfl rfl ?_
  refine X_fs rfl rfl F.ok12 rfl (At_nil M i) rfl ?_
  rintro _ rfl
  refine X_move rfl rfl rfl rfl ?_
  refine X_extract rfl rfl rfl rfl rfl ?_
  refine X_extract rfl rfl rfl rfl rfl ?_
  refine X_alloc rfl rfl F.zero28 (by constructor) rfl ?_; intro b1
  refine X_store rfl rfl rfl rfl (by constructor) (by first | exact Mail.flat _ | (simp [flat, cat, Segs.cells, Seg.cells, Value.oneCell']; done)) (by repeat first | exact Upd.head | apply Upd.tail | apply Upd.over) F.lay28 rfl rfl ?_
  refine X_assign rfl rfl rfl rfl ?_
  refine XD_end ?_
  refine K_then ?_
  refine C_pick (.cons (k := 6) rfl (.cons (k := 5) rfl (.cons (k := 4) rfl (.cons (k := 0) rfl .nil)))) ?_
  refine C_seq ?_
  refine C_seq ?_
  refine C_region (l := [0, 1]) rfl ?_
  refine X_move rfl rfl rfl rfl ?_
  refine X_cmp rfl rfl rfl rfl rfl rfl ?_
  refine XD_end ?_
  refine K_then ?_
  refine C_pick (.cons (k := 14) rfl (.cons (k := 6) rfl (.cons (k := 5) rfl (.cons (k := 4) rfl (.cons (k := 0) rfl .nil))))) ?_
  refine C_cond rfl (fun hc2 => ?_) (fun hc2 => ?_)
  · first | replace hc2 := dT hc2 | replace hc2 := dF hc2 | replace hc2 := nT hc2 | replace hc2 := nF hc2 | skip
    first
    | (exfalso; omega)
    | (exfalso; simp [eqX] at hc2; done)
    | skip
      refine C_seq ?_
      refine C_region (l := [0, 1]) rfl ?_
      refine X_move rfl rfl rfl rfl ?_
      refine X_assign rfl rfl rfl rfl ?_
      refine XD_end ?_
      refine K_then ?_
      refine C_pick (.cons (k := 4) rfl (.cons (k := 5) rfl (.cons (k := 0) rfl .nil))) ?_
      refine C_ret ?_
      refine K_ret ?_
      refine K_end (.inr rfl) (.tmp rfl .nil) (fun w hw => ?_)
      exact ⟨_, rfl, hw.suf (by repeat first | exact Suf.refl _ | refine Suf.skip ?_), rfl⟩
  · first | replace hc2 := dT hc2 | replace hc2 := dF hc2 | replace hc2 := nT hc2 | replace hc2 := nF hc2 | skip
    first
    | (exfalso; omega)
    | (exfalso; simp [eqX] at hc2; done)
    | skip
      refine C_skip ?_
      refine K_then ?_
      refine C_pick (.cons (k := 5) rfl (.cons (k := 4) rfl (.cons (k := 0) rfl .nil))) ?_
      refine C_seq ?_
      refine C_region (l := [0, 1, 2, 3]) rfl ?_
      refine X_move rfl rfl rfl rfl ?_
      first | refine X_load rfl rfl rfl (by repeat first | exact List.Mem.head _ | refine List.Mem.tail _ ?_ | refine List.mem_append_right _ ?_) F.lay28 rfl rfl rfl ?_ | refine X_load_el rfl rfl rfl (by first | assumption | exact SlM.mono (by assumption) (by assumption)) (by first | exact row_map (by omega) | exact List.getElem?_eq_getElem (by omega)) F.lay28 rfl rfl rfl ?_ | refine X_load_rd rfl rfl rfl (by assumption) (by first | exact row_map (by omega) | exact List.getElem?_eq_getElem (by omega)) F.lay28 rfl rfl rfl ?_ | refine X_load_mem rfl rfl rfl (by first | assumption | exact Mem.get_of (by assumption) (by repeat first | assumption | refine Mem.le.trans (by assumption) ?_)) F.lay28 rfl rfl rfl ?_ | refine X_load_osl rfl rfl rfl (by assumption) (by repeat first | exact Rem.here _ | exact Rem.two | apply Rem.skip | apply Rem.over) (by first | exact row_map (by omega) | exact List.getElem?_eq_getElem (by omega)) F.lay28 rfl rfl rfl ?_
      refine X_fs rfl rfl F.ok8 rfl (Put_nil M _) rfl ?_
      rintro _ rfl
      refine X_assign rfl rfl rfl rfl ?_
      refine XD_end ?_
      refine K_then ?_
      refine C_pick (.cons (k := 4) rfl .nil) ?_
      refine C_ret ?_
      refine K_end (.inr rfl) (.tmp rfl .nil) (fun w hw => ?_)
      exact ⟨_, rfl, hw.suf (by repeat first | exact Suf.refl _ | refine Suf.skip ?_), rfl⟩

end Go.Proofs.Ytenamdnnmdilgaa
