/-
  The laws of a bag: two rows are the same; the document's own example.
-/
import Derived.Test.YtenamdnnmdilgaaBag4
set_option linter.unusedSimpArgs false
set_option linter.unusedVariables false
set_option linter.unnecessarySimpa false
namespace Go.Proofs.Ytenamdnnmdilgaa
open Go.Esp
theorem F.guard28 : Try.prog.eqGuardType Try.prog.depth 28 = false := by kernel_rfl
theorem F.kinds28 : kindsOf Try.prog 20 28 = some [.i .i64, .i .i64, .s] := by kernel_rfl
theorem F.ok11 : okFn Try.prog 11 = true := by kernel_rfl
theorem F.ok17 : okFn Try.prog 17 = true := by kernel_rfl
theorem F.ok20 : okFn Try.prog 20 = true := by kernel_rfl
theorem F.ok7 : okFn Try.prog 7 = true := by kernel_rfl
theorem F.ok9 : okFn Try.prog 9 = true := by kernel_rfl

theorem Ints_ok (M : Mem) (Hin : Hp) (a b : Option Addr) (ca cb : Nat) (l m : List Int) (hl : RdS M Hin a (l.map oneI) 1) (hm : RdS M Hin b (m.map oneI) 1) (hlen : l.length ≤ 1000000) : Fo Try.prog 20 [.slice a l.length ca, .slice b m.length cb] M Hin (fun M' v => M' = M ∧ v = .bool (decide (l = m))) := by
  refine fo_enter Try.func20 rfl Try.ntmps20 rfl ?_; intro H
  have hl2 := hl.app H
  have hm2 := hm.app H
  have hle : (l.map oneI).length = l.length := by simp
  have hme : (m.map oneI).length = m.length := by simp
  refine C_seq ?_
  refine C_region (l := [0]) rfl ?_
  refine X_assign rfl rfl rfl rfl ?_
  refine XD_end ?_
  refine K_then ?_
  refine C_seq ?_
  refine C_seq ?_
  refine C_region (l := [0, 1, 2, 3, 4]) rfl ?_
  refine X_move rfl rfl rfl rfl ?_
  refine X_len_sl rfl rfl rfl rfl F.elem47 rfl ?_
  refine X_move rfl rfl rfl rfl ?_
  refine X_len_sl rfl rfl rfl rfl F.elem47 rfl ?_
  refine X_cmp rfl rfl rfl rfl rfl rfl ?_
  refine XD_end ?_
  refine K_then ?_
  refine C_pick (.cons (k := 10) rfl (.cons (k := 4) rfl (.cons (k := 0) rfl (.cons (k := 1) rfl .nil)))) ?_
  refine C_cond rfl (fun hc1 => ?_) (fun hc1 => ?_)
  · first | replace hc1 := dT hc1 | replace hc1 := dF hc1 | replace hc1 := nT hc1 | replace hc1 := nF hc1 | skip
    first
    | (exfalso; omega)
    | (exfalso; simp [eqX] at hc1; done)
    | skip
      refine C_seq ?_
      refine C_region (l := [0]) rfl ?_
      refine X_assign rfl rfl rfl rfl ?_
      refine XD_end ?_
      refine K_then ?_
      refine C_pick (.cons (k := 4) rfl (.cons (k := 0) rfl (.cons (k := 1) rfl .nil))) ?_
      refine C_ret ?_
      refine K_ret ?_
      refine K_end (.inr rfl) (.tmp rfl .nil) (fun w hw => ?_)
      exact ⟨_, M, rfl, Mem.le.refl M, hw, rfl, by rw [decide_eq_false (fun e => by subst e; omega)]; rfl⟩
  · first | replace hc1 := dT hc1 | replace hc1 := dF hc1 | replace hc1 := nT hc1 | replace hc1 := nF hc1 | skip
    first
    | (exfalso; omega)
    | (exfalso; simp [eqX] at hc1; done)
    | skip
      refine C_skip ?_
      refine K_then ?_
      refine C_pick (.cons (k := 4) rfl (.cons (k := 0) rfl (.cons (k := 1) rfl .nil))) ?_
      refine C_seq ?_
      refine C_seq ?_
      refine C_region (l := [0]) rfl ?_
      refine X_assign rfl rfl rfl rfl ?_
      refine XD_end ?_
      refine K_then ?_
      refine C_block ?_
      refine C_pick (.cons (k := 5) rfl (.cons (k := 4) rfl (.cons (k := 0) rfl (.cons (k := 1) rfl .nil)))) ?_
      refine C_loop (.succ .zero) (fun (k : Nat) S z => S = St M (Hin ++ H) ∧ z = [(5, .int .i64 (k : Int))] ∧ k ≤ l.length ∧ l.take k = m.take k) (fun k => l.length - k) (0) (⟨rfl, rfl, by omega, by simp⟩) ?_
      rintro k _ _ ⟨rfl, rfl, hk1, hk2⟩
      refine C_seq ?_
      refine C_seq ?_
      refine C_region (l := [0, 1, 2, 3]) rfl ?_
      refine X_move rfl rfl rfl rfl ?_
      refine X_move rfl rfl rfl rfl ?_
      refine X_len_sl rfl rfl rfl rfl F.elem47 rfl ?_
      refine X_cmp rfl rfl rfl rfl rfl rfl ?_
      refine XD_end ?_
      refine K_then ?_
      refine C_cond rfl (fun hc2 => ?_) (fun hc2 => ?_)
      · first | replace hc2 := dT hc2 | replace hc2 := dF hc2 | replace hc2 := nT hc2 | replace hc2 := nF hc2 | skip
        first
        | (exfalso; omega)
        | (exfalso; simp [eqX] at hc2; done)
        | skip
          refine C_skip ?_
          refine K_then ?_
          refine C_seq ?_
          refine C_block ?_
          refine C_seq ?_
          refine C_region_any (l := [0, 1, 2, 3, 4, 5, 6, 7, 8]) #[0, 0, 3, 7, 0, 0, 48, 112, 255] _ rfl (by kernel_rfl) (by kernel_rfl) St.drawn (fun _ h => h) ?_
          refine X_move rfl rfl rfl rfl ?_
          refine X_move rfl rfl rfl rfl ?_
          refine X_indexAddr rfl rfl rfl rfl F.elem47 (by first | rfl | exact (Int.toNat_of_nonneg (by omega)).symm) (by first | omega | (simp; omega)) (by first | exact ⟨_, _, rfl⟩ | assumption | exact SlM.plain (by assumption) (by simp; omega) | exact RdS.plain (by assumption) (by simp; omega) | exact OSl.plain (by assumption) (by simp; omega)) rfl ?_
          first | refine X_load rfl rfl rfl (by repeat first | exact List.Mem.head _ | refine List.Mem.tail _ ?_ | refine List.mem_append_right _ ?_) F.lay3 rfl rfl rfl ?_ | refine X_load_el rfl rfl rfl (by first | assumption | exact SlM.mono (by assumption) (by assumption)) (by first | exact row_map (by omega) | exact List.getElem?_eq_getElem (by omega)) F.lay3 rfl rfl rfl ?_ | refine X_load_rd rfl rfl rfl (by assumption) (by first | exact row_map (by omega) | exact List.getElem?_eq_getElem (by omega)) F.lay3 rfl rfl rfl ?_ | refine X_load_mem rfl rfl rfl (by first | assumption | exact Mem.get_of (by assumption) (by repeat first | assumption | refine Mem.le.trans (by assumption) ?_)) F.lay3 rfl rfl rfl ?_ | refine X_load_osl rfl rfl rfl (by assumption) (by repeat first | exact Rem.here _ | exact Rem.two | apply Rem.skip | apply Rem.over) (by first | exact row_map (by omega) | exact List.getElem?_eq_getElem (by omega)) F.lay3 rfl rfl rfl ?_
          refine X_move rfl rfl rfl rfl ?_
          refine X_move rfl rfl rfl rfl ?_
          refine X_indexAddr rfl rfl rfl rfl F.elem47 (by first | rfl | exact (Int.toNat_of_nonneg (by omega)).symm) (by first | omega | (simp; omega)) (by first | exact ⟨_, _, rfl⟩ | assumption | exact SlM.plain (by assumption) (by simp; omega) | exact RdS.plain (by assumption) (by simp; omega) | exact OSl.plain (by assumption) (by simp; omega)) rfl ?_
          first | refine X_load rfl rfl rfl (by repeat first | exact List.Mem.head _ | refine List.Mem.tail _ ?_ | refine List.mem_append_right _ ?_) F.lay3 rfl rfl rfl ?_ | refine X_load_el rfl rfl rfl (by first | assumption | exact SlM.mono (by assumption) (by assumption)) (by first | exact row_map (by omega) | exact List.getElem?_eq_getElem (by omega)) F.lay3 rfl rfl rfl ?_ | refine X_load_rd rfl rfl rfl (by assumption) (by first | exact row_map (by omega) | exact List.getElem?_eq_getElem (by omega)) F.lay3 rfl rfl rfl ?_ | refine X_load_mem rfl rfl rfl (by first | assumption | exact Mem.get_of (by assumption) (by repeat first | assumption | refine Mem.le.trans (by assumption) ?_)) F.lay3 rfl rfl rfl ?_ | refine X_load_osl rfl rfl rfl (by assumption) (by repeat first | exact Rem.here _ | exact Rem.two | apply Rem.skip | apply Rem.over) (by first | exact row_map (by omega) | exact List.getElem?_eq_getElem (by omega)) F.lay3 rfl rfl rfl ?_
          refine X_cmp rfl rfl rfl rfl rfl rfl ?_
          refine XD_end ?_
          refine K_then ?_
          refine C_cond rfl (fun hc3 => ?_) (fun hc3 => ?_)
          · first | replace hc3 := dT hc3 | replace hc3 := dF hc3 | replace hc3 := nT hc3 | replace hc3 := nF hc3 | skip
            first
            | (exfalso; omega)
            | (exfalso; simp [eqX] at hc3; done)
            | skip
              refine C_seq ?_
              refine C_region (l := [0]) rfl ?_
              refine X_assign rfl rfl rfl rfl ?_
              refine XD_end ?_
              refine K_then ?_
              refine C_ret ?_
              refine K_retB ?_
              refine K_ret ?_
              refine K_ret ?_
              refine K_retB ?_
              refine K_ret ?_
              refine K_end (.inr rfl) (.tmp rfl .nil) (fun w hw => ?_)
              exact ⟨_, M, rfl, Mem.le.refl M, hw, rfl, by rw [decide_eq_false (fun e => by subst e; omega)]; rfl⟩
          · first | replace hc3 := dT hc3 | replace hc3 := dF hc3 | replace hc3 := nT hc3 | replace hc3 := nF hc3 | skip
            first
            | (exfalso; omega)
            | (exfalso; simp [eqX] at hc3; done)
            | skip
              refine C_skip ?_
              refine K_out ?_
              refine K_then ?_
              refine C_region (l := [0, 1, 2]) rfl ?_
              refine X_move rfl rfl rfl rfl ?_
              refine X_ari rfl rfl rfl rfl rfl (by first | exact wrap_in (by decide) (by omega) | rfl) rfl ?_
              refine X_assign rfl rfl rfl rfl ?_
              refine XD_end ?_
              refine K_round (a' := [(5, _)]) (k + 1) (.cons (k := 5) rfl (.cons (k := 4) rfl (.cons (k := 0) rfl (.cons (k := 1) rfl (.nil))))) ?_ ?_
              · exact ⟨rfl, rfl, by omega, by
                  rw [List.take_add_one, List.take_add_one, hk2, List.getElem?_eq_getElem (by omega), List.getElem?_eq_getElem (by omega)]
                  have : l[k] = m[k] := by omega
                  rw [this]⟩
              · omega
      · first | replace hc2 := dT hc2 | replace hc2 := dF hc2 | replace hc2 := nT hc2 | replace hc2 := nF hc2 | skip
        first
        | (exfalso; omega)
        | (exfalso; simp [eqX] at hc2; done)
        | skip
          refine C_exit ?_
          refine K_exit ?_
          refine K_exit ?_
          refine K_hit ?_
          refine K_then ?_
          refine C_pick (.cons (k := 4) rfl .nil) ?_
          refine C_seq ?_
          refine C_region (l := [0]) rfl ?_
          refine X_assign rfl rfl rfl rfl ?_
          refine XD_end ?_
          refine K_then ?_
          refine C_ret ?_
          refine K_end (.inr rfl) (.tmp rfl .nil) (fun w hw => ?_)
          have e : k = l.length := by omega
          have e2 : l = m := by
            rw [e, List.take_length, show l.length = m.length by omega, List.take_length] at hk2; exact hk2
          exact ⟨_, M, rfl, Mem.le.refl M, hw, rfl, by rw [decide_eq_true e2]; rfl⟩

theorem Put_at (M : Mem) (b : Nat) (most N : Int) (l : List Mail) (Hb : Hp) (m : Mail) (hN : N ≤ 1000000000) (hb : BagIs b most N l Hb) {c : Int} {l' : List Mail} (hc : putC m most l = c) (hl : putL m most l = l') : Fh Try.prog 8 [.pointer (some ⟨b, 0, none⟩), m.val] M Hb (fun M' v Hb' => M' = M ∧ v = .int .i64 c ∧ BagIs b most (N + 1) l' Hb') := by subst hc; subst hl; exact Put_ok M b most N l Hb m hN hb

theorem Take_at (M : Mem) (b : Nat) (most N : Int) (l : List Mail) (Hb : Hp) (i : Int) (hb : BagIs b most N l Hb) {m : Mail} {c : Int} {l' : List Mail} (hm : atM i l = m) (hc : atC i l = c) (hl : takeL i l = l') : Fh Try.prog 9 [.pointer (some ⟨b, 0, none⟩), .int .i64 i] M Hb (fun M' v Hb' => M' = M ∧ v = .tuple #[m.val, .int .i64 c] ∧ BagIs b most N l' Hb') := by subst hm; subst hc; subst hl; exact Take_ok M b most N l Hb i hb

theorem At_at (M : Mem) (b : Nat) (most N : Int) (l : List Mail) (Hb : Hp) (i : Int) (hb : BagIs b most N l Hb) {m : Mail} {c : Int} (hm : atM i l = m) (hc : atC i l = c) : Fo Try.prog 12 [.pointer (some ⟨b, 0, none⟩), .int .i64 i] M Hb (fun M' v => M' = M ∧ v = .tuple #[m.val, .int .i64 c]) := by subst hm; subst hc; exact At_ok M b most N l Hb i hb

theorem To_at (M : Mem) (b : Nat) (most N : Int) (l : List Mail) (Hb : Hp) (a : Int) (hb : BagIs b most N l Hb) {xs : List Int} (hx : toI a l = xs) : Fo Try.prog 17 [.pointer (some ⟨b, 0, none⟩), .int .i64 a] M Hb (fun M' v => ∃ ad c, v = .slice ad xs.length c ∧ SlM M' ad (xs.map oneI) 1) := by subst hx; exact To_ok M b most N l Hb a hb

theorem packed_ok (M : Mem) : Fs Try.prog 10 [] M (fun v => v = .bool true) := by
  refine fs_enter Try.func10 rfl Try.ntmps10 rfl ?_; intro H
  refine C_seq ?_
  refine C_region (l := [0]) rfl ?_
  refine X_assign rfl rfl rfl rfl ?_
  refine XD_end ?_
  refine K_then ?_
  refine C_seq ?_
  refine C_region (l := [0, 1, 2, 3, 4, 5]) rfl ?_
  refine X_fhR rfl rfl F.ok7 rfl (New_ok M 2 ⟨by decide, by decide⟩) (by repeat first | exact Rem.here _ | exact Rem.two | apply Rem.skip | apply Rem.over) (fun _ _ _ hm hw => (hw.lower (by first | exact hm | exact Mem.le.trans (by assumption) hm)).cnt (by intro zz; first | exact Nat.le_refl _ | (simp only [cnt_app, cnt_cons, cnt_nil, cat, List.append_eq, List.append_assoc, List.cons_append, List.nil_append, List.append_nil]; omega))) (putE_some rfl) ?_
  rintro _ M1 Hb _ ⟨hM1, b, rfl, hb⟩; subst M1
  refine X_move rfl rfl rfl rfl ?_
  refine X_extract rfl rfl rfl rfl rfl ?_
  refine X_extract rfl rfl rfl rfl rfl ?_
  refine X_assign rfl rfl rfl rfl ?_
  refine X_assign rfl rfl rfl rfl ?_
  refine XD_end ?_
  refine K_then ?_
  refine C_pick (.cons (k := 2) rfl (.cons (k := 1) rfl (.cons (k := 0) rfl .nil))) ?_
  refine C_seq ?_
  refine C_seq ?_
  refine C_region (l := [0, 1, 2, 3, 4, 5]) rfl ?_
  refine X_move rfl rfl rfl rfl ?_
  refine X_nil rfl rfl rfl rfl Try.underlying23 rfl rfl ?_
  refine X_move rfl rfl rfl rfl ?_
  refine XD_part 18 rfl (fun hc1 => ?_) (fun hc1 => ?_)
  · first | replace hc1 := dT hc1 | replace hc1 := dF hc1 | replace hc1 := nT hc1 | replace hc1 := nF hc1 | skip
    first
    | (exfalso; omega)
    | (exfalso; simp [eqX] at hc1; done)
    | skip
      refine X_skip rfl rfl rfl ?_
      refine X_skip rfl rfl rfl ?_
      refine X_pick rfl rfl rfl rfl rfl ?_
      refine XD_end ?_
      refine K_then ?_
      refine C_pick (.cons (k := 21) rfl (.cons (k := 1) rfl (.cons (k := 0) rfl .nil))) ?_
      refine C_true rfl ?_
      refine C_seq ?_
      refine C_region (l := [0]) rfl ?_
      refine X_assign rfl rfl rfl rfl ?_
      refine XD_end ?_
      refine K_then ?_
      refine C_pick (.cons (k := 0) rfl (.cons (k := 1) rfl .nil)) ?_
      refine C_ret ?_
      refine K_ret ?_
      refine K_end (.inr rfl) (.tmp rfl .nil) (fun w hw => ?_)
      exact ⟨_, rfl, (hw.lower hm2).cnt (by intro zz; first | exact Nat.le_refl _ | (simp only [cnt_app, cnt_cons, cnt_nil, cat, List.append_eq, List.append_assoc, List.cons_append, List.nil_append, List.append_nil]; omega)), rfl⟩
  · first | replace hc1 := dT hc1 | replace hc1 := dF hc1 | replace hc1 := nT hc1 | replace hc1 := nF hc1 | skip
    first
    | (exfalso; omega)
    | (exfalso; simp [eqX] at hc1; done)
    | skip
      refine X_move rfl rfl rfl rfl ?_
      refine X_cmp rfl rfl rfl rfl rfl rfl ?_
      refine X_pick rfl rfl rfl rfl rfl ?_
      refine XD_end ?_
      refine K_then ?_
      refine C_pick (.cons (k := 21) rfl (.cons (k := 1) rfl (.cons (k := 0) rfl .nil))) ?_
      refine C_cond rfl (fun hc2 => ?_) (fun hc2 => ?_)
      · first | replace hc2 := dT hc2 | replace hc2 := dF hc2 | replace hc2 := nT hc2 | replace hc2 := nF hc2 | skip
        first
        | (exfalso; omega)
        | (exfalso; simp [eqX] at hc2; done)
        | skip
          refine C_seq ?_
          refine C_region (l := [0]) rfl ?_
          refine X_assign rfl rfl rfl rfl ?_
          refine XD_end ?_
          refine K_then ?_
          refine C_pick (.cons (k := 0) rfl (.cons (k := 1) rfl .nil)) ?_
          refine C_ret ?_
          refine K_ret ?_
          refine K_end (.inr rfl) (.tmp rfl .nil) (fun w hw => ?_)
          exact ⟨_, rfl, (hw.lower hm2).cnt (by intro zz; first | exact Nat.le_refl _ | (simp only [cnt_app, cnt_cons, cnt_nil, cat, List.append_eq, List.append_assoc, List.cons_append, List.nil_append, List.append_nil]; omega)), rfl⟩
      · first | replace hc2 := dT hc2 | replace hc2 := dF hc2 | replace hc2 := nT hc2 | replace hc2 := nF hc2 | skip
        first
        | (exfalso; omega)
        | (exfalso; simp [eqX] at hc2; done)
        | skip
          refine C_skip ?_
          refine K_then ?_
          refine C_pick (.cons (k := 1) rfl (.cons (k := 0) rfl .nil)) ?_
          refine C_seq ?_
          refine C_region (l := [0, 1, 2]) rfl ?_
          refine X_build rfl rfl F.bld28 (.cons rfl (by constructor) (.cons rfl (by constructor) (.cons rfl (by constructor) .nil))) rfl rfl ?_
          refine X_alloc rfl rfl F.zero28 (by constructor) rfl ?_; intro b3
          refine X_store rfl rfl rfl rfl (by constructor) (by first | exact Mail.flat _ | (simp [flat, cat, Segs.cells, Seg.cells, Value.oneCell']; done)) (by repeat first | exact Upd.head | apply Upd.tail | apply Upd.over) F.lay28 rfl rfl ?_
          refine XD_end ?_
          refine K_then ?_
          refine C_pick (.cons (k := 3) rfl (.cons (k := 1) rfl (.cons (k := 0) rfl .nil))) ?_
          refine C_seq ?_
          refine C_region (l := [0, 1, 2]) rfl ?_
          refine X_build rfl rfl F.bld28 (.cons rfl (by constructor) (.cons rfl (by constructor) (.cons rfl (by constructor) .nil))) rfl rfl ?_
          refine X_alloc rfl rfl F.zero28 (by constructor) rfl ?_; intro b4
          refine X_store rfl rfl rfl rfl (by constructor) (by first | exact Mail.flat _ | (simp [flat, cat, Segs.cells, Seg.cells, Value.oneCell']; done)) (by repeat first | exact Upd.head | apply Upd.tail | apply Upd.over) F.lay28 rfl rfl ?_
          refine XD_end ?_
          refine K_then ?_
          refine C_pick (.cons (k := 4) rfl (.cons (k := 3) rfl (.cons (k := 1) rfl (.cons (k := 0) rfl .nil)))) ?_
          refine C_seq ?_
          refine C_regionR (l := [0, 1, 2, 3]) (Hin := Hb) (by repeat first | exact Rem.here _ | exact Rem.two | apply Rem.skip | apply Rem.over) rfl ?_
          refine X_move rfl rfl rfl rfl ?_
          first | refine X_load rfl rfl rfl (by repeat first | exact List.Mem.head _ | refine List.Mem.tail _ ?_ | refine List.mem_append_right _ ?_) F.lay28 rfl rfl rfl ?_ | refine X_load_el rfl rfl rfl (by first | assumption | exact SlM.mono (by assumption) (by assumption)) (by first | exact row_map (by omega) | exact List.getElem?_eq_getElem (by omega)) F.lay28 rfl rfl rfl ?_ | refine X_load_rd rfl rfl rfl (by assumption) (by first | exact row_map (by omega) | exact List.getElem?_eq_getElem (by omega)) F.lay28 rfl rfl rfl ?_ | refine X_load_mem rfl rfl rfl (by first | assumption | exact Mem.get_of (by assumption) (by repeat first | assumption | refine Mem.le.trans (by assumption) ?_)) F.lay28 rfl rfl rfl ?_ | refine X_load_osl rfl rfl rfl (by assumption) (by repeat first | exact Rem.here _ | exact Rem.two | apply Rem.skip | apply Rem.over) (by first | exact row_map (by omega) | exact List.getElem?_eq_getElem (by omega)) F.lay28 rfl rfl rfl ?_
          refine X_fhR rfl rfl F.ok8 rfl (Put_at M b 2 0 [] _ ⟨1, 2, ⟨#[97]⟩⟩ (by decide) hb (c := 0) (l' := [⟨1, 2, ⟨#[97]⟩⟩]) rfl rfl) (by repeat first | exact Rem.here _ | exact Rem.two | apply Rem.skip | apply Rem.over) (fun _ _ _ hm hw => (hw.lower (by first | exact hm | exact Mem.le.trans (by assumption) hm)).cnt (by intro zz; first | exact Nat.le_refl _ | (simp only [cnt_app, cnt_cons, cnt_nil, cat, List.append_eq, List.append_assoc, List.cons_append, List.nil_append, List.append_nil]; omega))) (putE_some rfl) ?_
          rintro _ M1 Hb1 _ ⟨hM1, rfl, hb1⟩; subst M1
          refine X_assign rfl rfl rfl rfl ?_
          refine XD_end ?_
          refine K_then ?_
          refine C_pick (.cons (k := 5) rfl (.cons (k := 4) rfl (.cons (k := 3) rfl (.cons (k := 1) rfl (.cons (k := 0) rfl .nil))))) ?_
          refine C_seq ?_
          refine C_regionR (l := [0, 1, 2, 3]) (Hin := Hb1) (by repeat first | exact Rem.here _ | exact Rem.two | apply Rem.skip | apply Rem.over) rfl ?_
          refine X_move rfl rfl rfl rfl ?_
          first | refine X_load rfl rfl rfl (by repeat first | exact List.Mem.head _ | refine List.Mem.tail _ ?_ | refine List.mem_append_right _ ?_) F.lay28 rfl rfl rfl ?_ | refine X_load_el rfl rfl rfl (by first | assumption | exact SlM.mono (by assumption) (by assumption)) (by first | exact row_map (by omega) | exact List.getElem?_eq_getElem (by omega)) F.lay28 rfl rfl rfl ?_ | refine X_load_rd rfl rfl rfl (by assumption) (by first | exact row_map (by omega) | exact List.getElem?_eq_getElem (by omega)) F.lay28 rfl rfl rfl ?_ | refine X_load_mem rfl rfl rfl (by first | assumption | exact Mem.get_of (by assumption) (by repeat first | assumption | refine Mem.le.trans (by assumption) ?_)) F.lay28 rfl rfl rfl ?_ | refine X_load_osl rfl rfl rfl (by assumption) (by repeat first | exact Rem.here _ | exact Rem.two | apply Rem.skip | apply Rem.over) (by first | exact row_map (by omega) | exact List.getElem?_eq_getElem (by omega)) F.lay28 rfl rfl rfl ?_
          refine X_fhR rfl rfl F.ok8 rfl (Put_at M b 2 (0 + 1) [⟨1, 2, ⟨#[97]⟩⟩] _ ⟨2, 1, ⟨#[98]⟩⟩ (by decide) hb1 (c := 0) (l' := [⟨1, 2, ⟨#[97]⟩⟩, ⟨2, 1, ⟨#[98]⟩⟩]) rfl rfl) (by repeat first | exact Rem.here _ | exact Rem.two | apply Rem.skip | apply Rem.over) (fun _ _ _ hm hw => (hw.lower (by first | exact hm | exact Mem.le.trans (by assumption) hm)).cnt (by intro zz; first | exact Nat.le_refl _ | (simp only [cnt_app, cnt_cons, cnt_nil, cat, List.append_eq, List.append_assoc, List.cons_append, List.nil_append, List.append_nil]; omega))) (putE_some rfl) ?_
          rintro _ M1 Hb2 _ ⟨hM1, rfl, hb2⟩; subst M1
          refine X_assign rfl rfl rfl rfl ?_
          refine XD_end ?_
          refine K_then ?_
          refine C_pick (.cons (k := 6) rfl (.cons (k := 5) rfl (.cons (k := 4) rfl (.cons (k := 3) rfl (.cons (k := 1) rfl (.cons (k := 0) rfl .nil)))))) ?_
          refine C_seq ?_
          refine C_regionR (l := [0, 1, 2, 3]) (Hin := Hb2) (by repeat first | exact Rem.here _ | exact Rem.two | apply Rem.skip | apply Rem.over) rfl ?_
          refine X_move rfl rfl rfl rfl ?_
          first | refine X_load rfl rfl rfl (by repeat first | exact List.Mem.head _ | refine List.Mem.tail _ ?_ | refine List.mem_append_right _ ?_) F.lay28 rfl rfl rfl ?_ | refine X_load_el rfl rfl rfl (by first | assumption | exact SlM.mono (by assumption) (by assumption)) (by first | exact row_map (by omega) | exact List.getElem?_eq_getElem (by omega)) F.lay28 rfl rfl rfl ?_ | refine X_load_rd rfl rfl rfl (by assumption) (by first | exact row_map (by omega) | exact List.getElem?_eq_getElem (by omega)) F.lay28 rfl rfl rfl ?_ | refine X_load_mem rfl rfl rfl (by first | assumption | exact Mem.get_of (by assumption) (by repeat first | assumption | refine Mem.le.trans (by assumption) ?_)) F.lay28 rfl rfl rfl ?_ | refine X_load_osl rfl rfl rfl (by assumption) (by repeat first | exact Rem.here _ | exact Rem.two | apply Rem.skip | apply Rem.over) (by first | exact row_map (by omega) | exact List.getElem?_eq_getElem (by omega)) F.lay28 rfl rfl rfl ?_
          refine X_fhR rfl rfl F.ok8 rfl (Put_at M b 2 (0 + 1 + 1) [⟨1, 2, ⟨#[97]⟩⟩, ⟨2, 1, ⟨#[98]⟩⟩] _ ⟨1, 2, ⟨#[97]⟩⟩ (by decide) hb2 (c := 12) (l' := [⟨1, 2, ⟨#[97]⟩⟩, ⟨2, 1, ⟨#[98]⟩⟩]) rfl rfl) (by repeat first | exact Rem.here _ | exact Rem.two | apply Rem.skip | apply Rem.over) (fun _ _ _ hm hw => (hw.lower (by first | exact hm | exact Mem.le.trans (by assumption) hm)).cnt (by intro zz; first | exact Nat.le_refl _ | (simp only [cnt_app, cnt_cons, cnt_nil, cat, List.append_eq, List.append_assoc, List.cons_append, List.nil_append, List.append_nil]; omega))) (putE_some rfl) ?_
          rintro _ M1 Hb3 _ ⟨hM1, rfl, hb3⟩; subst M1
          refine X_assign rfl rfl rfl rfl ?_
          refine XD_end ?_
          refine K_then ?_
          refine C_pick (.cons (k := 7) rfl (.cons (k := 6) rfl (.cons (k := 5) rfl (.cons (k := 4) rfl (.cons (k := 3) rfl (.cons (k := 1) rfl (.cons (k := 0) rfl .nil))))))) ?_
          refine C_seq ?_
          refine C_regionR (l := [0, 1, 2, 3, 4, 5, 6, 7]) (Hin := Hb3) (by repeat first | exact Rem.here _ | exact Rem.two | apply Rem.skip | apply Rem.over) rfl ?_
          refine X_move rfl rfl rfl rfl ?_
          refine X_fhR rfl rfl F.ok9 rfl (Take_at M b 2 (0 + 1 + 1 + 1) [⟨1, 2, ⟨#[97]⟩⟩, ⟨2, 1, ⟨#[98]⟩⟩] _ 0 hb3 (m := ⟨1, 2, ⟨#[97]⟩⟩) (c := 0) (l' := [⟨2, 1, ⟨#[98]⟩⟩]) rfl rfl rfl) (by repeat first | exact Rem.here _ | exact Rem.two | apply Rem.skip | apply Rem.over) (fun _ _ _ hm hw => (hw.lower (by first | exact hm | exact Mem.le.trans (by assumption) hm)).cnt (by intro zz; first | exact Nat.le_refl _ | (simp only [cnt_app, cnt_cons, cnt_nil, cat, List.append_eq, List.append_assoc, List.cons_append, List.nil_append, List.append_nil]; omega))) (putE_some rfl) ?_
          rintro _ M1 Hb4 _ ⟨hM1, rfl, hb4⟩; subst M1
          refine X_move rfl rfl rfl rfl ?_
          refine X_extract rfl rfl rfl rfl rfl ?_
          refine X_extract rfl rfl rfl rfl rfl ?_
          refine X_alloc rfl rfl F.zero28 (by constructor) rfl ?_; intro b5
          refine X_store rfl rfl rfl rfl (by constructor) (by first | exact Mail.flat _ | (simp [flat, cat, Segs.cells, Seg.cells, Value.oneCell']; done)) (by repeat first | exact Upd.head | apply Upd.tail | apply Upd.over) F.lay28 rfl rfl ?_
          refine X_assign rfl rfl rfl rfl ?_
          refine XD_end ?_
          refine K_then ?_
          refine C_pick (.cons (k := 9) rfl (.cons (k := 8) rfl (.cons (k := 7) rfl (.cons (k := 6) rfl (.cons (k := 5) rfl (.cons (k := 4) rfl (.cons (k := 3) rfl (.cons (k := 1) rfl (.cons (k := 0) rfl .nil))))))))) ?_
          refine C_seq ?_
          refine C_region (l := [0, 1, 2, 3, 4, 5, 6, 7]) rfl ?_
          refine X_move rfl rfl rfl rfl ?_
          refine X_fo rfl rfl F.ok12 rfl (At_at M b 2 (0 + 1 + 1 + 1) [⟨2, 1, ⟨#[98]⟩⟩] _ 0 hb4 (m := ⟨2, 1, ⟨#[98]⟩⟩) (c := 0) rfl rfl) (by repeat first | exact Rem.here _ | exact Rem.two | apply Rem.skip | apply Rem.over) (putE_some rfl) ?_
          rintro _ M1 _ ⟨hM1, rfl⟩; subst M1
          refine X_move rfl rfl rfl rfl ?_
          refine X_extract rfl rfl rfl rfl rfl ?_
          refine X_extract rfl rfl rfl rfl rfl ?_
          refine X_alloc rfl rfl F.zero28 (by constructor) rfl ?_; intro b6
          refine X_store rfl rfl rfl rfl (by constructor) (by first | exact Mail.flat _ | (simp [flat, cat, Segs.cells, Seg.cells, Value.oneCell']; done)) (by repeat first | exact Upd.head | apply Upd.tail | apply Upd.over) F.lay28 rfl rfl ?_
          refine X_assign rfl rfl rfl rfl ?_
          refine XD_end ?_
          refine K_then ?_
          refine C_pick (.cons (k := 11) rfl (.cons (k := 10) rfl (.cons (k := 9) rfl (.cons (k := 8) rfl (.cons (k := 7) rfl (.cons (k := 6) rfl (.cons (k := 5) rfl (.cons (k := 4) rfl (.cons (k := 3) rfl (.cons (k := 1) rfl (.cons (k := 0) rfl .nil))))))))))) ?_
          refine C_seq ?_
          refine C_region (l := [0, 1, 2, 3, 4, 5, 6, 7, 8, 9, 10, 11, 12, 13, 14, 15, 16, 17, 18, 19, 20, 21, 22, 23, 24, 25, 26, 27, 28, 29, 30, 31, 32, 33, 34, 35, 36, 37, 38, 39, 40, 41, 42]) rfl ?_
          refine X_move rfl rfl rfl rfl ?_
          refine X_cmp rfl rfl rfl rfl rfl rfl ?_
          refine X_move rfl rfl rfl rfl ?_
          refine XD_part 45 rfl (fun hc7 => ?_) (fun hc7 => ?_)
          · first | replace hc7 := dT hc7 | replace hc7 := dF hc7 | replace hc7 := nT hc7 | replace hc7 := nF hc7 | skip
            first
            | (exfalso; omega)
            | (exfalso; simp [eqX] at hc7; done)
            | skip
              refine X_move rfl rfl rfl rfl ?_
              refine X_move rfl rfl rfl rfl ?_
              refine X_cmp rfl rfl rfl rfl rfl rfl ?_
              refine X_pick rfl rfl rfl rfl rfl ?_
              refine X_move rfl rfl rfl rfl ?_
              refine XD_part 50 rfl (fun hc8 => ?_) (fun hc8 => ?_)
              · first | replace hc8 := dT hc8 | replace hc8 := dF hc8 | replace hc8 := nT hc8 | replace hc8 := nF hc8 | skip
                first
                | (exfalso; omega)
                | (exfalso; simp [eqX] at hc8; done)
                | skip
                  refine X_move rfl rfl rfl rfl ?_
                  refine X_cmp rfl rfl rfl rfl rfl rfl ?_
                  refine X_pick rfl rfl rfl rfl rfl ?_
                  refine X_move rfl rfl rfl rfl ?_
                  refine XD_part 54 rfl (fun hc9 => ?_) (fun hc9 => ?_)
                  · first | replace hc9 := dT hc9 | replace hc9 := dF hc9 | replace hc9 := nT hc9 | replace hc9 := nF hc9 | skip
                    first
                    | (exfalso; omega)
                    | (exfalso; simp [eqX] at hc9; done)
                    | skip
                      refine X_move rfl rfl rfl rfl ?_
                      refine X_move rfl rfl rfl rfl ?_
                      refine X_cmp rfl rfl rfl rfl rfl rfl ?_
                      refine X_pick rfl rfl rfl rfl rfl ?_
                      refine X_move rfl rfl rfl rfl ?_
                      refine XD_part 59 rfl (fun hc10 => ?_) (fun hc10 => ?_)
                      · first | replace hc10 := dT hc10 | replace hc10 := dF hc10 | replace hc10 := nT hc10 | replace hc10 := nF hc10 | skip
                        first
                        | (exfalso; omega)
                        | (exfalso; simp [eqX] at hc10; done)
                        | skip
                          first | refine X_load rfl rfl rfl (by repeat first | exact List.Mem.head _ | refine List.Mem.tail _ ?_ | refine List.mem_append_right _ ?_) F.lay28 rfl rfl rfl ?_ | refine X_load_el rfl rfl rfl (by first | assumption | exact SlM.mono (by assumption) (by assumption)) (by first | exact row_map (by omega) | exact List.getElem?_eq_getElem (by omega)) F.lay28 rfl rfl rfl ?_ | refine X_load_rd rfl rfl rfl (by assumption) (by first | exact row_map (by omega) | exact List.getElem?_eq_getElem (by omega)) F.lay28 rfl rfl rfl ?_ | refine X_load_mem rfl rfl rfl (by first | assumption | exact Mem.get_of (by assumption) (by repeat first | assumption | refine Mem.le.trans (by assumption) ?_)) F.lay28 rfl rfl rfl ?_ | refine X_load_osl rfl rfl rfl (by assumption) (by repeat first | exact Rem.here _ | exact Rem.two | apply Rem.skip | apply Rem.over) (by first | exact row_map (by omega) | exact List.getElem?_eq_getElem (by omega)) F.lay28 rfl rfl rfl ?_
                          first | refine X_load rfl rfl rfl (by repeat first | exact List.Mem.head _ | refine List.Mem.tail _ ?_ | refine List.mem_append_right _ ?_) F.lay28 rfl rfl rfl ?_ | refine X_load_el rfl rfl rfl (by first | assumption | exact SlM.mono (by assumption) (by assumption)) (by first | exact row_map (by omega) | exact List.getElem?_eq_getElem (by omega)) F.lay28 rfl rfl rfl ?_ | refine X_load_rd rfl rfl rfl (by assumption) (by first | exact row_map (by omega) | exact List.getElem?_eq_getElem (by omega)) F.lay28 rfl rfl rfl ?_ | refine X_load_mem rfl rfl rfl (by first | assumption | exact Mem.get_of (by assumption) (by repeat first | assumption | refine Mem.le.trans (by assumption) ?_)) F.lay28 rfl rfl rfl ?_ | refine X_load_osl rfl rfl rfl (by assumption) (by repeat first | exact Rem.here _ | exact Rem.two | apply Rem.skip | apply Rem.over) (by first | exact row_map (by omega) | exact List.getElem?_eq_getElem (by omega)) F.lay28 rfl rfl rfl ?_
                          refine X_same (m := 20) rfl rfl rfl rfl rfl (by constructor) (by constructor) F.lay28 F.kinds28 rfl F.guard28 (by repeat first | exact trivial | exact rfl | refine And.intro ?_ ?_) (by repeat first | exact trivial | exact rfl | refine And.intro ?_ ?_) rfl rfl rfl ?_; intro c11 he12
                          replace he12 : c11 = true ↔ Segs.cells _ = Segs.cells _ := he12
                          obtain rfl := he12.2 rfl
                          refine X_pick rfl rfl rfl rfl rfl ?_
                          refine X_move rfl rfl rfl rfl ?_
                          refine XD_part 64 rfl (fun hc13 => ?_) (fun hc13 => ?_)
                          · first | replace hc13 := dT hc13 | replace hc13 := dF hc13 | replace hc13 := nT hc13 | replace hc13 := nF hc13 | skip
                            first
                            | (exfalso; omega)
                            | (exfalso; simp [eqX] at hc13; done)
                            | skip
                              refine X_move rfl rfl rfl rfl ?_
                              refine X_move rfl rfl rfl rfl ?_
                              refine X_cmp rfl rfl rfl rfl rfl rfl ?_
                              refine X_pick rfl rfl rfl rfl rfl ?_
                              refine X_move rfl rfl rfl rfl ?_
                              refine XD_part 69 rfl (fun hc14 => ?_) (fun hc14 => ?_)
                              · first | replace hc14 := dT hc14 | replace hc14 := dF hc14 | replace hc14 := nT hc14 | replace hc14 := nF hc14 | skip
                                first
                                | (exfalso; omega)
                                | (exfalso; simp [eqX] at hc14; done)
                                | skip
                                  first | refine X_load rfl rfl rfl (by repeat first | exact List.Mem.head _ | refine List.Mem.tail _ ?_ | refine List.mem_append_right _ ?_) F.lay28 rfl rfl rfl ?_ | refine X_load_el rfl rfl rfl (by first | assumption | exact SlM.mono (by assumption) (by assumption)) (by first | exact row_map (by omega) | exact List.getElem?_eq_getElem (by omega)) F.lay28 rfl rfl rfl ?_ | refine X_load_rd rfl rfl rfl (by assumption) (by first | exact row_map (by omega) | exact List.getElem?_eq_getElem (by omega)) F.lay28 rfl rfl rfl ?_ | refine X_load_mem rfl rfl rfl (by first | assumption | exact Mem.get_of (by assumption) (by repeat first | assumption | refine Mem.le.trans (by assumption) ?_)) F.lay28 rfl rfl rfl ?_ | refine X_load_osl rfl rfl rfl (by assumption) (by repeat first | exact Rem.here _ | exact Rem.two | apply Rem.skip | apply Rem.over) (by first | exact row_map (by omega) | exact List.getElem?_eq_getElem (by omega)) F.lay28 rfl rfl rfl ?_
                                  first | refine X_load rfl rfl rfl (by repeat first | exact List.Mem.head _ | refine List.Mem.tail _ ?_ | refine List.mem_append_right _ ?_) F.lay28 rfl rfl rfl ?_ | refine X_load_el rfl rfl rfl (by first | assumption | exact SlM.mono (by assumption) (by assumption)) (by first | exact row_map (by omega) | exact List.getElem?_eq_getElem (by omega)) F.lay28 rfl rfl rfl ?_ | refine X_load_rd rfl rfl rfl (by assumption) (by first | exact row_map (by omega) | exact List.getElem?_eq_getElem (by omega)) F.lay28 rfl rfl rfl ?_ | refine X_load_mem rfl rfl rfl (by first | assumption | exact Mem.get_of (by assumption) (by repeat first | assumption | refine Mem.le.trans (by assumption) ?_)) F.lay28 rfl rfl rfl ?_ | refine X_load_osl rfl rfl rfl (by assumption) (by repeat first | exact Rem.here _ | exact Rem.two | apply Rem.skip | apply Rem.over) (by first | exact row_map (by omega) | exact List.getElem?_eq_getElem (by omega)) F.lay28 rfl rfl rfl ?_
                                  refine X_same (m := 20) rfl rfl rfl rfl rfl (by constructor) (by constructor) F.lay28 F.kinds28 rfl F.guard28 (by repeat first | exact trivial | exact rfl | refine And.intro ?_ ?_) (by repeat first | exact trivial | exact rfl | refine And.intro ?_ ?_) rfl rfl rfl ?_; intro c15 he16
                                  replace he16 : c15 = true ↔ Segs.cells _ = Segs.cells _ := he16
                                  obtain rfl := he16.2 rfl
                                  refine X_pick rfl rfl rfl rfl rfl ?_
                                  refine X_move rfl rfl rfl rfl ?_
                                  refine XD_part 74 rfl (fun hc17 => ?_) (fun hc17 => ?_)
                                  · first | replace hc17 := dT hc17 | replace hc17 := dF hc17 | replace hc17 := nT hc17 | replace hc17 := nF hc17 | skip
                                    first
                                    | (exfalso; omega)
                                    | (exfalso; simp [eqX] at hc17; done)
                                    | skip
                                      refine X_move rfl rfl rfl rfl ?_
                                      refine X_fo rfl rfl F.ok11 rfl (Size_ok M b 2 (0 + 1 + 1 + 1) [⟨2, 1, ⟨#[98]⟩⟩] _ hb4) (by repeat first | exact Rem.here _ | exact Rem.two | apply Rem.skip | apply Rem.over) (putE_some rfl) ?_
                                      rintro _ M1 _ ⟨hM1, rfl⟩; subst M1
                                      refine X_cmp rfl rfl rfl rfl rfl rfl ?_
                                      refine X_pick rfl rfl rfl rfl rfl ?_
                                      refine X_move rfl rfl rfl rfl ?_
                                      refine XD_part 79 rfl (fun hc18 => ?_) (fun hc18 => ?_)
                                      · first | replace hc18 := dT hc18 | replace hc18 := dF hc18 | replace hc18 := nT hc18 | replace hc18 := nF hc18 | skip
                                        first
                                        | (exfalso; omega)
                                        | (exfalso; simp [eqX] at hc18; done)
                                        | skip
                                          refine X_move rfl rfl rfl rfl ?_
                                          refine X_fo rfl rfl F.ok17 rfl (To_at M b 2 (0 + 1 + 1 + 1) [⟨2, 1, ⟨#[98]⟩⟩] _ 1 hb4 (xs := [0]) rfl) (by repeat first | exact Rem.here _ | exact Rem.two | apply Rem.skip | apply Rem.over) (putE_some rfl) ?_
                                          rintro _ M2 hm2 ⟨ad2, c2, rfl, hsl⟩
                                          refine X_buildSliceF rfl rfl F.elem47 F.zero3 rfl rfl (.cons rfl (by constructor) .nil) rfl rfl (by simp only [List.map_cons, List.map_nil] <;> rfl) rfl ?_; intro b19 hob20
                                          refine X_fo rfl rfl F.ok20 rfl (Ints_ok M2 [_] _ _ _ _ [0] [0] (hsl.rd _) (OSl.rd hob20 M2) (by decide)) (by repeat first | exact Rem.here _ | exact Rem.two | apply Rem.skip | apply Rem.over) (putE_some rfl) ?_
                                          rintro _ M1 _ ⟨hM1, rfl⟩; subst M1
                                          refine X_pick rfl rfl rfl rfl rfl ?_
                                          refine X_assign rfl rfl rfl rfl ?_
                                          refine XD_end ?_
                                          refine K_then ?_
                                          refine C_pick (.cons (k := 0) rfl .nil) ?_
                                          refine C_ret ?_
                                          refine K_end (.inr rfl) (.tmp rfl .nil) (fun w hw => ?_)
                                          exact ⟨_, rfl, (hw.lower hm2).cnt (by intro zz; first | exact Nat.le_refl _ | (simp only [cnt_app, cnt_cons, cnt_nil, cat, List.append_eq, List.append_assoc, List.cons_append, List.nil_append, List.append_nil]; omega)), rfl⟩
                                      · first | replace hc18 := dT hc18 | replace hc18 := dF hc18 | replace hc18 := nT hc18 | replace hc18 := nF hc18 | skip
                                        first
                                        | (exfalso; omega)
                                        | (exfalso; simp [eqX] at hc18; done)
                                        | skip
                                          refine X_skip rfl rfl rfl ?_
                                          refine X_skip rfl rfl rfl ?_
                                          refine X_skip rfl rfl rfl ?_
                                          refine X_skip rfl rfl rfl ?_
                                          refine X_pick rfl rfl rfl rfl rfl ?_
                                          refine X_assign rfl rfl rfl rfl ?_
                                          refine XD_end ?_
                                          refine K_then ?_
                                          refine C_pick (.cons (k := 0) rfl .nil) ?_
                                          refine C_ret ?_
                                          refine K_end (.inr rfl) (.tmp rfl .nil) (fun w hw => ?_)
                                          fail
                                  · first | replace hc17 := dT hc17 | replace hc17 := dF hc17 | replace hc17 := nT hc17 | replace hc17 := nF hc17 | skip
                                    first
                                    | (exfalso; omega)
                                    | (exfalso; simp [eqX] at hc17; done)
                                    | skip
                                      refine X_skip rfl rfl rfl ?_
                                      refine X_skip rfl rfl rfl ?_
                                      refine X_skip rfl rfl rfl ?_
                                      refine X_pick rfl rfl rfl rfl rfl ?_
                                      refine X_move rfl rfl rfl rfl ?_
                                      refine X_skip rfl rfl rfl ?_
                                      refine X_skip rfl rfl rfl ?_
                                      refine X_skip rfl rfl rfl ?_
                                      refine X_skip rfl rfl rfl ?_
                                      refine X_pick rfl rfl rfl rfl rfl ?_
                                      refine X_assign rfl rfl rfl rfl ?_
                                      refine XD_end ?_
                                      refine K_then ?_
                                      refine C_pick (.cons (k := 0) rfl .nil) ?_
                                      refine C_ret ?_
                                      refine K_end (.inr rfl) (.tmp rfl .nil) (fun w hw => ?_)
                                      fail
                              · first | replace hc14 := dT hc14 | replace hc14 := dF hc14 | replace hc14 := nT hc14 | replace hc14 := nF hc14 | skip
                                first
                                | (exfalso; omega)
                                | (exfalso; simp [eqX] at hc14; done)
                                | skip
                                  refine X_skip rfl rfl rfl ?_
                                  refine X_skip rfl rfl rfl ?_
                                  refine X_skip rfl rfl rfl ?_
                                  refine X_pick rfl rfl rfl rfl rfl ?_
                                  refine X_move rfl rfl rfl rfl ?_
                                  refine X_skip rfl rfl rfl ?_
                                  refine X_skip rfl rfl rfl ?_
                                  refine X_skip rfl rfl rfl ?_
                                  refine X_pick rfl rfl rfl rfl rfl ?_
                                  refine X_move rfl rfl rfl rfl ?_
                                  refine X_skip rfl rfl rfl ?_
                                  refine X_skip rfl rfl rfl ?_
                                  refine X_skip rfl rfl rfl ?_
                                  refine X_skip rfl rfl rfl ?_
                                  refine X_pick rfl rfl rfl rfl rfl ?_
                                  refine X_assign rfl rfl rfl rfl ?_
                                  refine XD_end ?_
                                  refine K_then ?_
                                  refine C_pick (.cons (k := 0) rfl .nil) ?_
                                  refine C_ret ?_
                                  refine K_end (.inr rfl) (.tmp rfl .nil) (fun w hw => ?_)
                                  fail
                          · first | replace hc13 := dT hc13 | replace hc13 := dF hc13 | replace hc13 := nT hc13 | replace hc13 := nF hc13 | skip
                            first
                            | (exfalso; omega)
                            | (exfalso; simp [eqX] at hc13; done)
                            | skip
                              refine X_skip rfl rfl rfl ?_
                              refine X_skip rfl rfl rfl ?_
                              refine X_skip rfl rfl rfl ?_
                              refine X_pick rfl rfl rfl rfl rfl ?_
                              refine X_move rfl rfl rfl rfl ?_
                              refine X_skip rfl rfl rfl ?_
                              refine X_skip rfl rfl rfl ?_
                              refine X_skip rfl rfl rfl ?_
                              refine X_pick rfl rfl rfl rfl rfl ?_
                              refine X_move rfl rfl rfl rfl ?_
                              refine X_skip rfl rfl rfl ?_
                              refine X_skip rfl rfl rfl ?_
                              refine X_skip rfl rfl rfl ?_
                              refine X_pick rfl rfl rfl rfl rfl ?_
                              refine X_move rfl rfl rfl rfl ?_
                              refine X_skip rfl rfl rfl ?_
                              refine X_skip rfl rfl rfl ?_
                              refine X_skip rfl rfl rfl ?_
                              refine X_skip rfl rfl rfl ?_
                              refine X_pick rfl rfl rfl rfl rfl ?_
                              refine X_assign rfl rfl rfl rfl ?_
                              refine XD_end ?_
                              refine K_then ?_
                              refine C_pick (.cons (k := 0) rfl .nil) ?_
                              refine C_ret ?_
                              refine K_end (.inr rfl) (.tmp rfl .nil) (fun w hw => ?_)
                              fail
                      · first | replace hc10 := dT hc10 | replace hc10 := dF hc10 | replace hc10 := nT hc10 | replace hc10 := nF hc10 | skip
                        first
                        | (exfalso; omega)
                        | (exfalso; simp [eqX] at hc10; done)
                        | skip
                          refine X_skip rfl rfl rfl ?_
                          refine X_skip rfl rfl rfl ?_
                          refine X_skip rfl rfl rfl ?_
                          refine X_pick rfl rfl rfl rfl rfl ?_
                          refine X_move rfl rfl rfl rfl ?_
                          refine X_skip rfl rfl rfl ?_
                          refine X_skip rfl rfl rfl ?_
                          refine X_skip rfl rfl rfl ?_
                          refine X_pick rfl rfl rfl rfl rfl ?_
                          refine X_move rfl rfl rfl rfl ?_
                          refine X_skip rfl rfl rfl ?_
                          refine X_skip rfl rfl rfl ?_
                          refine X_skip rfl rfl rfl ?_
                          refine X_pick rfl rfl rfl rfl rfl ?_
                          refine X_move rfl rfl rfl rfl ?_
                          refine X_skip rfl rfl rfl ?_
                          refine X_skip rfl rfl rfl ?_
                          refine X_skip rfl rfl rfl ?_
                          refine X_pick rfl rfl rfl rfl rfl ?_
                          refine X_move rfl rfl rfl rfl ?_
                          refine X_skip rfl rfl rfl ?_
                          refine X_skip rfl rfl rfl ?_
                          refine X_skip rfl rfl rfl ?_
                          refine X_skip rfl rfl rfl ?_
                          refine X_pick rfl rfl rfl rfl rfl ?_
                          refine X_assign rfl rfl rfl rfl ?_
                          refine XD_end ?_
                          refine K_then ?_
                          refine C_pick (.cons (k := 0) rfl .nil) ?_
                          refine C_ret ?_
                          refine K_end (.inr rfl) (.tmp rfl .nil) (fun w hw => ?_)
                          fail
                  · first | replace hc9 := dT hc9 | replace hc9 := dF hc9 | replace hc9 := nT hc9 | replace hc9 := nF hc9 | skip
                    first
                    | (exfalso; omega)
                    | (exfalso; simp [eqX] at hc9; done)
                    | skip
                      refine X_skip rfl rfl rfl ?_
                      refine X_skip rfl rfl rfl ?_
                      refine X_skip rfl rfl rfl ?_
                      refine X_pick rfl rfl rfl rfl rfl ?_
                      refine X_move rfl rfl rfl rfl ?_
                      refine X_skip rfl rfl rfl ?_
                      refine X_skip rfl rfl rfl ?_
                      refine X_skip rfl rfl rfl ?_
                      refine X_pick rfl rfl rfl rfl rfl ?_
                      refine X_move rfl rfl rfl rfl ?_
                      refine X_skip rfl rfl rfl ?_
                      refine X_skip rfl rfl rfl ?_
                      refine X_skip rfl rfl rfl ?_
                      refine X_pick rfl rfl rfl rfl rfl ?_
                      refine X_move rfl rfl rfl rfl ?_
                      refine X_skip rfl rfl rfl ?_
                      refine X_skip rfl rfl rfl ?_
                      refine X_skip rfl rfl rfl ?_
                      refine X_pick rfl rfl rfl rfl rfl ?_
                      refine X_move rfl rfl rfl rfl ?_
                      refine X_skip rfl rfl rfl ?_
                      refine X_skip rfl rfl rfl ?_
                      refine X_skip rfl rfl rfl ?_
                      refine X_pick rfl rfl rfl rfl rfl ?_
                      refine X_move rfl rfl rfl rfl ?_
                      refine X_skip rfl rfl rfl ?_
                      refine X_skip rfl rfl rfl ?_
                      refine X_skip rfl rfl rfl ?_
                      refine X_skip rfl rfl rfl ?_
                      refine X_pick rfl rfl rfl rfl rfl ?_
                      refine X_assign rfl rfl rfl rfl ?_
                      refine XD_end ?_
                      refine K_then ?_
                      refine C_pick (.cons (k := 0) rfl .nil) ?_
                      refine C_ret ?_
                      refine K_end (.inr rfl) (.tmp rfl .nil) (fun w hw => ?_)
                      fail
              · first | replace hc8 := dT hc8 | replace hc8 := dF hc8 | replace hc8 := nT hc8 | replace hc8 := nF hc8 | skip
                first
                | (exfalso; omega)
                | (exfalso; simp [eqX] at hc8; done)
                | skip
                  refine X_skip rfl rfl rfl ?_
                  refine X_skip rfl rfl rfl ?_
                  refine X_pick rfl rfl rfl rfl rfl ?_
                  refine X_move rfl rfl rfl rfl ?_
                  refine X_skip rfl rfl rfl ?_
                  refine X_skip rfl rfl rfl ?_
                  refine X_skip rfl rfl rfl ?_
                  refine X_pick rfl rfl rfl rfl rfl ?_
                  refine X_move rfl rfl rfl rfl ?_
                  refine X_skip rfl rfl rfl ?_
                  refine X_skip rfl rfl rfl ?_
                  refine X_skip rfl rfl rfl ?_
                  refine X_pick rfl rfl rfl rfl rfl ?_
                  refine X_move rfl rfl rfl rfl ?_
                  refine X_skip rfl rfl rfl ?_
                  refine X_skip rfl rfl rfl ?_
                  refine X_skip rfl rfl rfl ?_
                  refine X_pick rfl rfl rfl rfl rfl ?_
                  refine X_move rfl rfl rfl rfl ?_
                  refine X_skip rfl rfl rfl ?_
                  refine X_skip rfl rfl rfl ?_
                  refine X_skip rfl rfl rfl ?_
                  refine X_pick rfl rfl rfl rfl rfl ?_
                  refine X_move rfl rfl rfl rfl ?_
                  refine X_skip rfl rfl rfl ?_
                  refine X_skip rfl rfl rfl ?_
                  refine X_skip rfl rfl rfl ?_
                  refine X_pick rfl rfl rfl rfl rfl ?_
                  refine X_move rfl rfl rfl rfl ?_
                  refine X_skip rfl rfl rfl ?_
                  refine X_skip rfl rfl rfl ?_
                  refine X_skip rfl rfl rfl ?_
                  refine X_skip rfl rfl rfl ?_
                  refine X_pick rfl rfl rfl rfl rfl ?_
                  refine X_assign rfl rfl rfl rfl ?_
                  refine XD_end ?_
                  refine K_then ?_
                  refine C_pick (.cons (k := 0) rfl .nil) ?_
                  refine C_ret ?_
                  refine K_end (.inr rfl) (.tmp rfl .nil) (fun w hw => ?_)
                  fail
          · first | replace hc7 := dT hc7 | replace hc7 := dF hc7 | replace hc7 := nT hc7 | replace hc7 := nF hc7 | skip
            first
            | (exfalso; omega)
            | (exfalso; simp [eqX] at hc7; done)
            | skip
              refine X_skip rfl rfl rfl ?_
              refine X_skip rfl rfl rfl ?_
              refine X_skip rfl rfl rfl ?_
              refine X_pick rfl rfl rfl rfl rfl ?_
              refine X_move rfl rfl rfl rfl ?_
              refine X_skip rfl rfl rfl ?_
              refine X_skip rfl rfl rfl ?_
              refine X_pick rfl rfl rfl rfl rfl ?_
              refine X_move rfl rfl rfl rfl ?_
              refine X_skip rfl rfl rfl ?_
              refine X_skip rfl rfl rfl ?_
              refine X_skip rfl rfl rfl ?_
              refine X_pick rfl rfl rfl rfl rfl ?_
              refine X_move rfl rfl rfl rfl ?_
              refine X_skip rfl rfl rfl ?_
              refine X_skip rfl rfl rfl ?_
              refine X_skip rfl rfl rfl ?_
              refine X_pick rfl rfl rfl rfl rfl ?_
              refine X_move rfl rfl rfl rfl ?_
              refine X_skip rfl rfl rfl ?_
              refine X_skip rfl rfl rfl ?_
              refine X_skip rfl rfl rfl ?_
              refine X_pick rfl rfl rfl rfl rfl ?_
              refine X_move rfl rfl rfl rfl ?_
              refine X_skip rfl rfl rfl ?_
              refine X_skip rfl rfl rfl ?_
              refine X_skip rfl rfl rfl ?_
              refine X_pick rfl rfl rfl rfl rfl ?_
              refine X_move rfl rfl rfl rfl ?_
              refine X_skip rfl rfl rfl ?_
              refine X_skip rfl rfl rfl ?_
              refine X_skip rfl rfl rfl ?_
              refine X_pick rfl rfl rfl rfl rfl ?_
              refine X_move rfl rfl rfl rfl ?_
              refine X_skip rfl rfl rfl ?_
              refine X_skip rfl rfl rfl ?_
              refine X_skip rfl rfl rfl ?_
              refine X_skip rfl rfl rfl ?_
              refine X_pick rfl rfl rfl rfl rfl ?_
              refine X_assign rfl rfl rfl rfl ?_
              refine XD_end ?_
              refine K_then ?_
              refine C_pick (.cons (k := 0) rfl .nil) ?_
              refine C_ret ?_
              refine K_end (.inr rfl) (.tmp rfl .nil) (fun w hw => ?_)
              fail

end Go.Proofs.Ytenamdnnmdilgaa
