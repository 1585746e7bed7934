/-
  The walks of a bag: which messages are to an address.
-/
import Derived.Test.YtenamdnnmdilgaaBag3
set_option linter.unusedSimpArgs false
set_option linter.unusedVariables false
set_option linter.unnecessarySimpa false
namespace Go.Proofs.Ytenamdnnmdilgaa
open Go.Esp
theorem F.fld28_1 : fld Try.prog 28 1 = some (1, 3) := by kernel_rfl
theorem F.lay23 : lay Try.prog 23 = some (false, 1) := by kernel_rfl
theorem F.ok27 : okFn Try.prog 27 = true := by kernel_rfl
theorem F.ok28 : okFn Try.prog 28 = true := by kernel_rfl
theorem F.ok30 : okFn Try.prog 30 = true := by kernel_rfl
theorem F.ok31 : okFn Try.prog 31 = true := by kernel_rfl

theorem places_ok (M : Mem) (p : Option Addr) (a : Int) : Esp.Fn Try.prog 28 [.pointer p, .int .i64 a] M (fun M' v => ∃ c1 c2, v = .func (.func 31) #[] #[.pointer (some ⟨c1, 0, none⟩), .pointer (some ⟨c2, 0, none⟩)] ∧ M' c1 = some (rowO [.one (.pointer p)] 23) ∧ M' c2 = some (rowO [.one (.int .i64 a)] 3)) := by
  refine fn_enter Try.func28 rfl Try.ntmps28 rfl ?_; intro H
  refine C_seq ?_
  refine C_region (l := [0, 1, 2]) rfl ?_
  refine X_box rfl rfl rfl (by constructor) rfl ?_; intro b1
  refine X_box rfl rfl rfl (by constructor) rfl ?_; intro b2
  refine X_assign rfl rfl rfl rfl ?_
  refine XD_end ?_
  refine K_then ?_
  refine C_pick (.cons (k := 4) rfl (.cons (k := 3) rfl (.cons (k := 2) rfl .nil))) ?_
  refine C_seq ?_
  refine C_region (l := [0, 1]) rfl ?_
  refine X_makeFunc rfl rfl rfl rfl rfl ?_
  refine X_assign rfl rfl rfl rfl ?_
  refine XD_end ?_
  refine K_then ?_
  refine C_pick (.cons (k := 4) rfl .nil) ?_
  refine C_ret ?_
  refine K_end (.inr rfl) (.tmp rfl .nil) (fun w hw => ?_)
  obtain ⟨g1, g2⟩ := hw.freeze
  obtain ⟨g3, g4⟩ := g2.freeze
  exact ⟨_, _, rfl, g1.trans g3, g4, _, _, rfl, Mem.add_self _ _ _, Mem.get_of (Mem.add_self _ _ _) g3⟩

theorem places_seq (M : Mem) (b : Nat) (most N : Int) (l : List Mail) (Hb : Hp) (a : Int) (c1 c2 : Nat) (hb : BagIs b most N l Hb) (h1 : M c1 = some (rowO [.one (.pointer (some ⟨b, 0, none⟩))] 23)) (h2 : M c2 = some (rowO [.one (.int .i64 a)] 3)) : Seqs Try.prog 31 [.pointer (some ⟨c1, 0, none⟩), .pointer (some ⟨c2, 0, none⟩)] (fun i : Int => [.int .i64 i]) (toI a l) M Hb := by
  intro lp J Jx hR M0 Jb G w hm0 hJ hw
  obtain ⟨next, mb, rv, o, hs, ids, im, rfl, ho, hm, hin, hn0, hnN, hl1, hl2⟩ := hb
  obtain ⟨ad, cp, rfl⟩ := ho.val
  have hil : (ids.map oneI).length = l.length := by simp [hin.len]
  have hil2 : ids.length = l.length := hin.len
  have hget := fun z k hk => Inner.at hin z k hk
  refine enter (S := St M0 (Jb ++ ((b, rowO [.one (.int .i64 most), .one (.int .i64 next), .one (.slice ad (ids.map oneI).length cp), .one (.map (some mb))] 54) :: (mb, o) :: (hs ++ G)))) Try.func31 rfl Try.ntmps31 rfl hw ?_
  refine C_seq ?_
  refine C_region (l := [0, 1, 2, 3, 4, 5]) rfl ?_
  first | refine X_load rfl rfl rfl (by repeat first | exact List.Mem.head _ | refine List.Mem.tail _ ?_ | refine List.mem_append_right _ ?_) F.lay23 rfl rfl rfl ?_ | refine X_load_el rfl rfl rfl (by first | assumption | exact SlM.mono (by assumption) (by assumption)) (by first | exact row_map (by omega) | exact List.getElem?_eq_getElem (by omega)) F.lay23 rfl rfl rfl ?_ | refine X_load_rd rfl rfl rfl (by assumption) (by first | exact row_map (by omega) | exact List.getElem?_eq_getElem (by omega)) F.lay23 rfl rfl rfl ?_ | refine X_load_mem rfl rfl rfl (by first | assumption | exact Mem.get_of (by assumption) (by repeat first | assumption | refine Mem.le.trans (by assumption) ?_)) F.lay23 rfl rfl rfl ?_ | refine X_load_osl rfl rfl rfl (by assumption) (by repeat first | exact Rem.here _ | exact Rem.two | apply Rem.skip | apply Rem.over) (by first | exact row_map (by omega) | exact List.getElem?_eq_getElem (by omega)) F.lay23 rfl rfl rfl ?_
  refine X_nilCheck rfl rfl rfl rfl ?_
  first | refine X_fieldAddr rfl rfl rfl F.foff54_2 rfl ?_ | refine X_fieldAddr_el rfl rfl rfl (by first | exact ⟨_, _, rfl⟩ | assumption | exact SlM.plain (by assumption) (by simp; omega) | exact RdS.plain (by assumption) (by simp; omega) | exact OSl.plain (by assumption) (by simp; omega)) F.foff54_2 rfl ?_
  first | refine X_load rfl rfl rfl (by repeat first | exact List.Mem.head _ | refine List.Mem.tail _ ?_ | refine List.mem_append_right _ ?_) F.lay47 rfl rfl rfl ?_ | refine X_load_el rfl rfl rfl (by first | assumption | exact SlM.mono (by assumption) (by assumption)) (by first | exact row_map (by omega) | exact List.getElem?_eq_getElem (by omega)) F.lay47 rfl rfl rfl ?_ | refine X_load_rd rfl rfl rfl (by assumption) (by first | exact row_map (by omega) | exact List.getElem?_eq_getElem (by omega)) F.lay47 rfl rfl rfl ?_ | refine X_load_mem rfl rfl rfl (by first | assumption | exact Mem.get_of (by assumption) (by repeat first | assumption | refine Mem.le.trans (by assumption) ?_)) F.lay47 rfl rfl rfl ?_ | refine X_load_osl rfl rfl rfl (by assumption) (by repeat first | exact Rem.here _ | exact Rem.two | apply Rem.skip | apply Rem.over) (by first | exact row_map (by omega) | exact List.getElem?_eq_getElem (by omega)) F.lay47 rfl rfl rfl ?_
  refine X_len_sl rfl rfl rfl rfl F.elem47 rfl ?_
  refine X_move rfl rfl rfl rfl ?_
  refine XD_end ?_
  refine K_then ?_
  refine C_pick (.cons (k := 11) rfl (.cons (k := 10) rfl (.cons (k := 9) rfl (.cons (k := 0) rfl (.cons (k := 1) rfl (.cons (k := 2) rfl .nil)))))) ?_
  refine C_block ?_
  refine C_pick (.cons (k := 11) rfl (.cons (k := 10) rfl (.cons (k := 9) rfl (.cons (k := 0) rfl (.cons (k := 1) rfl (.cons (k := 2) rfl .nil)))))) ?_
  refine C_loop (.succ .zero) (fun (x : Nat × Mem × Hp) S z => ∃ k M1 Jb1, x = (k, M1, Jb1) ∧ S = St M1 (Jb1 ++ ((b, rowO [.one (.int .i64 most), .one (.int .i64 next), .one (.slice ad (ids.map oneI).length cp), .one (.map (some mb))] 54) :: (mb, o) :: (hs ++ G))) ∧ z = [(11, .int .i64 (k : Int))] ∧ k ≤ l.length ∧ M0.le M1 ∧ J (toIk a l k) M1 Jb1) (fun x => l.length - x.1) ((0, M0, Jb)) (⟨0, M0, Jb, rfl, rfl, rfl, by omega, Mem.le.refl _, hJ⟩) ?_
  rintro _ _ _ ⟨k, M1, Jb1, rfl, rfl, rfl, hk, hm1, hJ1⟩
  refine C_seq ?_
  refine C_region (l := [0]) rfl ?_
  refine X_cmp rfl rfl rfl rfl rfl rfl ?_
  refine XD_end ?_
  refine K_then ?_
  refine C_seq ?_
  refine C_cond rfl (fun hc1 => ?_) (fun hc1 => ?_)
  · first | replace hc1 := dT hc1 | replace hc1 := dF hc1 | replace hc1 := nT hc1 | replace hc1 := nF hc1 | skip
    first
    | (exfalso; omega)
    | (exfalso; simp [eqX] at hc1; done)
    | skip
      refine C_skip ?_
      refine K_then ?_
      refine C_seq ?_
      refine C_block ?_
      refine C_seq ?_
      refine C_region (l := [0, 1, 2, 3, 4]) rfl ?_
      refine X_move rfl rfl rfl rfl ?_
      refine X_indexAddr rfl rfl rfl rfl F.elem47 (by first | rfl | exact (Int.toNat_of_nonneg (by omega)).symm) (by first | omega | (simp; omega)) (by first | exact ⟨_, _, rfl⟩ | assumption | exact SlM.plain (by assumption) (by simp; omega) | exact RdS.plain (by assumption) (by simp; omega) | exact OSl.plain (by assumption) (by simp; omega)) rfl ?_
      first | refine X_load rfl rfl rfl (by repeat first | exact List.Mem.head _ | refine List.Mem.tail _ ?_ | refine List.mem_append_right _ ?_) F.lay3 rfl rfl rfl ?_ | refine X_load_el rfl rfl rfl (by first | assumption | exact SlM.mono (by assumption) (by assumption)) (by first | exact row_map (by omega) | exact List.getElem?_eq_getElem (by omega)) F.lay3 rfl rfl rfl ?_ | refine X_load_rd rfl rfl rfl (by assumption) (by first | exact row_map (by omega) | exact List.getElem?_eq_getElem (by omega)) F.lay3 rfl rfl rfl ?_ | refine X_load_mem rfl rfl rfl (by first | assumption | exact Mem.get_of (by assumption) (by repeat first | assumption | refine Mem.le.trans (by assumption) ?_)) F.lay3 rfl rfl rfl ?_ | refine X_load_osl rfl rfl rfl (by assumption) (by repeat first | exact Rem.here _ | exact Rem.two | apply Rem.skip | apply Rem.over) (by first | exact row_map (by omega) | exact List.getElem?_eq_getElem (by omega)) F.lay3 rfl rfl rfl ?_
      refine X_assign rfl rfl rfl rfl ?_
      refine X_assign rfl rfl rfl rfl ?_
      refine XD_end ?_
      refine K_then ?_
      refine C_seq ?_
      refine C_region_anyR (l := [0, 1, 2, 3, 4, 5, 6, 7, 8, 9, 10, 11, 12, 13, 14]) (Hin := Jb1) #[0, 1, 3, 7, 0, 31, 63, 0, 255, 511, 1023, 1023, 4095, 8191, 16383] (by repeat first | exact Rem.here _ | exact Rem.two | apply Rem.skip | apply Rem.over) rfl (by kernel_rfl) (by kernel_rfl) ?_
      first | refine X_load rfl rfl rfl (by repeat first | exact List.Mem.head _ | refine List.Mem.tail _ ?_ | refine List.mem_append_right _ ?_) F.lay23 rfl rfl rfl ?_ | refine X_load_el rfl rfl rfl (by first | assumption | exact SlM.mono (by assumption) (by assumption)) (by first | exact row_map (by omega) | exact List.getElem?_eq_getElem (by omega)) F.lay23 rfl rfl rfl ?_ | refine X_load_rd rfl rfl rfl (by assumption) (by first | exact row_map (by omega) | exact List.getElem?_eq_getElem (by omega)) F.lay23 rfl rfl rfl ?_ | refine X_load_mem rfl rfl rfl (by first | assumption | exact Mem.get_of (by assumption) (by repeat first | assumption | refine Mem.le.trans (by assumption) ?_)) F.lay23 rfl rfl rfl ?_ | refine X_load_osl rfl rfl rfl (by assumption) (by repeat first | exact Rem.here _ | exact Rem.two | apply Rem.skip | apply Rem.over) (by first | exact row_map (by omega) | exact List.getElem?_eq_getElem (by omega)) F.lay23 rfl rfl rfl ?_
      refine X_nilCheck rfl rfl rfl rfl ?_
      first | refine X_fieldAddr rfl rfl rfl F.foff54_3 rfl ?_ | refine X_fieldAddr_el rfl rfl rfl (by first | exact ⟨_, _, rfl⟩ | assumption | exact SlM.plain (by assumption) (by simp; omega) | exact RdS.plain (by assumption) (by simp; omega) | exact OSl.plain (by assumption) (by simp; omega)) F.foff54_3 rfl ?_
      first | refine X_load rfl rfl rfl (by repeat first | exact List.Mem.head _ | refine List.Mem.tail _ ?_ | refine List.mem_append_right _ ?_) F.lay52 rfl rfl rfl ?_ | refine X_load_el rfl rfl rfl (by first | assumption | exact SlM.mono (by assumption) (by assumption)) (by first | exact row_map (by omega) | exact List.getElem?_eq_getElem (by omega)) F.lay52 rfl rfl rfl ?_ | refine X_load_rd rfl rfl rfl (by assumption) (by first | exact row_map (by omega) | exact List.getElem?_eq_getElem (by omega)) F.lay52 rfl rfl rfl ?_ | refine X_load_mem rfl rfl rfl (by first | assumption | exact Mem.get_of (by assumption) (by repeat first | assumption | refine Mem.le.trans (by assumption) ?_)) F.lay52 rfl rfl rfl ?_ | refine X_load_osl rfl rfl rfl (by assumption) (by repeat first | exact Rem.here _ | exact Rem.two | apply Rem.skip | apply Rem.over) (by first | exact row_map (by omega) | exact List.getElem?_eq_getElem (by omega)) F.lay52 rfl rfl rfl ?_
      refine X_move rfl rfl rfl rfl ?_
      refine X_lookup rfl rfl rfl rfl F.map52 F.zero28 (by repeat first | exact List.Mem.head _ | refine List.Mem.tail _ ?_ | refine List.mem_append_right _ ?_) (by assumption) (hget _ _ (by omega)) rfl ?_
      refine X_field rfl rfl rfl F.fld28_1 F.lay3 rfl rfl rfl ?_
      first | refine X_load rfl rfl rfl (by repeat first | exact List.Mem.head _ | refine List.Mem.tail _ ?_ | refine List.mem_append_right _ ?_) F.lay3 rfl rfl rfl ?_ | refine X_load_el rfl rfl rfl (by first | assumption | exact SlM.mono (by assumption) (by assumption)) (by first | exact row_map (by omega) | exact List.getElem?_eq_getElem (by omega)) F.lay3 rfl rfl rfl ?_ | refine X_load_rd rfl rfl rfl (by assumption) (by first | exact row_map (by omega) | exact List.getElem?_eq_getElem (by omega)) F.lay3 rfl rfl rfl ?_ | refine X_load_mem rfl rfl rfl (by first | assumption | exact Mem.get_of (by assumption) (by repeat first | assumption | refine Mem.le.trans (by assumption) ?_)) F.lay3 rfl rfl rfl ?_ | refine X_load_osl rfl rfl rfl (by assumption) (by repeat first | exact Rem.here _ | exact Rem.two | apply Rem.skip | apply Rem.over) (by first | exact row_map (by omega) | exact List.getElem?_eq_getElem (by omega)) F.lay3 rfl rfl rfl ?_
      refine X_cmp rfl rfl rfl rfl rfl rfl ?_
      refine X_move rfl rfl rfl rfl ?_
      refine XD_part 25 rfl (fun hc2 => ?_) (fun hc2 => ?_)
      · first | replace hc2 := dT hc2 | replace hc2 := dF hc2 | replace hc2 := nT hc2 | replace hc2 := nF hc2 | skip
        first
        | (exfalso; omega)
        | (exfalso; simp [eqX] at hc2; done)
        | skip
          refine X_move rfl rfl rfl rfl ?_
          refine X_move rfl rfl rfl rfl ?_
          obtain ⟨post, hpost⟩ := toI_split (a := a) (l := l) (k := k) (by omega) (by assumption)
          refine X_yield (pre := toIk a l k) (post := post) (Hb := Jb1) rfl rfl rfl rfl rfl hR hpost (hm0.trans hm1) hJ1 (by repeat first | exact Rem.here _ | exact Rem.two | apply Rem.skip | apply Rem.over) rfl (fun _ _ _ hm hw => (hw.lower hm).cnt (by intro zz; first | exact Nat.le_refl _ | (simp only [cnt_app, cnt_cons, cnt_nil, cat, List.append_eq, List.append_assoc, List.cons_append, List.nil_append, List.append_nil]; omega))) rfl ?_ ?_
          · intro M2 Jb2 hm2 hJ2
            refine X_not rfl rfl rfl rfl ?_
            refine X_pick rfl rfl rfl rfl rfl ?_
            refine XD_end ?_
            refine K_then ?_
            refine C_false rfl ?_
            refine C_skip ?_
            refine K_out ?_
            refine K_then ?_
            refine C_region (l := [0, 1]) rfl ?_
            refine X_ari rfl rfl rfl rfl rfl (by first | exact wrap_in (by decide) (by omega) | rfl) rfl ?_
            refine X_move rfl rfl rfl rfl ?_
            refine XD_end ?_
            refine K_round (a' := [(11, _)]) ((k + 1, M2, Jb2)) (.cons (k := 11) rfl (.cons (k := 10) rfl (.cons (k := 9) rfl (.cons (k := 0) rfl (.cons (k := 1) rfl (.cons (k := 2) rfl (.nil))))))) ?_ ?_
            · exact ⟨k + 1, M2, Jb2, rfl, rfl, rfl, by omega, hm1.trans hm2, by rw [toIk_yes (by omega) (by assumption)]; exact hJ2⟩
            · show l.length - (k + 1) < l.length - k; omega
          · intro M2 Jb2 hm2 hJ2
            refine X_not rfl rfl rfl rfl ?_
            refine X_pick rfl rfl rfl rfl rfl ?_
            refine XD_end ?_
            refine K_then ?_
            refine C_true rfl ?_
            refine C_ret ?_
            refine K_retB ?_
            refine K_ret ?_
            refine K_ret ?_
            refine K_retB ?_
            refine K_end (.inr rfl) (.nil) (fun w hw => ?_)
            exact ⟨_, M2, Jb2, rfl, hm1.trans hm2, hw.cnt (by intro zz; first | exact Nat.le_refl _ | (simp only [cnt_app, cnt_cons, cnt_nil, cat, List.append_eq, List.append_assoc, List.cons_append, List.nil_append, List.append_nil]; omega)), .inr ⟨_, post, by rw [hpost]; simp, hJ2⟩⟩
      · first | replace hc2 := dT hc2 | replace hc2 := dF hc2 | replace hc2 := nT hc2 | replace hc2 := nF hc2 | skip
        first
        | (exfalso; omega)
        | (exfalso; simp [eqX] at hc2; done)
        | skip
          refine X_skip rfl rfl rfl ?_
          refine X_skip rfl rfl rfl ?_
          refine X_skip rfl rfl rfl ?_
          refine X_skip rfl rfl rfl ?_
          refine X_pick rfl rfl rfl rfl rfl ?_
          refine XD_end ?_
          refine K_then ?_
          refine C_false rfl ?_
          refine C_skip ?_
          refine K_out ?_
          refine K_then ?_
          refine C_region (l := [0, 1]) rfl ?_
          refine X_ari rfl rfl rfl rfl rfl (by first | exact wrap_in (by decide) (by omega) | rfl) rfl ?_
          refine X_move rfl rfl rfl rfl ?_
          refine XD_end ?_
          refine K_round (a' := [(11, _)]) ((k + 1, M1, Jb1)) (.cons (k := 11) rfl (.cons (k := 10) rfl (.cons (k := 9) rfl (.cons (k := 0) rfl (.cons (k := 1) rfl (.cons (k := 2) rfl (.nil))))))) ?_ ?_
          · exact ⟨k + 1, M1, Jb1, rfl, rfl, rfl, by omega, hm1, by rw [toIk_no (by omega) (by assumption)]; exact hJ1⟩
          · show l.length - (k + 1) < l.length - k; omega
  · first | replace hc1 := dT hc1 | replace hc1 := dF hc1 | replace hc1 := nT hc1 | replace hc1 := nF hc1 | skip
    first
    | (exfalso; omega)
    | (exfalso; simp [eqX] at hc1; done)
    | skip
      refine C_exit ?_
      refine K_exit ?_
      refine K_exit ?_
      refine K_hit ?_
      refine K_end (.inl rfl) (.nil) (fun w hw => ?_)
      have e : k = l.length := by omega
      subst e
      exact ⟨_, M1, Jb1, rfl, hm1, hw.cnt (by intro zz; first | exact Nat.le_refl _ | (simp only [cnt_app, cnt_cons, cnt_nil, cat, List.append_eq, List.append_assoc, List.cons_append, List.nil_append, List.append_nil]; omega)), .inl hJ1⟩

theorem AppendSeq_ok (M : Mem) (g : FuncId) (caps : List Value) (xs : List Int) (Hi : Hp) (hok : okFn Try.prog g = true) (hseq : Seqs Try.prog g caps (fun i : Int => [.int .i64 i]) xs M Hi) (hx : xs.length ≤ 100000) : Fo Try.prog 30 [.slice none 0 0, .func (.func g) #[] caps.toArray] M Hi (fun M' v => ∃ ad c, v = .slice ad xs.length c ∧ SlM M' ad (xs.map oneI) 1) := by
  refine foM_enter Try.func30 rfl Try.ntmps30 rfl ?_; intro H
  refine C_seq ?_
  refine C_region (l := [0, 1]) rfl ?_
  refine X_box rfl rfl rfl (by constructor) rfl ?_; intro b1
  refine X_assign rfl rfl rfl rfl ?_
  refine XD_end ?_
  refine K_then ?_
  refine C_pick (.cons (k := 4) rfl (.cons (k := 2) rfl (.cons (k := 1) rfl .nil))) ?_
  refine C_seq ?_
  refine C_seq ?_
  refine C_region (l := [0]) rfl ?_
  refine X_move rfl rfl rfl rfl ?_
  refine XD_end ?_
  refine K_then ?_
  refine C_pick (.cons (k := 6) rfl (.cons (k := 4) rfl (.cons (k := 2) rfl .nil))) ?_
  refine C_block ?_
  refine C_pick (.cons (k := 6) rfl (.cons (k := 4) rfl (.cons (k := 2) rfl .nil))) ?_
  refine C_rangeFunc (xs := xs) (Hi := Hi) (Hu := [(b1, rowO [.one (.slice none 0 0)] 47)]) (H0 := H) (fun pre M' Hu => ∃ v hs, Hu = (b1, rowO [.one v] 47) :: hs ∧ OSl 3 1 v hs (pre.map oneI)) (fun _ _ _ _ => False) rfl hok hseq (fun w hw => hw) ⟨_, [], rfl, OSl.nil⟩ (fun _ => rfl) rfl ?_ ?_ ?_
  · rintro lp rdy bsy pre x post M1 _ G hxs hm1 ⟨v1, hs1, rfl, ho1⟩
    obtain ⟨ad1, cp1, rfl⟩ := ho1.val
    have hlx : (pre.map oneI).length ≤ 100000 := by rw [hxs] at hx; simp at hx ⊢; omega
    have hlx2 : pre.length ≤ 100000 := by rw [hxs] at hx; simp at hx ⊢; omega
    refine C_region (l := [0]) rfl ?_
    refine X_assign rfl rfl rfl rfl ?_
    refine XD_end ?_
    refine K_assign ?_
    refine C_block ?_
    refine C_region (l := [0, 1, 2, 3, 4]) rfl ?_
    first | refine X_load rfl rfl rfl (by repeat first | exact List.Mem.head _ | refine List.Mem.tail _ ?_ | refine List.mem_append_right _ ?_) F.lay47 rfl rfl rfl ?_ | refine X_load_el rfl rfl rfl (by first | assumption | exact SlM.mono (by assumption) (by assumption)) (by first | exact row_map (by omega) | exact List.getElem?_eq_getElem (by omega)) F.lay47 rfl rfl rfl ?_ | refine X_load_rd rfl rfl rfl (by assumption) (by first | exact row_map (by omega) | exact List.getElem?_eq_getElem (by omega)) F.lay47 rfl rfl rfl ?_ | refine X_load_mem rfl rfl rfl (by first | assumption | exact Mem.get_of (by assumption) (by repeat first | assumption | refine Mem.le.trans (by assumption) ?_)) F.lay47 rfl rfl rfl ?_ | refine X_load_osl rfl rfl rfl (by assumption) (by repeat first | exact Rem.here _ | exact Rem.two | apply Rem.skip | apply Rem.over) (by first | exact row_map (by omega) | exact List.getElem?_eq_getElem (by omega)) F.lay47 rfl rfl rfl ?_
    refine X_move rfl rfl rfl rfl ?_
    refine X_buildSliceF rfl rfl F.elem47 F.zero3 rfl rfl (.cons rfl (by constructor) .nil) rfl rfl (by simp only [List.map_cons, List.map_nil] <;> rfl) rfl ?_; intro b2 hob3
    refine X_append (m := 200000) rfl rfl rfl rfl rfl F.elem47 F.zero3 rfl rfl (by first | assumption | exact OSl.nil) (by repeat first | exact Rem.here _ | exact Rem.two | apply Rem.skip | apply Rem.over) (Src.own hob3.lens (by first | exact Mail.flat1 _ | (simp [rowsCells, Segs.cells, Seg.cells, Value.oneCell']; done)) rfl (by repeat first | exact List.Mem.head _ | refine List.Mem.tail _ ?_ | refine List.mem_append_right _ ?_)) (by first | omega | (simp; omega)) (by decide) rfl ?_; intro v6 hs5 ho4; obtain ⟨adv6, cpv6, rfl⟩ := ho4.val
    refine X_store rfl rfl rfl rfl (by constructor) (by first | exact Mail.flat _ | (simp [flat, cat, Segs.cells, Seg.cells, Value.oneCell']; done)) (by repeat first | exact Upd.head | apply Upd.tail | apply Upd.over) F.lay47 rfl rfl ?_
    refine XD_end ?_
    refine K_out ?_
    refine K_rnd (Mem.le.refl _) ?_ ⟨_, hs5, rfl, by rw [List.map_append]; exact ho4⟩
    exact fun w hw => hw.cnt (by intro zz; first | exact Nat.le_refl _ | (simp only [cnt_app, cnt_cons, cnt_nil, cat, List.append_eq, List.append_assoc, List.cons_append, List.nil_append, List.append_nil]; omega))
  · rintro D L o M1 _ hm1 ⟨v1, hs1, rfl, ho1⟩
    refine K_out ?_
    refine K_then ?_
    refine C_pick (.cons (k := 4) rfl (.cons (k := 2) rfl .nil)) ?_
    refine C_seq ?_
    refine C_region (l := [0, 1]) rfl ?_
    first | refine X_load rfl rfl rfl (by repeat first | exact List.Mem.head _ | refine List.Mem.tail _ ?_ | refine List.mem_append_right _ ?_) F.lay47 rfl rfl rfl ?_ | refine X_load_el rfl rfl rfl (by first | assumption | exact SlM.mono (by assumption) (by assumption)) (by first | exact row_map (by omega) | exact List.getElem?_eq_getElem (by omega)) F.lay47 rfl rfl rfl ?_ | refine X_load_rd rfl rfl rfl (by assumption) (by first | exact row_map (by omega) | exact List.getElem?_eq_getElem (by omega)) F.lay47 rfl rfl rfl ?_ | refine X_load_mem rfl rfl rfl (by first | assumption | exact Mem.get_of (by assumption) (by repeat first | assumption | refine Mem.le.trans (by assumption) ?_)) F.lay47 rfl rfl rfl ?_ | refine X_load_osl rfl rfl rfl (by assumption) (by repeat first | exact Rem.here _ | exact Rem.two | apply Rem.skip | apply Rem.over) (by first | exact row_map (by omega) | exact List.getElem?_eq_getElem (by omega)) F.lay47 rfl rfl rfl ?_
    refine X_assign rfl rfl rfl rfl ?_
    refine XD_end ?_
    refine K_then ?_
    refine C_pick (.cons (k := 4) rfl .nil) ?_
    refine C_ret ?_
    refine K_endM (Ds := [D]) (Hd := [(D, .deferred (some []))]) (H := hs1 ++ (Hi ++ H)) (.inr rfl) (.tmp rfl .nil) (fun w hw => hw.cnt (by intro zz; first | exact Nat.le_refl _ | (simp only [cnt_app, cnt_cons, cnt_nil, cat, List.append_eq, List.append_assoc, List.cons_append, List.nil_append, List.append_nil]; omega))) (by simp) (by simp) (fun w hw => ?_)
    obtain ⟨M2, a2, c2, g1, g2, rfl, g3⟩ := ho1.freeze hw
    exact ⟨_, M2, rfl, hm1.trans g1, g2, a2, c2, by simp [resV], g3⟩
  · intro c D L o M2 Hu2 pre post _ _ h; exact h.elim

theorem Collect_ok (M : Mem) (g : FuncId) (caps : List Value) (xs : List Int) (Hi : Hp) (hok : okFn Try.prog g = true) (hseq : Seqs Try.prog g caps (fun i : Int => [.int .i64 i]) xs M Hi) (hx : xs.length ≤ 100000) : Fo Try.prog 27 [.func (.func g) #[] caps.toArray] M Hi (fun M' v => ∃ ad c, v = .slice ad xs.length c ∧ SlM M' ad (xs.map oneI) 1) := by
  refine fo_enter Try.func27 rfl Try.ntmps27 rfl ?_; intro H
  refine C_seq ?_
  refine C_region (l := [0]) rfl ?_
  refine X_assign rfl rfl rfl rfl ?_
  refine XD_end ?_
  refine K_then ?_
  refine C_seq ?_
  refine C_region (l := [0, 1, 2]) rfl ?_
  refine X_move rfl rfl rfl rfl ?_
  refine X_fo rfl rfl F.ok30 rfl (AppendSeq_ok M g caps xs Hi hok hseq hx) (by repeat first | exact Rem.here _ | exact Rem.two | apply Rem.skip | apply Rem.over) (putE_some rfl) ?_
  rintro _ M2 hm2 ⟨ad, c, rfl, hsl⟩
  refine X_assign rfl rfl rfl rfl ?_
  refine XD_end ?_
  refine K_then ?_
  refine C_pick (.cons (k := 2) rfl .nil) ?_
  refine C_ret ?_
  refine K_end (.inr rfl) (.tmp rfl .nil) (fun w hw => ?_)
  exact ⟨_, M2, rfl, hm2, hw.cnt (by intro zz; first | exact Nat.le_refl _ | (simp only [cnt_app, cnt_cons, cnt_nil, cat, List.append_eq, List.append_assoc, List.cons_append, List.nil_append, List.append_nil]; omega)), _, _, rfl, hsl⟩

theorem To_ok (M : Mem) (b : Nat) (most N : Int) (l : List Mail) (Hb : Hp) (a : Int) (hb : BagIs b most N l Hb) : Fo Try.prog 17 [.pointer (some ⟨b, 0, none⟩), .int .i64 a] M Hb (fun M' v => ∃ ad c, v = .slice ad (toI a l).length c ∧ SlM M' ad ((toI a l).map oneI) 1) := by
  refine fo_enter Try.func17 rfl Try.ntmps17 rfl ?_; intro H
  refine C_seq ?_
  refine C_region (l := [0]) rfl ?_
  refine X_assign rfl rfl rfl rfl ?_
  refine XD_end ?_
  refine K_then ?_
  refine C_seq ?_
  refine C_seq ?_
  refine C_region (l := [0, 1]) rfl ?_
  refine X_move rfl rfl rfl rfl ?_
  refine X_nil rfl rfl rfl rfl Try.underlying23 rfl rfl ?_
  refine XD_end ?_
  refine K_then ?_
  refine C_pick (.cons (k := 6) rfl (.cons (k := 4) rfl (.cons (k := 0) rfl (.cons (k := 1) rfl .nil)))) ?_
  refine C_cond rfl (fun hc1 => ?_) (fun hc1 => ?_)
  · first | replace hc1 := dT hc1 | replace hc1 := dF hc1 | replace hc1 := nT hc1 | replace hc1 := nF hc1 | skip
    first
    | (exfalso; omega)
    | (exfalso; simp [eqX] at hc1; done)
    | skip
      refine C_seq ?_
      refine C_region (l := [0]) rfl ?_
      refine X_assign rfl rfl rfl rfl ?_
      refine XD_end ?_
      refine K_then ?_
      refine C_pick (.cons (k := 4) rfl (.cons (k := 0) rfl (.cons (k := 1) rfl .nil))) ?_
      refine C_ret ?_
      refine K_ret ?_
      refine K_end (.inr rfl) (.tmp rfl .nil) (fun w hw => ?_)
      exact ⟨_, M2, rfl, hm1.trans hm2, hw.cnt (by intro zz; first | exact Nat.le_refl _ | (simp only [cnt_app, cnt_cons, cnt_nil, cat, List.append_eq, List.append_assoc, List.cons_append, List.nil_append, List.append_nil]; omega)), _, _, rfl, hsl⟩
  · first | replace hc1 := dT hc1 | replace hc1 := dF hc1 | replace hc1 := nT hc1 | replace hc1 := nF hc1 | skip
    first
    | (exfalso; omega)
    | (exfalso; simp [eqX] at hc1; done)
    | skip
      refine C_skip ?_
      refine K_then ?_
      refine C_pick (.cons (k := 4) rfl (.cons (k := 0) rfl (.cons (k := 1) rfl .nil))) ?_
      refine C_seq ?_
      refine C_region (l := [0, 1, 2, 3, 4]) rfl ?_
      refine X_move rfl rfl rfl rfl ?_
      refine X_move rfl rfl rfl rfl ?_
      refine X_fn rfl rfl F.ok28 rfl (places_ok M _ a) rfl ?_
      rintro _ M1 hm1 ⟨c1, c2, rfl, h1, h2⟩
      refine X_fo rfl rfl F.ok27 rfl (Collect_ok M1 31 [.pointer (some ⟨c1, 0, none⟩), .pointer (some ⟨c2, 0, none⟩)] (toI a l) Hb F.ok31 (places_seq M1 b most N l Hb a c1 c2 hb h1 h2) (by have := toI_length a l; have := hb.le; omega)) (by repeat first | exact Rem.here _ | exact Rem.two | apply Rem.skip | apply Rem.over) (putE_some rfl) ?_
      rintro _ M2 hm2 ⟨ad, c, rfl, hsl⟩
      refine X_assign rfl rfl rfl rfl ?_
      refine XD_end ?_
      refine K_then ?_
      refine C_pick (.cons (k := 4) rfl .nil) ?_
      refine C_ret ?_
      refine K_end (.inr rfl) (.tmp rfl .nil) (fun w hw => ?_)
      exact ⟨_, M2, rfl, hm1.trans hm2, hw.cnt (by intro zz; first | exact Nat.le_refl _ | (simp only [cnt_app, cnt_cons, cnt_nil, cat, List.append_eq, List.append_assoc, List.cons_append, List.nil_append, List.append_nil]; omega)), _, _, rfl, hsl⟩

theorem To_nil (M : Mem) (a : Int) : Fs Try.prog 17 [.pointer none, .int .i64 a] M (fun v => v = .slice none 0 0) := by
  refine fs_enter Try.func17 rfl Try.ntmps17 rfl ?_; intro H
  refine C_seq ?_
  refine C_region (l := [0]) rfl ?_
  refine X_assign rfl rfl rfl rfl ?_
  refine XD_end ?_
  refine K_then ?_
  refine C_seq ?_
  refine C_seq ?_
  refine C_region (l := [0, 1]) rfl ?_
  refine X_move rfl rfl rfl rfl ?_
  refine X_nil rfl rfl rfl rfl Try.underlying23 rfl rfl ?_
  refine XD_end ?_
  refine K_then ?_
  refine C_pick (.cons (k := 6) rfl (.cons (k := 4) rfl (.cons (k := 0) rfl (.cons (k := 1) rfl .nil)))) ?_
  refine C_true rfl ?_
  refine C_seq ?_
  refine C_region (l := [0]) rfl ?_
  refine X_assign rfl rfl rfl rfl ?_
  refine XD_end ?_
  refine K_then ?_
  refine C_pick (.cons (k := 4) rfl (.cons (k := 0) rfl (.cons (k := 1) rfl .nil))) ?_
  refine C_ret ?_
  refine K_ret ?_
  refine K_end (.inr rfl) (.tmp rfl .nil) (fun w hw => ?_)
  exact ⟨_, rfl, hw.suf (by repeat first | exact Suf.refl _ | refine Suf.skip ?_), rfl⟩

end Go.Proofs.Ytenamdnnmdilgaa
