/-
  The walks of a bag: losing.
-/
import Derived.Test.YtenamdnnmdilgaaBag4
set_option linter.unusedSimpArgs false
set_option linter.unusedVariables false
set_option linter.unnecessarySimpa false
namespace Go.Proofs.Ytenamdnnmdilgaa
open Go.Esp
theorem F.ok17 : okFn Try.prog 17 = true := by kernel_rfl
theorem F.ok29 : okFn Try.prog 29 = true := by kernel_rfl
theorem F.ok32 : okFn Try.prog 32 = true := by kernel_rfl
theorem F.ok9 : okFn Try.prog 9 = true := by kernel_rfl

theorem Backward_ok (M : Mem) (ad : Option Addr) (n c : Nat) : Esp.Fn Try.prog 29 [.slice ad n c] M (fun M' v => ∃ c1, v = .func (.func 32) #[] #[.pointer (some ⟨c1, 0, none⟩)] ∧ M' c1 = some (rowO [.one (.slice ad n c)] 47)) := by
  refine fn_enter Try.func29 rfl Try.ntmps29 rfl ?_; intro H
  refine C_seq ?_
  refine C_region (l := [0, 1]) rfl ?_
  refine X_box rfl rfl rfl (by constructor) rfl ?_; intro b1
  refine X_assign rfl rfl rfl rfl ?_
  refine XD_end ?_
  refine K_then ?_
  refine C_pick (.cons (k := 2) rfl (.cons (k := 1) rfl .nil)) ?_
  refine C_seq ?_
  refine C_region (l := [0, 1]) rfl ?_
  refine X_makeFunc rfl rfl rfl rfl rfl ?_
  refine X_assign rfl rfl rfl rfl ?_
  refine XD_end ?_
  refine K_then ?_
  refine C_pick (.cons (k := 2) rfl .nil) ?_
  refine C_ret ?_
  refine K_end (.inr rfl) (.tmp rfl .nil) (fun w hw => ?_)
  obtain ⟨g1, g2⟩ := hw.freeze
  exact ⟨_, _, rfl, g1, g2, _, rfl, Mem.add_self _ _ _⟩

theorem back_seq (M : Mem) (ad : Option Addr) (c c1 : Nat) (xs : List Int) (hsl : SlM M ad (xs.map oneI) 1) (h1 : M c1 = some (rowO [.one (.slice ad xs.length c)] 47)) (hx : xs.length ≤ 1000000) : Seqs Try.prog 32 [.pointer (some ⟨c1, 0, none⟩)] (fun p : Int × Int => [.int .i64 p.1, .int .i64 p.2]) (backL xs) M [] := by
  intro lp J Jx hR M0 Jb G w hm0 hJ hw
  refine enter (S := St M0 (Jb ++ G)) Try.func32 rfl Try.ntmps32 rfl hw ?_
  refine C_seq ?_
  refine C_region (l := [0, 1, 2, 3]) rfl ?_
  first | refine X_load rfl rfl rfl (by repeat first | exact List.Mem.head _ | refine List.Mem.tail _ ?_ | refine List.mem_append_right _ ?_) F.lay47 rfl rfl rfl ?_ | refine X_load_el rfl rfl rfl (by first | assumption | exact SlM.mono (by assumption) (by assumption)) (by first | exact row_map (by omega) | exact List.getElem?_eq_getElem (by omega)) F.lay47 rfl rfl rfl ?_ | refine X_load_rd rfl rfl rfl (by assumption) (by first | exact row_map (by omega) | exact List.getElem?_eq_getElem (by omega)) F.lay47 rfl rfl rfl ?_ | refine X_load_mem rfl rfl rfl (by first | assumption | exact Mem.get_of (by assumption) (by repeat first | assumption | refine Mem.le.trans (by assumption) ?_)) F.lay47 rfl rfl rfl ?_ | refine X_load_osl rfl rfl rfl (by assumption) (by repeat first | exact Rem.here _ | exact Rem.two | apply Rem.skip | apply Rem.over) (by first | exact row_map (by omega) | exact List.getElem?_eq_getElem (by omega)) F.lay47 rfl rfl rfl ?_
  refine X_len_sl rfl rfl rfl rfl F.elem47 rfl ?_
  refine X_ari rfl rfl rfl rfl rfl (by first | exact wrap_in (by decide) (by omega) | rfl) rfl ?_
  refine X_assign rfl rfl rfl rfl ?_
  refine XD_end ?_
  refine K_then ?_
  refine C_pick (.cons (k := 3) rfl (.cons (k := 0) rfl (.cons (k := 1) rfl .nil))) ?_
  refine C_block ?_
  refine C_pick (.cons (k := 3) rfl (.cons (k := 0) rfl (.cons (k := 1) rfl .nil))) ?_
  refine C_loop (.succ .zero) (fun (x : Nat × List (Int × Int) × Mem × Hp) S z => ∃ k pre M1 Jb1, x = (k, pre, M1, Jb1) ∧ S = St M1 (Jb1 ++ G) ∧ z = [(3, .int .i64 ((k : Int) - 1))] ∧ k ≤ xs.length ∧ backL xs = pre ++ bk xs k ∧ M0.le M1 ∧ J pre M1 Jb1) (fun x => x.1) ((xs.length, [], M0, Jb)) (⟨xs.length, [], M0, Jb, rfl, rfl, rfl, by omega, rfl, Mem.le.refl _, hJ⟩) ?_
  rintro _ _ _ ⟨k, pre, M1, Jb1, rfl, rfl, rfl, hk, hpre, hm1, hJ1⟩
  refine C_seq ?_
  refine C_seq ?_
  refine C_region (l := [0, 1]) rfl ?_
  refine X_move rfl rfl rfl rfl ?_
  refine X_cmp rfl rfl rfl rfl rfl rfl ?_
  refine XD_end ?_
  refine K_then ?_
  refine C_cond rfl (fun hc1 => ?_) (fun hc1 => ?_)
  · first | replace hc1 := dT hc1 | replace hc1 := dF hc1 | replace hc1 := nT hc1 | replace hc1 := nF hc1 | skip
    first
    | (exfalso; omega)
    | (exfalso; simp [eqX] at hc1; done)
    | skip
      refine C_skip ?_
      refine K_then ?_
      refine C_seq ?_
      refine C_block ?_
      refine C_seq ?_
      refine C_regionR (l := [0, 1, 2, 3, 4, 5, 6, 7]) (Hin := Jb1) (by repeat first | exact Rem.here _ | exact Rem.two | apply Rem.skip | apply Rem.over) rfl ?_
      obtain ⟨k2, rfl⟩ : ∃ k2, k = k2 + 1 := ⟨k - 1, by omega⟩
      have hxk : xs.getD k2 0 = xs[k2]'(by omega) := by simp [List.getD_eq_getElem?_getD, List.getElem?_eq_getElem (show k2 < xs.length by omega)]
      refine X_move rfl rfl rfl rfl ?_
      refine X_move rfl rfl rfl rfl ?_
      first | refine X_load rfl rfl rfl (by repeat first | exact List.Mem.head _ | refine List.Mem.tail _ ?_ | refine List.mem_append_right _ ?_) F.lay47 rfl rfl rfl ?_ | refine X_load_el rfl rfl rfl (by first | assumption | exact SlM.mono (by assumption) (by assumption)) (by first | exact row_map (by omega) | exact List.getElem?_eq_getElem (by omega)) F.lay47 rfl rfl rfl ?_ | refine X_load_rd rfl rfl rfl (by assumption) (by first | exact row_map (by omega) | exact List.getElem?_eq_getElem (by omega)) F.lay47 rfl rfl rfl ?_ | refine X_load_mem rfl rfl rfl (by first | assumption | exact Mem.get_of (by assumption) (by repeat first | assumption | refine Mem.le.trans (by assumption) ?_)) F.lay47 rfl rfl rfl ?_ | refine X_load_osl rfl rfl rfl (by assumption) (by repeat first | exact Rem.here _ | exact Rem.two | apply Rem.skip | apply Rem.over) (by first | exact row_map (by omega) | exact List.getElem?_eq_getElem (by omega)) F.lay47 rfl rfl rfl ?_
      refine X_move rfl rfl rfl rfl ?_
      refine X_indexAddr (k := k2) rfl rfl rfl rfl F.elem47 (by omega) (by omega) (hsl.plain (by simp; omega)) rfl ?_
      refine X_load_el rfl rfl rfl (hsl.mono (hm0.trans hm1)) (row_map (by omega)) F.lay3 rfl rfl rfl ?_
      refine X_yield (enc := fun p : Int × Int => [.int .i64 p.1, .int .i64 p.2]) (x := ((k2 : Int), xs.getD k2 0)) (pre := pre) (post := bk xs k2) (Hb := Jb1) rfl rfl rfl rfl rfl hR hpre (hm0.trans hm1) hJ1 (by repeat first | exact Rem.here _ | exact Rem.two | apply Rem.skip | apply Rem.over) (by rw [hxk]; simp) (fun _ _ _ hm hw => (hw.lower hm).cnt (by intro zz; first | exact Nat.le_refl _ | (simp only [cnt_app, cnt_cons, cnt_nil, cat, List.append_eq, List.append_assoc, List.cons_append, List.nil_append, List.append_nil]; omega))) rfl ?_ ?_
      · intro M2 Jb2 hm2 hJ2
        refine X_not rfl rfl rfl rfl ?_
        refine XD_end ?_
        refine K_then ?_
        refine C_false rfl ?_
        refine C_skip ?_
        refine K_out ?_
        refine K_then ?_
        refine C_region (l := [0, 1, 2]) rfl ?_
        refine X_move rfl rfl rfl rfl ?_
        refine X_ari rfl rfl rfl rfl rfl (by first | exact wrap_in (by decide) (by omega) | rfl) rfl ?_
        refine X_assign rfl rfl rfl rfl ?_
        refine XD_end ?_
        refine K_round (a' := [(3, _)]) ((k2, pre ++ [((k2 : Int), xs.getD k2 0)], M2, Jb2)) (.cons (k := 3) rfl (.cons (k := 0) rfl (.cons (k := 1) rfl (.nil)))) ?_ ?_
        · exact ⟨k2, _, M2, Jb2, rfl, rfl, by congr 3; omega, by omega, by rw [hpre, bk]; simp, hm1.trans hm2, hJ2⟩
        · show k2 < k2 + 1; omega
      · intro M2 Jb2 hm2 hJ2
        refine X_not rfl rfl rfl rfl ?_
        refine XD_end ?_
        refine K_then ?_
        refine C_true rfl ?_
        refine C_ret ?_
        refine K_retB ?_
        refine K_ret ?_
        refine K_ret ?_
        refine K_retB ?_
        refine K_end (.inr rfl) (.nil) (fun w hw => ?_)
        exact ⟨_, M2, Jb2, rfl, hm1.trans hm2, hw.cnt (by intro zz; first | exact Nat.le_refl _ | (simp only [cnt_app, cnt_cons, cnt_nil, cat, List.append_eq, List.append_assoc, List.cons_append, List.nil_append, List.append_nil]; omega)), .inr ⟨_, bk xs k2, by rw [hpre, bk]; simp, hJ2⟩⟩
  · first | replace hc1 := dT hc1 | replace hc1 := dF hc1 | replace hc1 := nT hc1 | replace hc1 := nF hc1 | skip
    first
    | (exfalso; omega)
    | (exfalso; simp [eqX] at hc1; done)
    | skip
      refine C_exit ?_
      refine K_exit ?_
      refine K_exit ?_
      refine K_hit ?_
      refine K_end (.inl rfl) (.nil) (fun w hw => ?_)
      have e : k = 0 := by omega
      subst e
      exact ⟨_, M1, Jb1, rfl, hm1, hw.cnt (by intro zz; first | exact Nat.le_refl _ | (simp only [cnt_app, cnt_cons, cnt_nil, cat, List.append_eq, List.append_assoc, List.cons_append, List.nil_append, List.append_nil]; omega)), .inl (by rw [hpre]; simpa [bk] using hJ1)⟩

theorem Lose_ok (M : Mem) (b : Nat) (most N : Int) (l : List Mail) (Hb : Hp) (a : Int) (hb : BagIs b most N l Hb) : Fh Try.prog 18 [.pointer (some ⟨b, 0, none⟩), .int .i64 a] M Hb (fun _ v Hb' => v = .int .i64 (toI a l).length ∧ BagIs b most N (loseL a l) Hb') := by
  refine fhM_enter Try.func18 rfl Try.ntmps18 rfl ?_; intro H
  refine C_seq ?_
  refine C_region (l := [0, 1]) rfl ?_
  refine X_box rfl rfl rfl (by constructor) rfl ?_; intro b1
  refine X_assign rfl rfl rfl rfl ?_
  refine XD_end ?_
  refine K_then ?_
  refine C_pick (.cons (k := 4) rfl (.cons (k := 2) rfl (.cons (k := 1) rfl .nil))) ?_
  refine C_seq ?_
  refine C_region (l := [0, 1, 2, 3]) rfl ?_
  first | refine X_load rfl rfl rfl (by repeat first | exact List.Mem.head _ | refine List.Mem.tail _ ?_ | refine List.mem_append_right _ ?_) F.lay23 rfl rfl rfl ?_ | refine X_load_el rfl rfl rfl (by first | assumption | exact SlM.mono (by assumption) (by assumption)) (by first | exact row_map (by omega) | exact List.getElem?_eq_getElem (by omega)) F.lay23 rfl rfl rfl ?_ | refine X_load_rd rfl rfl rfl (by assumption) (by first | exact row_map (by omega) | exact List.getElem?_eq_getElem (by omega)) F.lay23 rfl rfl rfl ?_ | refine X_load_mem rfl rfl rfl (by first | assumption | exact Mem.get_of (by assumption) (by repeat first | assumption | refine Mem.le.trans (by assumption) ?_)) F.lay23 rfl rfl rfl ?_ | refine X_load_osl rfl rfl rfl (by assumption) (by repeat first | exact Rem.here _ | exact Rem.two | apply Rem.skip | apply Rem.over) (by first | exact row_map (by omega) | exact List.getElem?_eq_getElem (by omega)) F.lay23 rfl rfl rfl ?_
  refine X_move rfl rfl rfl rfl ?_
  refine X_fo rfl rfl F.ok17 rfl (To_ok M b most N l Hb a hb) (by repeat first | exact Rem.here _ | exact Rem.two | apply Rem.skip | apply Rem.over) (putE_some rfl) ?_
  rintro _ M1 hm1 ⟨ad, c, rfl, hsl⟩
  refine X_assign rfl rfl rfl rfl ?_
  refine XD_end ?_
  refine K_then ?_
  refine C_pick (.cons (k := 5) rfl (.cons (k := 4) rfl (.cons (k := 2) rfl .nil))) ?_
  refine C_seq ?_
  refine C_seq ?_
  refine C_region (l := [0, 1]) rfl ?_
  refine X_move rfl rfl rfl rfl ?_
  refine X_fn rfl rfl F.ok29 rfl (Backward_ok M1 _ _ _) rfl ?_
  rintro _ M2 hm2 ⟨c1, rfl, hc1⟩
  refine XD_end ?_
  refine K_then ?_
  refine C_pick (.cons (k := 12) rfl (.cons (k := 5) rfl (.cons (k := 4) rfl (.cons (k := 2) rfl .nil)))) ?_
  refine C_block ?_
  refine C_pick (.cons (k := 12) rfl (.cons (k := 5) rfl (.cons (k := 4) rfl (.cons (k := 2) rfl .nil)))) ?_
  refine C_rangeFunc (enc := fun p : Int × Int => [.int .i64 p.1, .int .i64 p.2]) (xs := backL (toI a l)) (Hi := []) (Hu := ((b1, rowO [.one (.pointer (some ⟨b, 0, none⟩))] 23) :: Hb)) (H0 := H) (fun pre M' Hu => ∃ Hu1, Hu = (b1, rowO [.one (.pointer (some ⟨b, 0, none⟩))] 23) :: Hu1 ∧ BagIs b most N (takeAll (pre.map Prod.snd) l) Hu1) (fun _ _ _ _ => False) rfl F.ok32 (back_seq _ _ _ _ _ (hsl.mono hm2) hc1 (by have := toI_length a l; have := hb.le; omega)) (fun w hw => hw.cnt (by intro zz; first | exact Nat.le_refl _ | (simp only [cnt_app, cnt_cons, cnt_nil, cat, List.append_eq, List.append_assoc, List.cons_append, List.nil_append, List.append_nil]; omega))) ⟨Hb, rfl, hb⟩ (fun _ => rfl) rfl ?_ ?_ ?_
  · rintro lp rdy bsy pre ⟨x1, x2⟩ post M3 Hu0 G hxs hm3 hI
    obtain ⟨Hu1, rfl, hI⟩ := hI
    refine C_region (l := [0]) rfl ?_
    refine X_assign rfl rfl rfl rfl ?_
    refine XD_end ?_
    refine K_assign ?_
    refine C_block ?_
    refine C_regionR (l := [0, 1, 2]) (Hin := Hu1) (by repeat first | exact Rem.here _ | exact Rem.two | apply Rem.skip | apply Rem.over) rfl ?_
    first | refine X_load rfl rfl rfl (by repeat first | exact List.Mem.head _ | refine List.Mem.tail _ ?_ | refine List.mem_append_right _ ?_) F.lay23 rfl rfl rfl ?_ | refine X_load_el rfl rfl rfl (by first | assumption | exact SlM.mono (by assumption) (by assumption)) (by first | exact row_map (by omega) | exact List.getElem?_eq_getElem (by omega)) F.lay23 rfl rfl rfl ?_ | refine X_load_rd rfl rfl rfl (by assumption) (by first | exact row_map (by omega) | exact List.getElem?_eq_getElem (by omega)) F.lay23 rfl rfl rfl ?_ | refine X_load_mem rfl rfl rfl (by first | assumption | exact Mem.get_of (by assumption) (by repeat first | assumption | refine Mem.le.trans (by assumption) ?_)) F.lay23 rfl rfl rfl ?_ | refine X_load_osl rfl rfl rfl (by assumption) (by repeat first | exact Rem.here _ | exact Rem.two | apply Rem.skip | apply Rem.over) (by first | exact row_map (by omega) | exact List.getElem?_eq_getElem (by omega)) F.lay23 rfl rfl rfl ?_
    refine X_move rfl rfl rfl rfl ?_
    refine X_fhR rfl rfl F.ok9 rfl (Take_ok M3 b most N _ Hu1 x2 hI) (by repeat first | exact Rem.here _ | exact Rem.two | apply Rem.skip | apply Rem.over) (fun _ _ _ hm hw => (hw.lower (by first | exact hm | exact Mem.le.trans (by assumption) hm)).cnt (by intro zz; first | exact Nat.le_refl _ | (simp only [cnt_app, cnt_cons, cnt_nil, cat, List.append_eq, List.append_assoc, List.cons_append, List.nil_append, List.append_nil]; omega))) (putE_some rfl) ?_
    rintro _ M4 Hb9 _ ⟨hM4, rfl, hb9⟩; subst M4
    refine XD_end ?_
    refine K_out ?_
    refine K_rnd (Hu := (b1, _) :: Hb9) (Mem.le.refl _) ?_ ⟨Hb9, rfl, by unfold takeAll at hb9 ⊢; rw [List.map_append, List.foldl_append]; exact hb9⟩
    exact fun w hw => hw.cnt (by intro zz; first | exact Nat.le_refl _ | (simp only [cnt_app, cnt_cons, cnt_nil, cat, List.append_eq, List.append_assoc, List.cons_append, List.nil_append, List.append_nil]; omega))
  · intro D L o M3 Hu0 hm3 hI
    obtain ⟨Hu1, rfl, hI⟩ := hI
    refine K_out ?_
    refine K_then ?_
    refine C_pick (.cons (k := 5) rfl (.cons (k := 4) rfl .nil)) ?_
    refine C_seq ?_
    refine C_region (l := [0, 1, 2]) rfl ?_
    refine X_move rfl rfl rfl rfl ?_
    refine X_len_sl rfl rfl rfl rfl F.elem47 rfl ?_
    refine X_assign rfl rfl rfl rfl ?_
    refine XD_end ?_
    refine K_then ?_
    refine C_pick (.cons (k := 4) rfl .nil) ?_
    refine C_ret ?_
    refine K_endM (Ds := [D]) (Hd := [(D, .deferred (some []))]) (H := Hu1 ++ H) (.inr rfl) (.tmp rfl .nil) (fun w hw => hw.cnt (by intro zz; first | exact Nat.le_refl _ | (simp only [cnt_app, cnt_cons, cnt_nil, cat, List.append_eq, List.append_assoc, List.cons_append, List.nil_append, List.append_nil]; omega))) (by simp) (by simp) (fun w hw => ?_)
    exact ⟨_, M3, Hu1, rfl, hm1.trans (hm2.trans hm3), hw, rfl, by rw [takeAll_toI] at hI; exact hI⟩
  · intro c D L o M2 Hu2 pre post _ _ h; exact h.elim

theorem Lose_nil (M : Mem) (a : Int) : Esp.Fn Try.prog 18 [.pointer none, .int .i64 a] M (fun _ v => v = .int .i64 0) := by
  refine fnM_enter Try.func18 rfl Try.ntmps18 rfl ?_; intro H
  refine C_seq ?_
  refine C_region (l := [0, 1]) rfl ?_
  refine X_box rfl rfl rfl (by constructor) rfl ?_; intro b1
  refine X_assign rfl rfl rfl rfl ?_
  refine XD_end ?_
  refine K_then ?_
  refine C_pick (.cons (k := 4) rfl (.cons (k := 2) rfl (.cons (k := 1) rfl .nil))) ?_
  refine C_seq ?_
  refine C_region (l := [0, 1, 2, 3]) rfl ?_
  first | refine X_load rfl rfl rfl (by repeat first | exact List.Mem.head _ | refine List.Mem.tail _ ?_ | refine List.mem_append_right _ ?_) F.lay23 rfl rfl rfl ?_ | refine X_load_el rfl rfl rfl (by first | assumption | exact SlM.mono (by assumption) (by assumption)) (by first | exact row_map (by omega) | exact List.getElem?_eq_getElem (by omega)) F.lay23 rfl rfl rfl ?_ | refine X_load_rd rfl rfl rfl (by assumption) (by first | exact row_map (by omega) | exact List.getElem?_eq_getElem (by omega)) F.lay23 rfl rfl rfl ?_ | refine X_load_mem rfl rfl rfl (by first | assumption | exact Mem.get_of (by assumption) (by repeat first | assumption | refine Mem.le.trans (by assumption) ?_)) F.lay23 rfl rfl rfl ?_ | refine X_load_osl rfl rfl rfl (by assumption) (by repeat first | exact Rem.here _ | exact Rem.two | apply Rem.skip | apply Rem.over) (by first | exact row_map (by omega) | exact List.getElem?_eq_getElem (by omega)) F.lay23 rfl rfl rfl ?_
  refine X_move rfl rfl rfl rfl ?_
  refine X_fs rfl rfl F.ok17 rfl (To_nil M a) rfl ?_
  rintro _ rfl
  refine X_assign rfl rfl rfl rfl ?_
  refine XD_end ?_
  refine K_then ?_
  refine C_pick (.cons (k := 5) rfl (.cons (k := 4) rfl (.cons (k := 2) rfl .nil))) ?_
  refine C_seq ?_
  refine C_seq ?_
  refine C_region (l := [0, 1]) rfl ?_
  refine X_move rfl rfl rfl rfl ?_
  refine X_fn rfl rfl F.ok29 rfl (Backward_ok M _ _ _) rfl ?_
  rintro _ M2 hm2 ⟨c1, rfl, hc1⟩
  refine XD_end ?_
  refine K_then ?_
  refine C_pick (.cons (k := 12) rfl (.cons (k := 5) rfl (.cons (k := 4) rfl (.cons (k := 2) rfl .nil)))) ?_
  refine C_block ?_
  refine C_pick (.cons (k := 12) rfl (.cons (k := 5) rfl (.cons (k := 4) rfl (.cons (k := 2) rfl .nil)))) ?_
  refine C_rangeFunc (enc := fun p : Int × Int => [.int .i64 p.1, .int .i64 p.2]) (xs := backL []) (Hi := []) (Hu := ([])) (H0 := (b1, rowO [.one (.pointer none)] 23) :: H) (fun pre M' Hu => Hu = []) (fun _ _ _ _ => False) rfl F.ok32 (back_seq _ _ _ _ _ (SlM.nil _ _ _) hc1 (by simp)) (fun w hw => hw.cnt (by intro zz; first | exact Nat.le_refl _ | (simp only [cnt_app, cnt_cons, cnt_nil, cat, List.append_eq, List.append_assoc, List.cons_append, List.nil_append, List.append_nil]; omega))) rfl (fun _ => rfl) rfl ?_ ?_ ?_
  · rintro lp rdy bsy pre ⟨x1, x2⟩ post M3 Hu0 G hxs hm3 hI
    exact (by simp [backL, bk] at hxs : False).elim
  · intro D L o M3 Hu0 hm3 hI
    subst hI
    refine K_out ?_
    refine K_then ?_
    refine C_pick (.cons (k := 5) rfl (.cons (k := 4) rfl .nil)) ?_
    refine C_seq ?_
    refine C_region (l := [0, 1, 2]) rfl ?_
    refine X_move rfl rfl rfl rfl ?_
    refine X_len_sl rfl rfl rfl rfl F.elem47 rfl ?_
    refine X_assign rfl rfl rfl rfl ?_
    refine XD_end ?_
    refine K_then ?_
    refine C_pick (.cons (k := 4) rfl .nil) ?_
    refine C_ret ?_
    refine K_endM (Ds := [D]) (Hd := [(D, .deferred (some []))]) (H := H) (.inr rfl) (.tmp rfl .nil) (fun w hw => hw.cnt (by intro zz; first | exact Nat.le_refl _ | (simp only [cnt_app, cnt_cons, cnt_nil, cat, List.append_eq, List.append_assoc, List.cons_append, List.nil_append, List.append_nil]; omega))) (by simp) (by simp) (fun w hw => ?_)
    exact ⟨_, M3, rfl, hm2.trans hm3, hw, rfl⟩
  · intro c D L o M2 Hu2 pre post _ _ h; exact h.elim

end Go.Proofs.Ytenamdnnmdilgaa
