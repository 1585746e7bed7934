/-
  Texts of this claim, one behind the other: V9, V10, V8, ServA, V12, Rules12, KeepL, ServW, V13, V14, V15, V16, V17, SortI, V18, V19, V20, Core2, Rules13, ServT.
-/
import Derived.Test.YtpkeilhilpogiaaGreatPe4
set_option linter.unusedSimpArgs false
set_option linter.unusedVariables false
set_option linter.unnecessarySimpa false
set_option maxRecDepth 8000
set_option maxHeartbeats 1000000
namespace Go.Proofs.YtpkeilhilpogiaaGreat
open Go.Esp
theorem F.foff54_2 : foff Tryz.prog 54 2 = some 21 := by kernel_rfl
theorem F.foff54_4 : foff Tryz.prog 54 4 = some 26 := by kernel_rfl
theorem F.ok70 : okFn Tryz.prog 70 = true := by kernel_rfl
theorem rcopied_ok (M : Mem) (s : ServerV) (frm : Int) (serial : Int) (hs0 : ServerV.ok M s) (hsv : IsSrv s.pl) (hb9 : s.waits.l.length ≤ 1000) : Esp.Fn Tryz.prog 34 [s.enc, .int .i64 frm, .int .u64 serial] M (fun M' v => RqE M' v (copiedR s.pl frm serial)) := by
  obtain ⟨Zaf, Zx, ⟨Zr, Zq, Zh⟩, ⟨Zp, Zo, Zg⟩, Zw⟩ := s
  have Zbw : SlK M HeldV.segs 24 ⟨Zr, Zq, Zh⟩ := hs0.h0
  have Zfr : SlM M Zr (Zh.map HeldV.segs) 24 := Zbw.h1
  have n_s_store : (Zh.map HeldV.segs).length = Zh.length := List.length_map ..
  have m_s_store : Zh.length ≤ 9223372036854775807 := Zbw.h2
  have c_s_store : Zh.length ≤ Zq := Zbw.h3
  have Zdq : ∀ y ∈ Zh, HeldV.ok M y := hs0.h1
  have Zbz : SlK M WaitV.segs 28 ⟨Zp, Zo, Zg⟩ := hs0.h2
  have Zfn : SlM M Zp (Zg.map WaitV.segs) 28 := Zbz.h1
  have n_s_waits : (Zg.map WaitV.segs).length = Zg.length := List.length_map ..
  have m_s_waits : Zg.length ≤ 9223372036854775807 := Zbz.h2
  have c_s_waits : Zg.length ≤ Zo := Zbz.h3
  have Zdp : ∀ y ∈ Zg, WaitV.ok M y := hs0.h3
  simp only at hb9
  show Esp.Fn _ _ _ _ (fun M' v => RqE M' v (copiedR (ServerV.pl ⟨Zaf, Zx, ⟨Zr, Zq, Zh⟩, ⟨Zp, Zo, Zg⟩, Zw⟩) frm serial))
  refine Zek Tryz.func34 rfl Tryz.ntmps34 rfl ?_; intro H
  refine Zj ?_; refine Za (l := [0, 1, 2]) rfl ?_
  refine Zcz ?_; intro b1
  refine Zby F.zero26 ?_; intro b2
  refine Zd ?_; refine Ze ?_; refine Zc ?_; refine Y_pk [7, 6, 3, 1, 2] ?_; refine Zj ?_; refine Za (l := [0]) rfl ?_; refine Zd ?_; refine Ze ?_; refine Zc ?_; refine Zj ?_; refine Za (l := [0]) rfl ?_; refine Zd ?_; refine Ze ?_; refine Zc ?_
  iterate 2 refine Zj ?_
  refine Za (l := [0]) rfl ?_; refine Zd ?_; refine Ze ?_; refine Zc ?_; refine Zbe ?_; refine Y_pk [10, 8, 9, 7, 6, 3, 1, 2] ?_; refine Zeo (Hin := []) (.succ (.succ (.succ .zero))) (by repeat first | exact Rem.here _ | exact Rem.two | apply Rem.skip | apply Rem.over) (fun (k : Nat) M1 h1 z => ∃ (wl : List WaitV) (pl : List PostV) (v8 v9 : Value) (ha hb : Hp), z = [(10, .int .i64 (k : Int)), (8, v8), (9, v9)] ∧ k ≤ Zg.length ∧ h1 = ha ++ hb ∧ wtl wl = ((wtl Zg).take k).filterMap (stays1 frm serial) ∧ pstl pl = ((wtl Zg).take k).filterMap (done1 (ServerV.pl ⟨Zaf, Zx, ⟨Zr, Zq, Zh⟩, ⟨Zp, Zo, Zg⟩, Zw⟩) frm serial) ∧ (∀ w ∈ wl, WaitV.ok M1 w) ∧ (∀ y ∈ pl, PostV.ok M1 y) ∧ OSl 54 28 v8 ha (wl.map WaitV.segs) ∧ OSl 51 37 v9 hb (pl.map PostV.segs)) (fun k => Zg.length - k) (0) (⟨[], [], _, _, [], [], rfl, by omega, rfl, rfl, rfl, (fun w hw => by cases hw), (fun w hw => by cases hw), OSl.nil, OSl.nil⟩) ?_
  rintro k M1 h1 z hm1 ⟨wl, pl, v8, v9, ha, hb, rfl, hk9, rfl, hwl, hpl, okl, okp, oa, ob⟩
  obtain ⟨ad8, cp8, rfl⟩ := oa.val
  obtain ⟨ad9, cp9, rfl⟩ := ob.val
  have hml : (wl.map WaitV.segs).length = wl.length := List.length_map ..
  have hmp : (pl.map PostV.segs).length = pl.length := List.length_map ..
  rw [hml] at oa ⊢
  rw [hmp] at ob ⊢
  have hll : wl.length ≤ k := by have h9 := congrArg List.length hwl; rw [Zcs] at h9; have h8 := List.length_filterMap_le (stays1 frm serial) ((wtl Zg).take k); rw [List.length_take] at h8; omega
  have hlp : pl.length ≤ k := by have h9 := congrArg List.length hpl; rw [pstl_len] at h9; have h8 := List.length_filterMap_le (done1 (ServerV.pl ⟨Zaf, Zx, ⟨Zr, Zq, Zh⟩, ⟨Zp, Zo, Zg⟩, Zw⟩) frm serial) ((wtl Zg).take k); rw [List.length_take] at h8; omega
  have s_w1 := Zfn.mono hm1
  rw [List.append_assoc]
  iterate 2 refine Zj ?_
  refine Za (l := [0, 1, 2, 3, 4]) rfl ?_; refine Zf ?_; refine Zb F.foff26_3 ?_; refine Zi F.lay24 ?_; refine Zbb F.elem24 ?_; refine Zav ?_; refine Ze ?_; refine Zc ?_
  refine Zau rfl (fun hc3 => ?_) (fun hc3 => ?_)
  ·replace hc3 := dT hc3
   refine Zax ?_; refine Zc ?_; refine Zj ?_; refine Zbe ?_; refine Zj ?_; refine Za (l := [0, 1, 2, 3, 4, 5, 6]) rfl ?_; refine Zb F.foff26_3 ?_; refine Zi F.lay24 ?_; refine Zf ?_; refine Zaa rfl rfl rfl rfl F.elem24 (by rfl) (by omega) (by exact SlM.plain (by assumption) (by (simp; omega))) rfl ?_; refine Zay rfl rfl rfl (by assumption) (by exact Zbl (by omega)) F.lay54 rfl rfl rfl ?_
   obtain ⟨⟨Zev, Zbo, Zfh, ⟨Zat, Zaw, Zbn, Zaz⟩, Zcn, ⟨Zcl, Zck, Zac⟩⟩, hwk⟩ : ∃ w, Zg[k]'(by omega) = w := ⟨_, rfl⟩
   refine Zgq 25 rfl (show _ = aggV (WaitV.segs ⟨Zev, Zbo, Zfh, ⟨Zat, Zaw, Zbn, Zaz⟩, Zcn, ⟨Zcl, Zck, Zac⟩⟩) from by rw [← hwk]; rfl) ?_
   have okw := Zdp _ (List.getElem_mem (n := k) (show k < Zg.length by omega))
   rw [hwk] at okw
   have s_n := okw.h0.h1.mono hm1
   try simp only at s_n
   have n_n : (Zac.map (oneI .i64)).length = Zac.length := List.length_map ..
   have hwo : WtOk (WaitV.pl ⟨Zev, Zbo, Zfh, ⟨Zat, Zaw, Zbn, Zaz⟩, Zcn, ⟨Zcl, Zck, Zac⟩⟩) := by
    have h9 := hsv.1.1 _ (List.mem_map_of_mem (f := WaitV.pl) (List.getElem_mem (n := k) (show k < Zg.length by omega)))
    rw [hwk] at h9; exact h9
   have hnl : Zac.length ≤ 8 := hwo.2.1.2
   refine Zby F.zero54 ?_; intro b4
   refine Zas F.lay54 ?_; refine Ze ?_; refine Zc ?_
   iterate 2 refine Zj ?_
   refine Za (l := [0, 1, 2, 3]) rfl ?_; refine Zb F.foff54_4 ?_; refine Zi F.lay22 ?_; refine Zf ?_; refine Zav ?_; refine Ze ?_; refine Zc ?_
   refine Zau rfl (fun hc5 => ?_) (fun hc5 => ?_)
   ·replace hc5 := nT hc5
    refine Zj ?_; refine Za (l := [0, 1, 2, 3, 4]) rfl ?_; refine Zf ?_; refine Zi F.lay54 ?_
    refine Zbt rfl rfl F.elem24 F.zero54 rfl rfl (.cons rfl (by constructor) .nil) rfl rfl (by simp only [List.map_cons, List.map_nil] <;> rfl) rfl ?_; intro b6 hob7
    refine Zdn (m := 1000000) rfl rfl rfl rfl rfl F.elem24 F.zero54 (by exact Zei rfl) rfl (by assumption) (by repeat first | exact Rem.here _ | exact Rem.two | apply Rem.skip | apply Rem.over) (Src.own hob7.lens (by (refine Zdy ?_; (repeat (first | exact Zbp | refine Zcb ?_ | (refine Zam ?_ ?_; rfl))); done)) rfl (by repeat first | exact List.Mem.head _ | refine List.Mem.tail _ ?_ | refine List.mem_append_right _ ?_)) (by (simp; omega)) (by decide) rfl ?_; intro v10 hs9 ho8; obtain ⟨adv10, cpv10, rfl⟩ := ho8.val
    refine Zd ?_; refine Ze ?_; refine Zc ?_; refine Zcm ?_; refine Zcd ?_; refine Zdl ?_; refine Zc ?_; refine Za (l := [0, 1, 2]) rfl ?_; refine Zf ?_; refine Zcc rfl rfl rfl rfl rfl (by exact Zbf (by decide) (by omega)) rfl ?_; refine Zd ?_; refine Ze ?_; refine Zcr (a' := [(10, _), (8, _), (9, _)]) (k + 1) (hs9 ++ hb) (.cons (k := 10) rfl (.cons (k := 8) rfl (.cons (k := 9) rfl (.cons (k := 7) rfl (.cons (k := 6) rfl (.cons (k := 3) rfl (.cons (k := 1) rfl (.cons (k := 2) rfl (.nil))))))))) hm1 (fun w hw => by first | exact hw | exact hw.c) ?_ ?_
    ·have hyy3 : ((wtl Zg).take (k + 1)) = (wtl Zg).take k ++ [WaitV.pl ⟨Zev, Zbo, Zfh, ⟨Zat, Zaw, Zbn, Zaz⟩, Zcn, ⟨Zcl, Zck, Zac⟩⟩] := by
      rw [List.take_add_one, List.getElem?_eq_getElem (show k < (wtl Zg).length by rw [Zcs]; omega), Zgi (by omega), hwk]; rfl
     have hyy1 : stays1 frm serial (WaitV.pl ⟨Zev, Zbo, Zfh, ⟨Zat, Zaw, Zbn, Zaz⟩, Zcn, ⟨Zcl, Zck, Zac⟩⟩) = some (WaitV.pl ⟨Zev, Zbo, Zfh, ⟨Zat, Zaw, Zbn, Zaz⟩, Zcn, ⟨Zcl, Zck, Zac⟩⟩) := if_pos (by assumption)
     have hyy2 : done1 (ServerV.pl ⟨Zaf, Zx, ⟨Zr, Zq, Zh⟩, ⟨Zp, Zo, Zg⟩, Zw⟩) frm serial (WaitV.pl ⟨Zev, Zbo, Zfh, ⟨Zat, Zaw, Zbn, Zaz⟩, Zcn, ⟨Zcl, Zck, Zac⟩⟩) = none := if_neg (fun e9 => absurd e9.1 (by assumption))
     refine ⟨wl ++ [⟨Zev, Zbo, Zfh, ⟨Zat, Zaw, Zbn, Zaz⟩, Zcn, ⟨Zcl, Zck, Zac⟩⟩], pl, _, _, hs9, hb, rfl, by omega, rfl, ?_, ?_, ?_, okp, ?_, ob⟩
     ·rw [hyy3, List.filterMap_append, ← hwl, List.filterMap_cons, hyy1]; unfold wtl; rw [List.map_append]; rfl
     ·rw [hyy3, List.filterMap_append, ← hpl, List.filterMap_cons, hyy2]; simp
     ·intro w9 hw9
      rcases List.mem_append.1 hw9 with hw9 | hw9
      ·exact okl w9 hw9
      ·obtain rfl := List.mem_singleton.1 hw9
       exact okw.mono (hm1)
     ·rw [List.map_append]
      exact ho8
    ·omega
   ·replace hc5 := nF hc5
    refine Zax ?_; refine Zc ?_; refine Zj ?_; refine Za (l := [0]) rfl ?_; refine Zd ?_; refine Ze ?_; refine Zc ?_
    iterate 2 refine Zj ?_
    refine Za (l := [0]) rfl ?_; refine Zd ?_; refine Ze ?_; refine Zc ?_; refine Zbe ?_; refine Y_pk [13, 12, 29, 28, 27, 26, 11, 25, 24, 23, 22, 21, 18, 17, 16, 15, 14, 10, 8, 9, 7, 6, 3, 1, 2] ?_; refine Zeo (Hin := []) (.succ (.succ .zero)) (by repeat first | exact Rem.here _ | exact Rem.two | apply Rem.skip | apply Rem.over) (fun (j : Nat) M2 h2 z => ∃ v, M2 = M1 ∧ z = [(13, .int .i64 (j : Int)), (12, v)] ∧ j ≤ Zac.length ∧ OSl 3 1 v h2 (((Zac.take (j)).filter (notI frm)).map (oneI .i64))) (fun j => Zac.length - j) (0) (⟨_, rfl, rfl, by omega, OSl.nil⟩) ?_
    rintro j M2 h2 z hm2 ⟨v2, hM2, rfl, hj9, o2⟩
    subst M2
    obtain ⟨ad5, cp5, rfl⟩ := o2.val
    have hmn : (((Zac.take (j)).filter (notI frm)).map (oneI .i64)).length = ((Zac.take (j)).filter (notI frm)).length := List.length_map ..
    rw [hmn] at o2 ⊢
    have hfl : ((Zac.take (j)).filter (notI frm)).length ≤ j := Nat.le_trans (List.length_filter_le ..) (by rw [List.length_take]; omega)
    iterate 2 refine Zj ?_
    refine Za (l := [0, 1, 2, 3, 4]) rfl ?_; refine Zf ?_; refine Zb F.foff54_5 ?_; refine Zi F.lay52 ?_; refine Zbb F.elem52 ?_; refine Zav ?_; refine Ze ?_; refine Zc ?_
    refine Zau rfl (fun hc11 => ?_) (fun hc11 => ?_)
    ·replace hc11 := dT hc11
     refine Zax ?_; refine Zc ?_; refine Zj ?_; refine Zbe ?_; refine Zj ?_; refine Za (l := [0, 1, 2, 3, 4, 5, 6]) rfl ?_; refine Zb F.foff54_5 ?_; refine Zi F.lay52 ?_; refine Zf ?_; refine Zaa rfl rfl rfl rfl F.elem52 (by rfl) (by omega) (by exact SlM.plain (by assumption) (by (simp; omega))) rfl ?_; refine Zay rfl rfl rfl (by assumption) (by exact Zbl (by omega)) F.lay3 rfl rfl rfl ?_; refine Zf ?_; refine Zav ?_; refine Ze ?_; refine Zc ?_
     refine Zau rfl (fun hc12 => ?_) (fun hc12 => ?_)
     ·replace hc12 := nT hc12
      refine Za (l := [0, 1, 2, 3, 4, 5, 6, 7, 8]) rfl ?_; refine Zf ?_; refine Zb F.foff54_5 ?_; refine Zi F.lay52 ?_; refine Zf ?_; refine Zaa rfl rfl rfl rfl F.elem52 (by rfl) (by omega) (by exact SlM.plain (by assumption) (by (simp; omega))) rfl ?_; refine Zay rfl rfl rfl (by assumption) (by exact Zbl (by omega)) F.lay3 rfl rfl rfl ?_
      refine Zbt rfl rfl F.elem52 F.zero3 rfl rfl (.cons rfl (by constructor) .nil) rfl rfl (by simp only [List.map_cons, List.map_nil] <;> rfl) rfl ?_; intro b13 hob14
      refine Zdn (m := 1000000) rfl rfl rfl rfl rfl F.elem52 F.zero3 (by rfl) rfl (by assumption) (by repeat first | exact Rem.here _ | exact Rem.two | apply Rem.skip | apply Rem.over) (Src.own hob14.lens (by (refine Zdy ?_; (repeat (first | exact Zbp | refine Zcb ?_ | (refine Zam ?_ ?_; rfl))); done)) rfl (by repeat first | exact List.Mem.head _ | refine List.Mem.tail _ ?_ | refine List.mem_append_right _ ?_)) (by (simp; omega)) (by decide) rfl ?_; intro v17 hs16 ho15; obtain ⟨adv17, cpv17, rfl⟩ := ho15.val
      refine Zd ?_; refine Ze ?_; refine Zde ?_; refine Zc ?_; refine Za (l := [0, 1, 2]) rfl ?_; refine Zf ?_; refine Zcc rfl rfl rfl rfl rfl (by exact Zbf (by decide) (by omega)) rfl ?_; refine Zd ?_; refine Ze ?_; refine Zcr (a' := [(13, _), (12, _)]) (j + 1) (hs16) (.cons (k := 13) rfl (.cons (k := 12) rfl (.cons (k := 29) rfl (.cons (k := 28) rfl (.cons (k := 27) rfl (.cons (k := 26) rfl (.cons (k := 11) rfl (.cons (k := 25) rfl (.cons (k := 24) rfl (.cons (k := 23) rfl (.cons (k := 22) rfl (.cons (k := 21) rfl (.cons (k := 18) rfl (.cons (k := 17) rfl (.cons (k := 16) rfl (.cons (k := 15) rfl (.cons (k := 14) rfl (.cons (k := 10) rfl (.cons (k := 8) rfl (.cons (k := 9) rfl (.cons (k := 7) rfl (.cons (k := 6) rfl (.cons (k := 3) rfl (.cons (k := 1) rfl (.cons (k := 2) rfl (.nil)))))))))))))))))))))))))) (by exact Mem.le.refl _) (fun w hw => by first | exact hw | exact hw.c) ?_ ?_
      ·refine ⟨_, rfl, rfl, by omega, OSl.as9 ho15 ?_⟩
       rw [List.take_add_one, List.getElem?_eq_getElem (show j < Zac.length by omega)]
       simp only [Option.toList_some, List.filter_append, List.map_append]
       rw [List.filter_cons, notI_t (by assumption)]; rfl
      ·omega
     ·replace hc12 := nF hc12
      refine Zax ?_; refine Zde ?_; refine Zc ?_; refine Za (l := [0, 1, 2]) rfl ?_; refine Zf ?_; refine Zcc rfl rfl rfl rfl rfl (by exact Zbf (by decide) (by omega)) rfl ?_; refine Zd ?_; refine Ze ?_; refine Zcr (a' := [(13, _), (12, _)]) (j + 1) (h2) (.cons (k := 13) rfl (.cons (k := 12) rfl (.cons (k := 29) rfl (.cons (k := 28) rfl (.cons (k := 27) rfl (.cons (k := 26) rfl (.cons (k := 11) rfl (.cons (k := 25) rfl (.cons (k := 24) rfl (.cons (k := 23) rfl (.cons (k := 22) rfl (.cons (k := 21) rfl (.cons (k := 18) rfl (.cons (k := 17) rfl (.cons (k := 16) rfl (.cons (k := 15) rfl (.cons (k := 14) rfl (.cons (k := 10) rfl (.cons (k := 8) rfl (.cons (k := 9) rfl (.cons (k := 7) rfl (.cons (k := 6) rfl (.cons (k := 3) rfl (.cons (k := 1) rfl (.cons (k := 2) rfl (.nil)))))))))))))))))))))))))) (by exact Mem.le.refl _) (fun w hw => by first | exact hw | exact hw.c) ?_ ?_
      ·refine ⟨_, rfl, rfl, by omega, OSl.as9 o2 ?_⟩
       rw [List.take_add_one, List.getElem?_eq_getElem (show j < Zac.length by omega)]
       simp only [Option.toList_some, List.filter_append, List.map_append]
       rw [List.filter_cons, notI_f (by assumption)]; simp
      ·omega
    ·replace hc11 := dF hc11
     refine Zcm ?_
     iterate 2 refine Zcd ?_
     refine Zdl ?_; refine Zc ?_; refine Zj ?_
     obtain rfl : j = Zac.length := by omega
     rw [List.take_length] at o2 hfl ⊢
     refine Zgw o2 (by repeat first | exact Rem.here _ | exact Rem.two | apply Rem.skip | apply Rem.over) (fun M3 hM3 k_nn => ?_)
     have s_w3 := s_w1.mono hM3
     refine Za (l := [0, 1, 2]) rfl ?_; refine Zf ?_; refine Zb F.foff54_5 ?_; refine Zas F.lay52 ?_; refine Ze ?_; refine Zc ?_; refine Zj ?_; refine Za (l := [0, 1, 2]) rfl ?_; refine Zf ?_; refine Zbb F.elem52 ?_; refine Zav ?_; refine Ze ?_; refine Zc ?_
     refine Zau rfl (fun hc18 => ?_) (fun hc18 => ?_)
     ·replace hc18 := dT hc18
      refine Za (l := [0, 1, 2, 3, 4]) rfl ?_; refine Zf ?_; refine Zi F.lay54 ?_
      refine Zbt rfl rfl F.elem24 F.zero54 rfl rfl (.cons rfl (by constructor) .nil) rfl rfl (by simp only [List.map_cons, List.map_nil] <;> rfl) rfl ?_; intro b19 hob20
      refine Zdn (m := 1000000) rfl rfl rfl rfl rfl F.elem24 F.zero54 (by exact Zei rfl) rfl (by assumption) (by repeat first | exact Rem.here _ | exact Rem.two | apply Rem.skip | apply Rem.over) (Src.own hob20.lens (by (refine Zdy ?_; (repeat (first | exact Zbp | refine Zcb ?_ | (refine Zam ?_ ?_; rfl))); done)) rfl (by repeat first | exact List.Mem.head _ | refine List.Mem.tail _ ?_ | refine List.mem_append_right _ ?_)) (by (simp; omega)) (by decide) rfl ?_; intro v23 hs22 ho21; obtain ⟨adv23, cpv23, rfl⟩ := ho21.val
      refine Zd ?_; refine Ze ?_; refine Zde ?_; refine Zc ?_; refine Za (l := [0, 1, 2]) rfl ?_; refine Zf ?_; refine Zcc rfl rfl rfl rfl rfl (by exact Zbf (by decide) (by omega)) rfl ?_; refine Zd ?_; refine Ze ?_; refine Zcr (a' := [(10, _), (8, _), (9, _)]) (k + 1) (hs22 ++ hb) (.cons (k := 10) rfl (.cons (k := 8) rfl (.cons (k := 9) rfl (.cons (k := 7) rfl (.cons (k := 6) rfl (.cons (k := 3) rfl (.cons (k := 1) rfl (.cons (k := 2) rfl (.nil))))))))) (hm1.trans hM3) (fun w hw => by first | exact hw | exact hw.c) ?_ ?_
      ·have hyy3 : ((wtl Zg).take (k + 1)) = (wtl Zg).take k ++ [WaitV.pl ⟨Zev, Zbo, Zfh, ⟨Zat, Zaw, Zbn, Zaz⟩, Zcn, ⟨Zcl, Zck, Zac⟩⟩] := by
        rw [List.take_add_one, List.getElem?_eq_getElem (show k < (wtl Zg).length by rw [Zcs]; omega), Zgi (by omega), hwk]; rfl
       have hsn : (WaitV.pl ⟨Zev, Zbo, Zfh, ⟨Zat, Zaw, Zbn, Zaz⟩, Zcn, ⟨Zcl, Zck, Zac⟩⟩).serial = serial := by first | assumption | (simp only [WaitV.pl]; omega)
       have hln : ¬ lessN (WaitV.pl ⟨Zev, Zbo, Zfh, ⟨Zat, Zaw, Zbn, Zaz⟩, Zcn, ⟨Zcl, Zck, Zac⟩⟩) frm = [] := by
        intro e9
        have e8 : (Zac.filter (notI frm)).length = 0 := congrArg List.length e9
        omega
       have hyy1 : stays1 frm serial (WaitV.pl ⟨Zev, Zbo, Zfh, ⟨Zat, Zaw, Zbn, Zaz⟩, Zcn, ⟨Zcl, Zck, Zac⟩⟩) = some (WaitV.pl (⟨Zev, Zbo, Zfh, ⟨Zat, Zaw, Zbn, Zaz⟩, Zcn, ⟨ad5, cp5, Zac.filter (notI frm)⟩⟩ : WaitV)) := by unfold stays1; rw [if_neg (fun e9 => e9 hsn), if_neg hln]; rfl
       have hyy2 : done1 (ServerV.pl ⟨Zaf, Zx, ⟨Zr, Zq, Zh⟩, ⟨Zp, Zo, Zg⟩, Zw⟩) frm serial (WaitV.pl ⟨Zev, Zbo, Zfh, ⟨Zat, Zaw, Zbn, Zaz⟩, Zcn, ⟨Zcl, Zck, Zac⟩⟩) = none := if_neg (fun e9 => hln e9.2)
       refine ⟨wl ++ [(⟨Zev, Zbo, Zfh, ⟨Zat, Zaw, Zbn, Zaz⟩, Zcn, ⟨ad5, cp5, Zac.filter (notI frm)⟩⟩ : WaitV)], pl, _, _, hs22, hb, rfl, by omega, rfl, ?_, ?_, ?_, fun y9 hy9 => (okp y9 hy9).mono hM3, ?_, ob⟩
       ·rw [hyy3, List.filterMap_append, ← hwl, List.filterMap_cons, hyy1]; unfold wtl; rw [List.map_append]; rfl
       ·rw [hyy3, List.filterMap_append, ← hpl, List.filterMap_cons, hyy2]; simp
       ·intro w9 hw9
        rcases List.mem_append.1 hw9 with hw9 | hw9
        ·exact (okl w9 hw9).mono hM3
        ·obtain rfl := List.mem_singleton.1 hw9
         exact ⟨k_nn⟩
       ·rw [List.map_append]
        exact ho21
      ·omega
     ·replace hc18 := dF hc18
      refine Za (l := [0, 1, 2, 3, 4, 5, 6, 7, 8, 9, 10]) rfl ?_; refine Zf ?_; refine Zi F.lay26 ?_; refine Zb F.foff54_1 ?_; refine Zi F.lay3 ?_; refine Zb F.foff54_2 ?_; refine Zi F.lay22 ?_; refine Zb F.foff54_3 ?_; refine Zi F.lay34 ?_; refine X_fn rfl rfl F.ok70 rfl (rreply_ok _ ⟨Zaf, Zx, ⟨Zr, Zq, Zh⟩, ⟨Zp, Zo, Zg⟩, Zw⟩ Zbo Zfh ⟨Zat, Zaw, Zbn, Zaz⟩ (hs0.mono (by (repeat first | assumption | refine Mem.le.trans (by assumption) ?_))) hwo.2.2.1) rfl ?_
      rintro _ M8 hm8 ⟨⟨z_a, z_c, z_l⟩, rfl, hz, k_z, o_z⟩
      have hz1 : z_l.length = 1 := by have h9 := congrArg List.length hz; rw [pstl_len] at h9; exact h9
      refine Zfk (m := 1000000) rfl rfl rfl rfl rfl F.elem43 F.zero51 (by exact Zei rfl) rfl (by assumption) (by repeat first | exact Rem.here _ | exact Rem.two | apply Rem.skip | apply Rem.over) (k_z.h1) PostV.flat (by omega) (by decide) rfl ?_; intro v26 hs25 ho24; obtain ⟨adv26, cpv26, rfl⟩ := ho24.val
      refine Zd ?_; refine Ze ?_; refine Zde ?_; refine Zc ?_; refine Za (l := [0, 1, 2]) rfl ?_; refine Zf ?_; refine Zcc rfl rfl rfl rfl rfl (by exact Zbf (by decide) (by omega)) rfl ?_; refine Zd ?_; refine Ze ?_; refine Zcr (a' := [(10, _), (8, _), (9, _)]) (k + 1) (ha ++ hs25) (.cons (k := 10) rfl (.cons (k := 8) rfl (.cons (k := 9) rfl (.cons (k := 7) rfl (.cons (k := 6) rfl (.cons (k := 3) rfl (.cons (k := 1) rfl (.cons (k := 2) rfl (.nil))))))))) (hm1.trans (hM3.trans hm8)) (fun w hw => by first | exact hw | exact hw.c) ?_ ?_
      ·have hyy3 : ((wtl Zg).take (k + 1)) = (wtl Zg).take k ++ [WaitV.pl ⟨Zev, Zbo, Zfh, ⟨Zat, Zaw, Zbn, Zaz⟩, Zcn, ⟨Zcl, Zck, Zac⟩⟩] := by
        rw [List.take_add_one, List.getElem?_eq_getElem (show k < (wtl Zg).length by rw [Zcs]; omega), Zgi (by omega), hwk]; rfl
       have hsn : (WaitV.pl ⟨Zev, Zbo, Zfh, ⟨Zat, Zaw, Zbn, Zaz⟩, Zcn, ⟨Zcl, Zck, Zac⟩⟩).serial = serial := by first | assumption | (simp only [WaitV.pl]; omega)
       have hln : lessN (WaitV.pl ⟨Zev, Zbo, Zfh, ⟨Zat, Zaw, Zbn, Zaz⟩, Zcn, ⟨Zcl, Zck, Zac⟩⟩) frm = [] := List.eq_nil_of_length_eq_zero (by show (Zac.filter (notI frm)).length = 0; omega)
       have hyy1 : stays1 frm serial (WaitV.pl ⟨Zev, Zbo, Zfh, ⟨Zat, Zaw, Zbn, Zaz⟩, Zcn, ⟨Zcl, Zck, Zac⟩⟩) = none := by unfold stays1; rw [if_neg (fun e9 => e9 hsn), if_pos hln]
       have hyy2 : done1 (ServerV.pl ⟨Zaf, Zx, ⟨Zr, Zq, Zh⟩, ⟨Zp, Zo, Zg⟩, Zw⟩) frm serial (WaitV.pl ⟨Zev, Zbo, Zfh, ⟨Zat, Zaw, Zbn, Zaz⟩, Zcn, ⟨Zcl, Zck, Zac⟩⟩) = some (replyR (ServerV.pl ⟨Zaf, Zx, ⟨Zr, Zq, Zh⟩, ⟨Zp, Zo, Zg⟩, Zw⟩) Zbo Zfh ⟨Zat, Zaw, Zbn, Zaz⟩) := if_pos ⟨hsn, hln⟩
       refine ⟨wl, pl ++ z_l, _, _, ha, hs25, rfl, by omega, rfl, ?_, ?_, fun w9 hw9 => (okl w9 hw9).mono (hM3.trans hm8), ?_, oa, ?_⟩
       ·rw [hyy3, List.filterMap_append, ← hwl, List.filterMap_cons, hyy1]; simp
       ·rw [hyy3, List.filterMap_append, ← hpl, List.filterMap_cons, hyy2]; unfold pstl at hz ⊢; rw [List.map_append, hz]; rfl
       ·intro y9 hy9
        rcases List.mem_append.1 hy9 with hy9 | hy9
        ·exact (okp y9 hy9).mono (hM3.trans hm8)
        ·exact o_z y9 hy9
       ·rw [List.map_append]
        exact ho24
      ·omega
  ·replace hc3 := dF hc3
   refine Zcm ?_
   iterate 2 refine Zcd ?_
   refine Zdl ?_; refine Zc ?_; refine Y_pk [8, 9, 7, 6, 3] ?_; refine Zj ?_
   obtain rfl : k = Zg.length := by omega
   rw [List.take_of_length_le (by rw [Zcs]; omega)] at hwl hpl
   refine Zgw oa (by repeat first | exact Rem.here _ | exact Rem.two | apply Rem.skip | apply Rem.over) (fun M4 hM4 k_w => ?_)
   refine Zgw ob (by repeat first | exact Rem.here _ | exact Rem.two | apply Rem.skip | apply Rem.over) (fun M5 hM5 k_o => ?_)
   refine Za (l := [0, 1, 2]) rfl ?_; refine Zf ?_; refine Zb F.foff26_3 ?_; refine Zas F.lay24 ?_; refine Ze ?_; refine Zc ?_; refine Y_pk [9, 7, 6, 3] ?_; refine Zj ?_; refine Za (l := [0, 1, 2, 3]) rfl ?_; refine Zi F.lay26 ?_; refine Zf ?_; refine Zas F.lay26 ?_; refine Zd ?_; refine Ze ?_; refine Zc ?_; refine Y_pk [7, 6] ?_; refine Zak ?_
   refine Zaj (.inr rfl) (.cell rfl (by repeat first | exact List.Mem.head _ | refine List.Mem.tail _ ?_ | refine List.mem_append_right _ ?_) F.lay26 rfl rfl (.tmp rfl .nil)) (fun w hw => ?_)
   exact ⟨_, M5, rfl, hm1.trans (hM4.trans hM5), hw.c, ⟨Zaf, Zx, ⟨Zr, Zq, Zh⟩, ⟨ad8, cp8, wl⟩, Zw⟩, ⟨ad9, cp9, pl⟩, rfl, by show Srv.mk _ _ (pls Zh) (wtl wl) _ = _; rw [hwl]; rfl, hpl, ⟨Zbw.mono (hm1.trans (hM4.trans hM5)), fun h hh => (Zdq h hh).mono (hm1.trans (hM4.trans hM5)), k_w.mono hM5, fun w hw => (okl w hw).mono (hM4.trans hM5)⟩, k_o, fun y hy => (okp y hy).mono (hM4.trans hM5)⟩
end Go.Proofs.YtpkeilhilpogiaaGreat
namespace Go.Proofs.YtpkeilhilpogiaaGreat
open Go.Esp
theorem F.foff26_4 : foff Tryz.prog 26 4 = some 4 := by kernel_rfl
theorem F.foff51_0 : foff Tryz.prog 51 0 = some 0 := by kernel_rfl
theorem F.foff51_1 : foff Tryz.prog 51 1 = some 1 := by kernel_rfl
theorem F.ok21 : okFn Tryz.prog 21 = true := by kernel_rfl
theorem F.ok22 : okFn Tryz.prog 22 = true := by kernel_rfl
theorem F.ok41 : okFn Tryz.prog 41 = true := by kernel_rfl
theorem F.ok42 : okFn Tryz.prog 42 = true := by kernel_rfl
theorem F.ok43 : okFn Tryz.prog 43 = true := by kernel_rfl
theorem F.ok80 : okFn Tryz.prog 80 = true := by kernel_rfl
theorem map_ext9 {α β : Type} {f : α → β} {a b : List α} (hl : a.length = b.length) (h : ∀ j (h2 : j < a.length) (h3 : j < b.length), f a[j] = f b[j]) : a.map f = b.map f :=
  List.ext_getElem (by simp [hl]) fun j h2 h3 => by simpa using h j (by simpa using h2) (by simpa using h3)
theorem map_at9 {α β : Type} {f : α → β} {a b : List α} (h : a.map f = b.map f) {j : Nat} (h2 : j < a.length) (h3 : j < b.length) : f a[j] = f b[j] := by
  have e1 : (a.map f)[j]? = some (f a[j]) := by simp [h2]
  have e2 : (b.map f)[j]? = some (f b[j]) := by simp [h3]
  rw [h, e2] at e1; exact (Option.some.inj e1).symm
theorem map_len9 {α β : Type} {f : α → β} {a b : List α} (h : a.map f = b.map f) : a.length = b.length := by have := congrArg List.length h; simpa using this
theorem pst_mk9 {x y : PostV} (h1 : x.to = y.to) (h2 : x.parcel.pl = y.parcel.pl) : PostV.pl x = PostV.pl y := by unfold PostV.pl; rw [h1, h2]
theorem Ints_ok (M : Mem) (a : (Sl Int)) (b : (Sl Int)) (ha0 : SlK M (oneI .i64) 1 a) (hb1 : SlK M (oneI .i64) 1 b) : Fs Tryz.prog 80 [Sl.val a, Sl.val b] M (fun v => v = Value.bool (decide (a.l.map (id : Int → Int) = b.l.map (id : Int → Int)))) := by
  obtain ⟨a_a, a_c, a_l⟩ := a
  obtain ⟨b_a, b_c, b_l⟩ := b
  have k_a : SlK M (oneI .i64) 1 ⟨a_a, a_c, a_l⟩ := ha0
  have s_a : SlM M a_a (a_l.map (oneI .i64)) 1 := k_a.h1
  have n_a : (a_l.map (oneI .i64)).length = a_l.length := List.length_map ..
  have m_a : a_l.length ≤ 9223372036854775807 := k_a.h2
  have c_a : a_l.length ≤ a_c := k_a.h3
  have k_b : SlK M (oneI .i64) 1 ⟨b_a, b_c, b_l⟩ := hb1
  have s_b : SlM M b_a (b_l.map (oneI .i64)) 1 := k_b.h1
  have n_b : (b_l.map (oneI .i64)).length = b_l.length := List.length_map ..
  have m_b : b_l.length ≤ 9223372036854775807 := k_b.h2
  have c_b : b_l.length ≤ b_c := k_b.h3
  refine Zci Tryz.func80 rfl Tryz.ntmps80 rfl ?_; intro H
  refine Zj ?_; refine Za (l := [0]) rfl ?_; refine Zd ?_; refine Ze ?_; refine Zc ?_
  iterate 2 refine Zj ?_
  refine Za (l := [0, 1, 2, 3, 4]) rfl ?_; refine Zf ?_; refine Zbb F.elem52 ?_; refine Zf ?_; refine Zbb F.elem52 ?_; refine Zav ?_; refine Ze ?_; refine Zc ?_; refine Y_pk [10, 4, 0, 1] ?_
  refine Zau rfl (fun hc1 => ?_) (fun hc1 => ?_)
  ·replace hc1 := nT hc1
   refine Zj ?_; refine Za (l := [0]) rfl ?_; refine Zd ?_; refine Ze ?_; refine Zc ?_; refine Y_pk [4, 0, 1] ?_; refine Zak ?_; refine Zba ?_
   refine Zaj (.inr rfl) (.tmp rfl .nil) (fun w hw => ?_)
   refine ⟨_, rfl, (hw.c), ?_⟩
   clear hw
   show _ = Value.bool (decide (a_l.map (id : Int → Int) = b_l.map (id : Int → Int)))
   exact congrArg Value.bool (decide_eq_false (fun h9 => by have h8 := map_len9 h9; omega)).symm
  ·replace hc1 := nF hc1
   refine Zax ?_; refine Zc ?_; refine Y_pk [4, 0, 1] ?_
   iterate 2 refine Zj ?_
   refine Za (l := [0]) rfl ?_; refine Zd ?_; refine Ze ?_; refine Zc ?_; refine Zbe ?_; refine Y_pk [5, 4, 0, 1] ?_; refine Zed (.succ .zero) (fun (k : Nat) z => z = [(5, .int .i64 (k : Int))] ∧ k ≤ a_l.length ∧ (∀ j (h2 : j < a_l.length) (h3 : j < b_l.length), j < k → (id : Int → Int) a_l[j] = (id : Int → Int) b_l[j])) (fun k => a_l.length - k) (0) (⟨rfl, by omega, by (intro j h2 h3 hj; omega)⟩) ?_
   rintro k _ ⟨rfl, hk, hI⟩
   iterate 2 refine Zj ?_
   refine Za (l := [0, 1, 2, 3]) rfl ?_
   iterate 2 refine Zf ?_
   refine Zbb F.elem52 ?_; refine Zav ?_; refine Ze ?_; refine Zc ?_
   refine Zau rfl (fun hc2 => ?_) (fun hc2 => ?_)
   ·replace hc2 := dT hc2
    refine Zax ?_; refine Zc ?_; refine Zj ?_; refine Zbe ?_; refine Zj ?_; refine Zar (l := [0, 1, 2, 3, 4, 5, 6, 7, 8]) #[0, 0, 3, 7, 0, 0, 48, 112, 255] _ rfl (by kernel_rfl) (by kernel_rfl) St.drawn (fun _ h => h) ?_
    iterate 2 refine Zf ?_
    refine Zaa rfl rfl rfl rfl F.elem52 (by rfl) (by omega) (by exact SlM.plain (by assumption) (by (simp; omega))) rfl ?_; refine Zay rfl rfl rfl (by assumption) (by exact Zbl (by omega)) F.lay3 rfl rfl rfl ?_
    iterate 2 refine Zf ?_
    refine Zaa rfl rfl rfl rfl F.elem52 (by rfl) (by omega) (by exact SlM.plain (by assumption) (by (simp; omega))) rfl ?_; refine Zay rfl rfl rfl (by assumption) (by exact Zbl (by omega)) F.lay3 rfl rfl rfl ?_; refine Zav ?_; refine Ze ?_; refine Zc ?_
    refine Zau rfl (fun hc3 => ?_) (fun hc3 => ?_)
    ·replace hc3 := nT hc3
     refine Zj ?_; refine Za (l := [0]) rfl ?_; refine Zd ?_; refine Ze ?_; refine Zc ?_; refine Zak ?_; refine Zbj ?_
     iterate 2 refine Zba ?_
     refine Zbj ?_; refine Zba ?_
     refine Zaj (.inr rfl) (.tmp rfl .nil) (fun w hw => ?_)
     refine ⟨_, rfl, (hw.c), ?_⟩
     clear hw
     show _ = Value.bool (decide (a_l.map (id : Int → Int) = b_l.map (id : Int → Int)))
     refine congrArg Value.bool (decide_eq_false (fun h9 => ?_)).symm
     have h8 := map_at9 h9 (j := k) (by omega) (by omega)
     replace h8 : a_l[k] = b_l[k] := h8
     contradiction
    ·replace hc3 := nF hc3
     refine Zax ?_; refine Zde ?_; refine Zc ?_; refine Za (l := [0, 1, 2]) rfl ?_; refine Zf ?_; refine Zcc rfl rfl rfl rfl rfl (by exact Zbf (by decide) (by omega)) rfl ?_; refine Zd ?_; refine Ze ?_; refine Zda (a' := [(5, _)]) (k + 1) (.cons (k := 5) rfl (.cons (k := 4) rfl (.cons (k := 0) rfl (.cons (k := 1) rfl (.nil))))) (fun w hw => by first | exact hw | exact hw.c) ?_ ?_
     ·refine ⟨rfl, by omega, ?_⟩
      (intro j h2 h3 hj; rcases Nat.lt_or_ge j k with h9 | h9; exact hI j h2 h3 h9; have hjk : j = k := (by omega); subst hjk; first | assumption | exact pst_mk9 (by assumption) (by assumption) | (show id _ = id _; unfold id; omega) | (simp_all; done))
     ·omega
   ·replace hc2 := dF hc2
    refine Zcm ?_
    iterate 2 refine Zcd ?_
    refine Zdl ?_; refine Zc ?_; refine Y_pk [4] ?_; refine Zj ?_; refine Za (l := [0]) rfl ?_; refine Zd ?_; refine Ze ?_; refine Zc ?_; refine Zak ?_
    refine Zaj (.inr rfl) (.tmp rfl .nil) (fun w hw => ?_)
    refine ⟨_, rfl, (hw.c), ?_⟩
    clear hw
    show _ = Value.bool (decide (a_l.map (id : Int → Int) = b_l.map (id : Int → Int)))
    exact congrArg Value.bool (decide_eq_true (map_ext9 (by omega) (fun j h2 h3 => hI j h2 h3 (by omega)))).symm
theorem Posts_ok (M : Mem) (a : (Sl PostV)) (b : (Sl PostV)) (ha0 : SlK M PostV.segs 37 a) (ha1 : ∀ y ∈ (a).l, PostV.ok M y) (hb2 : SlK M PostV.segs 37 b) (hb3 : ∀ y ∈ (b).l, PostV.ok M y) : Fs Tryz.prog 17 [Sl.val a, Sl.val b] M (fun v => v = Value.bool (decide (a.l.map PostV.pl = b.l.map PostV.pl))) := by
  obtain ⟨a_a, a_c, a_l⟩ := a
  obtain ⟨b_a, b_c, b_l⟩ := b
  have k_a : SlK M PostV.segs 37 ⟨a_a, a_c, a_l⟩ := ha0
  have s_a : SlM M a_a (a_l.map PostV.segs) 37 := k_a.h1
  have n_a : (a_l.map PostV.segs).length = a_l.length := List.length_map ..
  have m_a : a_l.length ≤ 9223372036854775807 := k_a.h2
  have c_a : a_l.length ≤ a_c := k_a.h3
  have l_a : ∀ y ∈ a_l, PostV.ok M y := ha1
  have k_b : SlK M PostV.segs 37 ⟨b_a, b_c, b_l⟩ := hb2
  have s_b : SlM M b_a (b_l.map PostV.segs) 37 := k_b.h1
  have n_b : (b_l.map PostV.segs).length = b_l.length := List.length_map ..
  have m_b : b_l.length ≤ 9223372036854775807 := k_b.h2
  have c_b : b_l.length ≤ b_c := k_b.h3
  have l_b : ∀ y ∈ b_l, PostV.ok M y := hb3
  refine Zci Tryz.func17 rfl Tryz.ntmps17 rfl ?_; intro H
  refine Zj ?_; refine Za (l := [0]) rfl ?_; refine Zd ?_; refine Ze ?_; refine Zc ?_
  iterate 2 refine Zj ?_
  refine Za (l := [0, 1, 2, 3, 4]) rfl ?_; refine Zf ?_; refine Zbb F.elem43 ?_; refine Zf ?_; refine Zbb F.elem43 ?_; refine Zav ?_; refine Ze ?_; refine Zc ?_; refine Y_pk [10, 4, 0, 1] ?_
  refine Zau rfl (fun hc1 => ?_) (fun hc1 => ?_)
  ·replace hc1 := nT hc1
   refine Zj ?_; refine Za (l := [0]) rfl ?_; refine Zd ?_; refine Ze ?_; refine Zc ?_; refine Y_pk [4, 0, 1] ?_; refine Zak ?_; refine Zba ?_
   refine Zaj (.inr rfl) (.tmp rfl .nil) (fun w hw => ?_)
   refine ⟨_, rfl, (hw.c), ?_⟩
   clear hw
   show _ = Value.bool (decide (a_l.map PostV.pl = b_l.map PostV.pl))
   exact congrArg Value.bool (decide_eq_false (fun h9 => by have h8 := map_len9 h9; omega)).symm
  ·replace hc1 := nF hc1
   refine Zax ?_; refine Zc ?_; refine Y_pk [4, 0, 1] ?_
   iterate 2 refine Zj ?_
   refine Za (l := [0]) rfl ?_; refine Zd ?_; refine Ze ?_; refine Zc ?_; refine Zbe ?_; refine Y_pk [5, 4, 0, 1] ?_; refine Zed (.succ .zero) (fun (k : Nat) z => z = [(5, .int .i64 (k : Int))] ∧ k ≤ a_l.length ∧ (∀ j (h2 : j < a_l.length) (h3 : j < b_l.length), j < k → PostV.pl a_l[j] = PostV.pl b_l[j])) (fun k => a_l.length - k) (0) (⟨rfl, by omega, by (intro j h2 h3 hj; omega)⟩) ?_
   rintro k _ ⟨rfl, hk, hI⟩
   iterate 2 refine Zj ?_
   refine Za (l := [0, 1, 2, 3]) rfl ?_
   iterate 2 refine Zf ?_
   refine Zbb F.elem43 ?_; refine Zav ?_; refine Ze ?_; refine Zc ?_
   refine Zau rfl (fun hc2 => ?_) (fun hc2 => ?_)
   ·replace hc2 := dT hc2
    refine Zax ?_; refine Zc ?_; refine Zj ?_; refine Zbe ?_; refine Zj ?_; refine Zar (l := [0, 1, 2, 3, 4, 5, 6, 7, 8, 9, 10, 11, 12, 13, 14, 15, 16, 17, 18, 19, 20, 21, 22, 23, 24]) #[0, 0, 3, 7, 15, 0, 0, 96, 224, 480, 1023, 2047, 4095, 4095, 16383, 32767, 65535, 4095, 4095, 397311, 921599, 1970175, 4194303, 8388607, 16777215] _ rfl (by kernel_rfl) (by kernel_rfl) St.drawn (fun _ h => h) ?_
    iterate 2 refine Zf ?_
    refine Zaa rfl rfl rfl rfl F.elem43 (by rfl) (by omega) (by exact SlM.plain (by assumption) (by (simp; omega))) rfl ?_; refine Zaq rfl rfl rfl (by exact SlM.plain (by assumption) (by (simp; omega))) F.foff51_0 rfl ?_; refine Zay rfl rfl rfl (by assumption) (by exact Zbl (by omega)) F.lay3 rfl rfl rfl ?_
    iterate 2 refine Zf ?_
    refine Zaa rfl rfl rfl rfl F.elem43 (by rfl) (by omega) (by exact SlM.plain (by assumption) (by (simp; omega))) rfl ?_; refine Zaq rfl rfl rfl (by exact SlM.plain (by assumption) (by (simp; omega))) F.foff51_0 rfl ?_; refine Zay rfl rfl rfl (by assumption) (by exact Zbl (by omega)) F.lay3 rfl rfl rfl ?_; refine Zav ?_; refine Zf ?_
    refine Zag 28 rfl (fun hc3 => ?_) (fun hc3 => ?_)
    ·replace hc3 := nT hc3
     simp only [List.get_eq_getElem] at hc3
     iterate 12 refine Zz ?_
     refine Zl ?_; refine Ze ?_; refine Zc ?_; refine Zcy rfl ?_; refine Zj ?_; refine Za (l := [0]) rfl ?_; refine Zd ?_; refine Ze ?_; refine Zc ?_; refine Zak ?_; refine Zbj ?_
     iterate 2 refine Zba ?_
     refine Zbj ?_; refine Zba ?_
     refine Zaj (.inr rfl) (.tmp rfl .nil) (fun w hw => ?_)
     refine ⟨_, rfl, (hw.c), ?_⟩
     clear hw
     show _ = Value.bool (decide (a_l.map PostV.pl = b_l.map PostV.pl))
     refine congrArg Value.bool (decide_eq_false (fun h9 => ?_)).symm
     have h8 := map_at9 h9 (j := k) (by omega) (by omega)
     have h7 := congrArg Pst.to h8
     have h6 := congrArg Pst.parcel h8
     simp only [PostV.pl] at h7 h6
     contradiction
    ·replace hc3 := nF hc3
     simp only [List.get_eq_getElem] at hc3
     iterate 2 refine Zf ?_
     refine Zaa rfl rfl rfl rfl F.elem43 (by rfl) (by omega) (by exact SlM.plain (by assumption) (by (simp; omega))) rfl ?_; refine Zaq rfl rfl rfl (by exact SlM.plain (by assumption) (by (simp; omega))) F.foff51_1 rfl ?_; refine Zay rfl rfl rfl (by assumption) (by exact Zbl (by omega)) F.lay39 rfl rfl rfl ?_
     iterate 2 refine Zf ?_
     refine Zaa rfl rfl rfl rfl F.elem43 (by rfl) (by omega) (by exact SlM.plain (by assumption) (by (simp; omega))) rfl ?_; refine Zaq rfl rfl rfl (by exact SlM.plain (by assumption) (by (simp; omega))) F.foff51_1 rfl ?_; refine Zay rfl rfl rfl (by assumption) (by exact Zbl (by omega)) F.lay39 rfl rfl rfl ?_; refine X_fs rfl rfl F.ok43 rfl (rpSame_ok _ a_l[k].parcel b_l[k].parcel (l_a _ (List.getElem_mem (n := k) (show k < a_l.length by omega))).h0 (l_b _ (List.getElem_mem (n := k) (show k < b_l.length by omega))).h0) rfl ?_
     rintro _ rfl
     refine Zel ?_; refine Zl ?_; refine Ze ?_; refine Zc ?_
     refine Zau rfl (fun hc4 => ?_) (fun hc4 => ?_)
     ·replace hc4 := nT hc4
      refine Zj ?_; refine Za (l := [0]) rfl ?_; refine Zd ?_; refine Ze ?_; refine Zc ?_; refine Zak ?_; refine Zbj ?_
      iterate 2 refine Zba ?_
      refine Zbj ?_; refine Zba ?_
      refine Zaj (.inr rfl) (.tmp rfl .nil) (fun w hw => ?_)
      refine ⟨_, rfl, (hw.c), ?_⟩
      clear hw
      show _ = Value.bool (decide (a_l.map PostV.pl = b_l.map PostV.pl))
      refine congrArg Value.bool (decide_eq_false (fun h9 => ?_)).symm
      have h8 := map_at9 h9 (j := k) (by omega) (by omega)
      have h7 := congrArg Pst.to h8
      have h6 := congrArg Pst.parcel h8
      simp only [PostV.pl] at h7 h6
      contradiction
     ·replace hc4 := nF hc4
      refine Zax ?_; refine Zde ?_; refine Zc ?_; refine Za (l := [0, 1, 2]) rfl ?_; refine Zf ?_; refine Zcc rfl rfl rfl rfl rfl (by exact Zbf (by decide) (by omega)) rfl ?_; refine Zd ?_; refine Ze ?_; refine Zda (a' := [(5, _)]) (k + 1) (.cons (k := 5) rfl (.cons (k := 4) rfl (.cons (k := 0) rfl (.cons (k := 1) rfl (.nil))))) (fun w hw => by first | exact hw | exact hw.c) ?_ ?_
      ·refine ⟨rfl, by omega, ?_⟩
       (intro j h2 h3 hj; rcases Nat.lt_or_ge j k with h9 | h9; exact hI j h2 h3 h9; have hjk : j = k := (by omega); subst hjk; first | assumption | exact pst_mk9 (by assumption) (by assumption) | (show id _ = id _; unfold id; omega) | (simp_all; done))
      ·omega
   ·replace hc2 := dF hc2
    refine Zcm ?_
    iterate 2 refine Zcd ?_
    refine Zdl ?_; refine Zc ?_; refine Y_pk [4] ?_; refine Zj ?_; refine Za (l := [0]) rfl ?_; refine Zd ?_; refine Ze ?_; refine Zc ?_; refine Zak ?_
    refine Zaj (.inr rfl) (.tmp rfl .nil) (fun w hw => ?_)
    refine ⟨_, rfl, (hw.c), ?_⟩
    clear hw
    show _ = Value.bool (decide (a_l.map PostV.pl = b_l.map PostV.pl))
    exact congrArg Value.bool (decide_eq_true (map_ext9 (by omega) (fun j h2 h3 => hI j h2 h3 (by omega)))).symm
theorem sameW_ok (M : Mem) (a : WaitV) (b : WaitV) (ha0 : WaitV.ok M a) (hb1 : WaitV.ok M b) : Fs Tryz.prog 42 [a.enc, b.enc] M (fun v => v = Value.bool (decide (a.pl = b.pl))) := by
  obtain ⟨a_key, a_client, a_req, ⟨a_answer_code, a_answer_version, a_answer_has, a_answer_val⟩, Zfz, ⟨a_need_a, a_need_c, a_need_l⟩⟩ := a
  obtain ⟨b_key, b_client, b_req, ⟨b_answer_code, b_answer_version, b_answer_has, b_answer_val⟩, Zgh, ⟨b_need_a, b_need_c, b_need_l⟩⟩ := b
  have k_a_need : SlK M (oneI .i64) 1 ⟨a_need_a, a_need_c, a_need_l⟩ := ha0.h0
  have s_a_need : SlM M a_need_a (a_need_l.map (oneI .i64)) 1 := k_a_need.h1
  have n_a_need : (a_need_l.map (oneI .i64)).length = a_need_l.length := List.length_map ..
  have m_a_need : a_need_l.length ≤ 9223372036854775807 := k_a_need.h2
  have c_a_need : a_need_l.length ≤ a_need_c := k_a_need.h3
  have k_b_need : SlK M (oneI .i64) 1 ⟨b_need_a, b_need_c, b_need_l⟩ := hb1.h0
  have s_b_need : SlM M b_need_a (b_need_l.map (oneI .i64)) 1 := k_b_need.h1
  have n_b_need : (b_need_l.map (oneI .i64)).length = b_need_l.length := List.length_map ..
  have m_b_need : b_need_l.length ≤ 9223372036854775807 := k_b_need.h2
  have c_b_need : b_need_l.length ≤ b_need_c := k_b_need.h3
  refine Zci Tryz.func42 rfl Tryz.ntmps42 rfl ?_; intro H
  refine Zj ?_; refine Za (l := [0, 1, 2]) rfl ?_
  refine Zcz ?_; intro b1
  refine Zcz ?_; intro b2
  refine Zd ?_; refine Ze ?_; refine Zc ?_; refine Y_pk [4, 3, 2] ?_; refine Zj ?_; refine Za (l := [0, 1, 2, 3, 4, 5, 6, 7, 8, 9, 10, 11, 12, 13, 14, 15, 16, 17, 18, 19, 20, 21, 22, 23, 24, 25, 26, 27, 28, 29, 30, 31, 32, 33, 34, 35, 36, 37, 38, 39, 40]) rfl ?_; refine Zb F.foff54_0 ?_; refine Zi F.lay29 ?_; refine Zb F.foff54_0 ?_; refine Zi F.lay29 ?_
  refine Zfx (m := 20) rfl rfl rfl rfl rfl (by constructor) (by constructor) F.lay29 F.kinds29 rfl F.guard29 (Zga Zez) (Zga Zez) rfl rfl rfl ?_; intro c3 he4
  replace he4 : c3 = true ↔ Segs.cells _ = Segs.cells _ := he4
  obtain rfl := eqD he4 (Zfu (x := _) (y := _)); clear he4
  refine Zf ?_
  refine Zag 10 rfl (fun hc5 => ?_) (fun hc5 => ?_)
  ·replace hc5 := dT hc5
   refine Zb F.foff54_1 ?_; refine Zi F.lay3 ?_; refine Zb F.foff54_1 ?_; refine Zi F.lay3 ?_; refine Zav ?_; refine Zl ?_; refine Zf ?_
   refine Zag 17 rfl (fun hc6 => ?_) (fun hc6 => ?_)
   ·replace hc6 := dT hc6
    refine Zb F.foff54_2 ?_; refine Zi F.lay22 ?_; refine Zb F.foff54_2 ?_; refine Zi F.lay22 ?_; refine Zav ?_; refine Zl ?_; refine Zf ?_
    refine Zag 24 rfl (fun hc7 => ?_) (fun hc7 => ?_)
    ·replace hc7 := dT hc7
     refine Zb F.foff54_3 ?_; refine Zi F.lay34 ?_; refine Zb F.foff54_3 ?_; refine Zi F.lay34 ?_
     refine Zfx (m := 20) rfl rfl rfl rfl rfl (by constructor) (by constructor) F.lay34 F.kinds34 rfl F.guard34 (by exact FitAnswerV (⟨_, _, _, _⟩)) (by exact FitAnswerV (⟨_, _, _, _⟩)) rfl rfl rfl ?_; intro c8 he9
     replace he9 : c8 = true ↔ Segs.cells _ = Segs.cells _ := he9
     obtain rfl := eqD he9 (AnswerV.inj (x := ⟨_, _, _, _⟩) (y := ⟨_, _, _, _⟩)); clear he9
     refine Zl ?_; refine Zf ?_
     refine Zag 31 rfl (fun hc10 => ?_) (fun hc10 => ?_)
     ·replace hc10 := dT hc10
      refine Zb F.foff54_4 ?_; refine Zi F.lay22 ?_; refine Zb F.foff54_4 ?_; refine Zi F.lay22 ?_; refine Zav ?_; refine Zl ?_; refine Zf ?_
      refine Zag 38 rfl (fun hc11 => ?_) (fun hc11 => ?_)
      ·replace hc11 := dT hc11
       refine Zb F.foff54_5 ?_; refine Zi F.lay52 ?_; refine Zb F.foff54_5 ?_; refine Zi F.lay52 ?_; refine X_fs rfl rfl F.ok80 rfl (Ints_ok _ ⟨a_need_a, a_need_c, a_need_l⟩ ⟨b_need_a, b_need_c, b_need_l⟩ k_a_need k_b_need) rfl ?_
       rintro _ rfl
       refine Zl ?_; refine Zd ?_; refine Ze ?_; refine Zc ?_; refine Y_pk [4] ?_; refine Zak ?_
       refine Zaj (.inr rfl) (.tmp rfl .nil) (fun w hw => ?_)
       refine ⟨_, rfl, (hw.c), ?_⟩
       clear hw
       try simp only [List.map_id] at *
       refine congrArg Value.bool ?_
       exact decide_eq_decide.2 ⟨fun h9 => by simp_all [WaitV.pl], fun h9 => by simp only [WaitV.pl, Wt.mk.injEq] at h9; simp_all⟩
      ·replace hc11 := dF hc11
       iterate 5 refine Zz ?_
       refine Zl ?_; refine Zd ?_; refine Ze ?_; refine Zc ?_; refine Y_pk [4] ?_; refine Zak ?_
       refine Zaj (.inr rfl) (.tmp rfl .nil) (fun w hw => ?_)
       refine ⟨_, rfl, (hw.c), ?_⟩
       clear hw
       try simp only [List.map_id] at *
       refine congrArg Value.bool ?_
       exact (decide_eq_false (fun h9 => by simp only [WaitV.pl, Wt.mk.injEq] at h9; simp_all)).symm
     ·replace hc10 := dF hc10
      iterate 5 refine Zz ?_
      refine Zl ?_; refine Zf ?_
      iterate 5 refine Zz ?_
      refine Zl ?_; refine Zd ?_; refine Ze ?_; refine Zc ?_; refine Y_pk [4] ?_; refine Zak ?_
      refine Zaj (.inr rfl) (.tmp rfl .nil) (fun w hw => ?_)
      refine ⟨_, rfl, (hw.c), ?_⟩
      clear hw
      try simp only [List.map_id] at *
      refine congrArg Value.bool ?_
      exact (decide_eq_false (fun h9 => by simp only [WaitV.pl, Wt.mk.injEq] at h9; simp_all)).symm
    ·replace hc7 := dF hc7
     iterate 5 refine Zz ?_
     refine Zl ?_; refine Zf ?_
     iterate 5 refine Zz ?_
     refine Zl ?_; refine Zf ?_
     iterate 5 refine Zz ?_
     refine Zl ?_; refine Zd ?_; refine Ze ?_; refine Zc ?_; refine Y_pk [4] ?_; refine Zak ?_
     refine Zaj (.inr rfl) (.tmp rfl .nil) (fun w hw => ?_)
     refine ⟨_, rfl, (hw.c), ?_⟩
     clear hw
     try simp only [List.map_id] at *
     refine congrArg Value.bool ?_
     exact (decide_eq_false (fun h9 => by simp only [WaitV.pl, Wt.mk.injEq] at h9; simp_all)).symm
   ·replace hc6 := dF hc6
    iterate 5 refine Zz ?_
    refine Zl ?_; refine Zf ?_
    iterate 5 refine Zz ?_
    refine Zl ?_; refine Zf ?_
    iterate 5 refine Zz ?_
    refine Zl ?_; refine Zf ?_
    iterate 5 refine Zz ?_
    refine Zl ?_; refine Zd ?_; refine Ze ?_; refine Zc ?_; refine Y_pk [4] ?_; refine Zak ?_
    refine Zaj (.inr rfl) (.tmp rfl .nil) (fun w hw => ?_)
    refine ⟨_, rfl, (hw.c), ?_⟩
    clear hw
    try simp only [List.map_id] at *
    refine congrArg Value.bool ?_
    exact (decide_eq_false (fun h9 => by simp only [WaitV.pl, Wt.mk.injEq] at h9; simp_all)).symm
  ·replace hc5 := dF hc5
   iterate 5 refine Zz ?_
   refine Zl ?_; refine Zf ?_
   iterate 5 refine Zz ?_
   refine Zl ?_; refine Zf ?_
   iterate 5 refine Zz ?_
   refine Zl ?_; refine Zf ?_
   iterate 5 refine Zz ?_
   refine Zl ?_; refine Zf ?_
   iterate 5 refine Zz ?_
   refine Zl ?_; refine Zd ?_; refine Ze ?_; refine Zc ?_; refine Y_pk [4] ?_; refine Zak ?_
   refine Zaj (.inr rfl) (.tmp rfl .nil) (fun w hw => ?_)
   refine ⟨_, rfl, (hw.c), ?_⟩
   clear hw
   try simp only [List.map_id] at *
   refine congrArg Value.bool ?_
   exact (decide_eq_false (fun h9 => by simp only [WaitV.pl, Wt.mk.injEq] at h9; simp_all)).symm
theorem hdmk {x y : HeldV} (h1 : x.key = y.key) (h2 : x.cell.pl = y.cell.pl) : HeldV.pl x = HeldV.pl y := by unfold HeldV.pl; rw [h1, h2]
theorem SameS_ok (M : Mem) (a : (Sl HeldV)) (b : (Sl HeldV)) (ha0 : SlK M HeldV.segs 24 a) (ha1 : ∀ y ∈ (a).l, HeldV.ok M y) (hb2 : SlK M HeldV.segs 24 b) (hb3 : ∀ y ∈ (b).l, HeldV.ok M y) : Fs Tryz.prog 41 [Sl.val a, Sl.val b] M (fun v => v = Value.bool (decide (pls a.l = pls b.l))) := by
  obtain ⟨a_a, a_c, a_l⟩ := a
  obtain ⟨b_a, b_c, b_l⟩ := b
  have k_a : SlK M HeldV.segs 24 ⟨a_a, a_c, a_l⟩ := ha0
  have s_a : SlM M a_a (a_l.map HeldV.segs) 24 := k_a.h1
  have n_a : (a_l.map HeldV.segs).length = a_l.length := List.length_map ..
  have m_a : a_l.length ≤ 9223372036854775807 := k_a.h2
  have c_a : a_l.length ≤ a_c := k_a.h3
  have l_a : ∀ y ∈ a_l, HeldV.ok M y := ha1
  have k_b : SlK M HeldV.segs 24 ⟨b_a, b_c, b_l⟩ := hb2
  have s_b : SlM M b_a (b_l.map HeldV.segs) 24 := k_b.h1
  have n_b : (b_l.map HeldV.segs).length = b_l.length := List.length_map ..
  have m_b : b_l.length ≤ 9223372036854775807 := k_b.h2
  have c_b : b_l.length ≤ b_c := k_b.h3
  have l_b : ∀ y ∈ b_l, HeldV.ok M y := hb3
  refine Zci Tryz.func41 rfl Tryz.ntmps41 rfl ?_; intro H
  refine Zj ?_; refine Za (l := [0]) rfl ?_; refine Zd ?_; refine Ze ?_; refine Zc ?_
  iterate 2 refine Zj ?_
  refine Za (l := [0, 1, 2, 3, 4]) rfl ?_; refine Zf ?_; refine Zbb F.elem23 ?_; refine Zf ?_; refine Zbb F.elem23 ?_; refine Zav ?_; refine Ze ?_; refine Zc ?_; refine Y_pk [10, 4, 0, 1] ?_
  refine Zau rfl (fun hc1 => ?_) (fun hc1 => ?_)
  ·replace hc1 := nT hc1
   refine Zj ?_; refine Za (l := [0]) rfl ?_; refine Zd ?_; refine Ze ?_; refine Zc ?_; refine Y_pk [4, 0, 1] ?_; refine Zak ?_; refine Zba ?_
   refine Zaj (.inr rfl) (.tmp rfl .nil) (fun w hw => ?_)
   refine ⟨_, rfl, (hw.c), ?_⟩
   clear hw
   show _ = Value.bool (decide (pls a_l = pls b_l))
   exact congrArg Value.bool (decide_eq_false (fun h9 => by have h8 := congrArg List.length h9; rw [Zdm, Zdm] at h8; omega)).symm
  ·replace hc1 := nF hc1
   refine Zax ?_; refine Zc ?_; refine Y_pk [4, 0, 1] ?_
   iterate 2 refine Zj ?_
   refine Za (l := [0]) rfl ?_; refine Zd ?_; refine Ze ?_; refine Zc ?_; refine Zbe ?_; refine Y_pk [5, 4, 0, 1] ?_; refine Zed (.succ .zero) (fun (k : Nat) z => z = [(5, .int .i64 (k : Int))] ∧ k ≤ a_l.length ∧ (∀ j (h2 : j < a_l.length) (h3 : j < b_l.length), j < k → HeldV.pl a_l[j] = HeldV.pl b_l[j])) (fun k => a_l.length - k) (0) (⟨rfl, by omega, by (intro j h2 h3 hj; omega)⟩) ?_
   rintro k _ ⟨rfl, hk, hI⟩
   iterate 2 refine Zj ?_
   refine Za (l := [0, 1, 2, 3]) rfl ?_
   iterate 2 refine Zf ?_
   refine Zbb F.elem23 ?_; refine Zav ?_; refine Ze ?_; refine Zc ?_
   refine Zau rfl (fun hc2 => ?_) (fun hc2 => ?_)
   ·replace hc2 := dT hc2
    refine Zax ?_; refine Zc ?_; refine Zj ?_; refine Zbe ?_; refine Zj ?_; refine Zar (l := [0, 1, 2, 3, 4, 5, 6, 7, 8, 9, 10, 11, 12, 13, 14, 15, 16, 17, 18, 19, 20, 21, 22, 23, 24]) #[0, 0, 3, 7, 15, 0, 0, 96, 224, 480, 1023, 2047, 4095, 4095, 16383, 32767, 65535, 4095, 4095, 397311, 921599, 1970175, 4194303, 8388607, 16777215] _ rfl (by kernel_rfl) (by kernel_rfl) St.drawn (fun _ h => h) ?_
    iterate 2 refine Zf ?_
    refine Zaa rfl rfl rfl rfl F.elem23 (by rfl) (by omega) (by exact SlM.plain (by assumption) (by (simp; omega))) rfl ?_; refine Zaq rfl rfl rfl (by exact SlM.plain (by assumption) (by (simp; omega))) F.foff60_0 rfl ?_; refine Zay rfl rfl rfl (by assumption) (by exact Zbl (by omega)) F.lay29 rfl rfl rfl ?_
    iterate 2 refine Zf ?_
    refine Zaa rfl rfl rfl rfl F.elem23 (by rfl) (by omega) (by exact SlM.plain (by assumption) (by (simp; omega))) rfl ?_; refine Zaq rfl rfl rfl (by exact SlM.plain (by assumption) (by (simp; omega))) F.foff60_0 rfl ?_; refine Zay rfl rfl rfl (by assumption) (by exact Zbl (by omega)) F.lay29 rfl rfl rfl ?_
    refine Zfx (m := 20) rfl rfl rfl rfl rfl (by constructor) (by constructor) F.lay29 F.kinds29 rfl F.guard29 (Zga Zez) (Zga Zez) rfl rfl rfl ?_; intro c3 he4
    replace he4 : c3 = true ↔ ¬ (Segs.cells _ = Segs.cells _) := he4
    obtain rfl := neD he4 (Zfu (x := _) (y := _)); clear he4
    refine Zf ?_
    refine Zag 28 rfl (fun hc5 => ?_) (fun hc5 => ?_)
    ·replace hc5 := nT hc5
     simp only [List.get_eq_getElem] at hc5
     iterate 12 refine Zz ?_
     refine Zl ?_; refine Ze ?_; refine Zc ?_; refine Zcy rfl ?_; refine Zj ?_; refine Za (l := [0]) rfl ?_; refine Zd ?_; refine Ze ?_; refine Zc ?_; refine Zak ?_; refine Zbj ?_
     iterate 2 refine Zba ?_
     refine Zbj ?_; refine Zba ?_
     refine Zaj (.inr rfl) (.tmp rfl .nil) (fun w hw => ?_)
     refine ⟨_, rfl, (hw.c), ?_⟩
     clear hw
     show _ = Value.bool (decide (pls a_l = pls b_l))
     refine congrArg Value.bool (decide_eq_false (fun h9 => ?_)).symm
     have h8 : HeldV.pl a_l[k] = HeldV.pl b_l[k] := by
      have e1 : (pls a_l)[k]? = some (HeldV.pl a_l[k]) := by simp [pls, show k < a_l.length by omega]
      have e2 : (pls b_l)[k]? = some (HeldV.pl b_l[k]) := by simp [pls, show k < b_l.length by omega]
      rw [h9, e2] at e1; exact (Option.some.inj e1).symm
     have h7 := congrArg Hd.key h8
     have h6 := congrArg Hd.cell h8
     simp only [HeldV.pl] at h7 h6
     contradiction
    ·replace hc5 := nF hc5
     simp only [List.get_eq_getElem] at hc5
     iterate 2 refine Zf ?_
     refine Zaa rfl rfl rfl rfl F.elem23 (by rfl) (by omega) (by exact SlM.plain (by assumption) (by (simp; omega))) rfl ?_; refine Zaq rfl rfl rfl (by exact SlM.plain (by assumption) (by (simp; omega))) F.foff60_1 rfl ?_; refine Zay rfl rfl rfl (by assumption) (by exact Zbl (by omega)) F.lay37 rfl rfl rfl ?_
     iterate 2 refine Zf ?_
     refine Zaa rfl rfl rfl rfl F.elem23 (by rfl) (by omega) (by exact SlM.plain (by assumption) (by (simp; omega))) rfl ?_; refine Zaq rfl rfl rfl (by exact SlM.plain (by assumption) (by (simp; omega))) F.foff60_1 rfl ?_; refine Zay rfl rfl rfl (by assumption) (by exact Zbl (by omega)) F.lay37 rfl rfl rfl ?_; refine X_fs rfl rfl F.ok79 rfl (SameC_ok _ a_l[k].cell b_l[k].cell (l_a _ (List.getElem_mem (by omega))).h0 (l_b _ (List.getElem_mem (by omega))).h0) rfl ?_
     rintro _ rfl
     refine Zel ?_; refine Zl ?_; refine Ze ?_; refine Zc ?_
     refine Zau rfl (fun hc6 => ?_) (fun hc6 => ?_)
     ·replace hc6 := nT hc6
      refine Zj ?_; refine Za (l := [0]) rfl ?_; refine Zd ?_; refine Ze ?_; refine Zc ?_; refine Zak ?_; refine Zbj ?_
      iterate 2 refine Zba ?_
      refine Zbj ?_; refine Zba ?_
      refine Zaj (.inr rfl) (.tmp rfl .nil) (fun w hw => ?_)
      refine ⟨_, rfl, (hw.c), ?_⟩
      clear hw
      show _ = Value.bool (decide (pls a_l = pls b_l))
      refine congrArg Value.bool (decide_eq_false (fun h9 => ?_)).symm
      have h8 : HeldV.pl a_l[k] = HeldV.pl b_l[k] := by
       have e1 : (pls a_l)[k]? = some (HeldV.pl a_l[k]) := by simp [pls, show k < a_l.length by omega]
       have e2 : (pls b_l)[k]? = some (HeldV.pl b_l[k]) := by simp [pls, show k < b_l.length by omega]
       rw [h9, e2] at e1; exact (Option.some.inj e1).symm
      have h7 := congrArg Hd.key h8
      have h6 := congrArg Hd.cell h8
      simp only [HeldV.pl] at h7 h6
      contradiction
     ·replace hc6 := nF hc6
      refine Zax ?_; refine Zde ?_; refine Zc ?_; refine Za (l := [0, 1, 2]) rfl ?_; refine Zf ?_; refine Zcc rfl rfl rfl rfl rfl (by exact Zbf (by decide) (by omega)) rfl ?_; refine Zd ?_; refine Ze ?_; refine Zda (a' := [(5, _)]) (k + 1) (.cons (k := 5) rfl (.cons (k := 4) rfl (.cons (k := 0) rfl (.cons (k := 1) rfl (.nil))))) (fun w hw => by first | exact hw | exact hw.c) ?_ ?_
      ·refine ⟨rfl, by omega, ?_⟩
       (intro j h2 h3 hj; rcases Nat.lt_or_ge j k with h9 | h9; exact hI j h2 h3 h9; have hjk : j = k := (by omega); subst hjk; exact hdmk (by assumption) (by assumption))
      ·omega
   ·replace hc2 := dF hc2
    refine Zcm ?_
    iterate 2 refine Zcd ?_
    refine Zdl ?_; refine Zc ?_; refine Y_pk [4] ?_; refine Zj ?_; refine Za (l := [0]) rfl ?_; refine Zd ?_; refine Ze ?_; refine Zc ?_; refine Zak ?_
    refine Zaj (.inr rfl) (.tmp rfl .nil) (fun w hw => ?_)
    refine ⟨_, rfl, (hw.c), ?_⟩
    clear hw
    show _ = Value.bool (decide (pls a_l = pls b_l))
    exact congrArg Value.bool (decide_eq_true (pls_ext (by omega) (fun j h2 h3 => hI j h2 h3 (by omega)))).symm
theorem SameV_ok (M : Mem) (a : ServerV) (b : ServerV) (ha0 : ServerV.ok M a) (hb1 : ServerV.ok M b) : Fs Tryz.prog 16 [a.enc, b.enc] M (fun v => v = Value.bool (decide (a.pl = b.pl))) := by
  obtain ⟨Zgs, Zgn, ⟨a_store_a, a_store_c, Zff⟩, ⟨a_waits_a, a_waits_c, Zeh⟩, Zfz⟩ := a
  obtain ⟨b_addr, b_epoch, ⟨b_store_a, b_store_c, Zfe⟩, ⟨b_waits_a, b_waits_c, Zem⟩, Zgh⟩ := b
  have k_a_store : SlK M HeldV.segs 24 ⟨a_store_a, a_store_c, Zff⟩ := ha0.h0
  have s_a_store : SlM M a_store_a (Zff.map HeldV.segs) 24 := k_a_store.h1
  have n_a_store : (Zff.map HeldV.segs).length = Zff.length := List.length_map ..
  have m_a_store : Zff.length ≤ 9223372036854775807 := k_a_store.h2
  have c_a_store : Zff.length ≤ a_store_c := k_a_store.h3
  have l_a_store : ∀ y ∈ Zff, HeldV.ok M y := ha0.h1
  have k_a_waits : SlK M WaitV.segs 28 ⟨a_waits_a, a_waits_c, Zeh⟩ := ha0.h2
  have s_a_waits : SlM M a_waits_a (Zeh.map WaitV.segs) 28 := k_a_waits.h1
  have n_a_waits : (Zeh.map WaitV.segs).length = Zeh.length := List.length_map ..
  have m_a_waits : Zeh.length ≤ 9223372036854775807 := k_a_waits.h2
  have c_a_waits : Zeh.length ≤ a_waits_c := k_a_waits.h3
  have l_a_waits : ∀ y ∈ Zeh, WaitV.ok M y := ha0.h3
  have k_b_store : SlK M HeldV.segs 24 ⟨b_store_a, b_store_c, Zfe⟩ := hb1.h0
  have s_b_store : SlM M b_store_a (Zfe.map HeldV.segs) 24 := k_b_store.h1
  have n_b_store : (Zfe.map HeldV.segs).length = Zfe.length := List.length_map ..
  have m_b_store : Zfe.length ≤ 9223372036854775807 := k_b_store.h2
  have c_b_store : Zfe.length ≤ b_store_c := k_b_store.h3
  have l_b_store : ∀ y ∈ Zfe, HeldV.ok M y := hb1.h1
  have k_b_waits : SlK M WaitV.segs 28 ⟨b_waits_a, b_waits_c, Zem⟩ := hb1.h2
  have s_b_waits : SlM M b_waits_a (Zem.map WaitV.segs) 28 := k_b_waits.h1
  have n_b_waits : (Zem.map WaitV.segs).length = Zem.length := List.length_map ..
  have m_b_waits : Zem.length ≤ 9223372036854775807 := k_b_waits.h2
  have c_b_waits : Zem.length ≤ b_waits_c := k_b_waits.h3
  have l_b_waits : ∀ y ∈ Zem, WaitV.ok M y := hb1.h3
  refine Zci Tryz.func16 rfl Tryz.ntmps16 rfl ?_; intro H
  refine Zj ?_; refine Za (l := [0, 1, 2]) rfl ?_
  refine Zcz ?_; intro b1
  refine Zcz ?_; intro b2
  refine Zd ?_; refine Ze ?_; refine Zc ?_; refine Y_pk [4, 3, 2] ?_
  iterate 2 refine Zj ?_
  refine Za (l := [0, 1, 2, 3, 4, 5, 6, 7, 8, 9, 10, 11, 12, 13, 14, 15, 16, 17, 18, 19, 20, 21, 22, 23, 24, 25, 26, 27, 28, 29, 30, 31, 32, 33, 34, 35]) rfl ?_; refine Zb F.foff26_0 ?_; refine Zi F.lay3 ?_; refine Zb F.foff26_0 ?_; refine Zi F.lay3 ?_; refine Zav ?_; refine Zf ?_
  refine Zag 11 rfl (fun hc3 => ?_) (fun hc3 => ?_)
  ·replace hc3 := nT hc3
   iterate 5 refine Zz ?_
   refine Zl ?_; refine Zf ?_
   iterate 5 refine Zz ?_
   refine Zl ?_; refine Zf ?_
   iterate 7 refine Zz ?_
   refine Zl ?_; refine Zf ?_
   iterate 6 refine Zz ?_
   refine Zl ?_; refine Ze ?_; refine Zc ?_; refine Y_pk [41, 4, 3, 2] ?_; refine Zcy rfl ?_; refine Zj ?_; refine Za (l := [0]) rfl ?_; refine Zd ?_; refine Ze ?_; refine Zc ?_; refine Y_pk [4, 3, 2] ?_; refine Zak ?_; refine Zba ?_
   refine Zaj (.inr rfl) (.tmp rfl .nil) (fun w hw => ?_)
   refine ⟨_, rfl, (hw.c), ?_⟩
   clear hw
   show _ = Value.bool (decide ((⟨Zgs, Zgn, pls Zff, Zeh.map WaitV.pl, Zfz⟩ : Srv) = ⟨b_addr, b_epoch, pls Zfe, Zem.map WaitV.pl, Zgh⟩))
   simp only [Srv.mk.injEq]
   exact congrArg Value.bool (decide_eq_false (fun h9 => by obtain ⟨g1, g2, g3, g4, g5⟩ := h9; have g6 := map_len9 g4; first | omega | contradiction | (simp_all; done))).symm
  ·replace hc3 := nF hc3
   refine Zb F.foff26_1 ?_; refine Zi F.lay22 ?_; refine Zb F.foff26_1 ?_; refine Zi F.lay22 ?_; refine Zav ?_; refine Zl ?_; refine Zf ?_
   refine Zag 18 rfl (fun hc4 => ?_) (fun hc4 => ?_)
   ·replace hc4 := nT hc4
    iterate 5 refine Zz ?_
    refine Zl ?_; refine Zf ?_
    iterate 7 refine Zz ?_
    refine Zl ?_; refine Zf ?_
    iterate 6 refine Zz ?_
    refine Zl ?_; refine Ze ?_; refine Zc ?_; refine Y_pk [41, 4, 3, 2] ?_; refine Zcy rfl ?_; refine Zj ?_; refine Za (l := [0]) rfl ?_; refine Zd ?_; refine Ze ?_; refine Zc ?_; refine Y_pk [4, 3, 2] ?_; refine Zak ?_; refine Zba ?_
    refine Zaj (.inr rfl) (.tmp rfl .nil) (fun w hw => ?_)
    refine ⟨_, rfl, (hw.c), ?_⟩
    clear hw
    show _ = Value.bool (decide ((⟨Zgs, Zgn, pls Zff, Zeh.map WaitV.pl, Zfz⟩ : Srv) = ⟨b_addr, b_epoch, pls Zfe, Zem.map WaitV.pl, Zgh⟩))
    simp only [Srv.mk.injEq]
    exact congrArg Value.bool (decide_eq_false (fun h9 => by obtain ⟨g1, g2, g3, g4, g5⟩ := h9; have g6 := map_len9 g4; first | omega | contradiction | (simp_all; done))).symm
   ·replace hc4 := nF hc4
    refine Zb F.foff26_4 ?_; refine Zi F.lay22 ?_; refine Zb F.foff26_4 ?_; refine Zi F.lay22 ?_; refine Zav ?_; refine Zl ?_; refine Zf ?_
    refine Zag 25 rfl (fun hc5 => ?_) (fun hc5 => ?_)
    ·replace hc5 := nT hc5
     iterate 7 refine Zz ?_
     refine Zl ?_; refine Zf ?_
     iterate 6 refine Zz ?_
     refine Zl ?_; refine Ze ?_; refine Zc ?_; refine Y_pk [41, 4, 3, 2] ?_; refine Zcy rfl ?_; refine Zj ?_; refine Za (l := [0]) rfl ?_; refine Zd ?_; refine Ze ?_; refine Zc ?_; refine Y_pk [4, 3, 2] ?_; refine Zak ?_; refine Zba ?_
     refine Zaj (.inr rfl) (.tmp rfl .nil) (fun w hw => ?_)
     refine ⟨_, rfl, (hw.c), ?_⟩
     clear hw
     show _ = Value.bool (decide ((⟨Zgs, Zgn, pls Zff, Zeh.map WaitV.pl, Zfz⟩ : Srv) = ⟨b_addr, b_epoch, pls Zfe, Zem.map WaitV.pl, Zgh⟩))
     simp only [Srv.mk.injEq]
     exact congrArg Value.bool (decide_eq_false (fun h9 => by obtain ⟨g1, g2, g3, g4, g5⟩ := h9; have g6 := map_len9 g4; first | omega | contradiction | (simp_all; done))).symm
    ·replace hc5 := nF hc5
     refine Zb F.foff26_3 ?_; refine Zi F.lay24 ?_; refine Zbb F.elem24 ?_; refine Zb F.foff26_3 ?_; refine Zi F.lay24 ?_; refine Zbb F.elem24 ?_; refine Zav ?_; refine Zl ?_; refine Zf ?_
     refine Zag 34 rfl (fun hc6 => ?_) (fun hc6 => ?_)
     ·replace hc6 := nT hc6
      iterate 6 refine Zz ?_
      refine Zl ?_; refine Ze ?_; refine Zc ?_; refine Y_pk [41, 4, 3, 2] ?_; refine Zcy rfl ?_; refine Zj ?_; refine Za (l := [0]) rfl ?_; refine Zd ?_; refine Ze ?_; refine Zc ?_; refine Y_pk [4, 3, 2] ?_; refine Zak ?_; refine Zba ?_
      refine Zaj (.inr rfl) (.tmp rfl .nil) (fun w hw => ?_)
      refine ⟨_, rfl, (hw.c), ?_⟩
      clear hw
      show _ = Value.bool (decide ((⟨Zgs, Zgn, pls Zff, Zeh.map WaitV.pl, Zfz⟩ : Srv) = ⟨b_addr, b_epoch, pls Zfe, Zem.map WaitV.pl, Zgh⟩))
      simp only [Srv.mk.injEq]
      exact congrArg Value.bool (decide_eq_false (fun h9 => by obtain ⟨g1, g2, g3, g4, g5⟩ := h9; have g6 := map_len9 g4; first | omega | contradiction | (simp_all; done))).symm
     ·replace hc6 := nF hc6
      refine Zb F.foff26_2 ?_; refine Zi F.lay23 ?_; refine Zb F.foff26_2 ?_; refine Zi F.lay23 ?_; refine X_fs rfl rfl F.ok41 rfl (SameS_ok _ ⟨a_store_a, a_store_c, Zff⟩ ⟨b_store_a, b_store_c, Zfe⟩ k_a_store l_a_store k_b_store l_b_store) rfl ?_
      rintro _ rfl
      refine Zel ?_; refine Zl ?_; refine Ze ?_; refine Zc ?_; refine Y_pk [41, 4, 3, 2] ?_
      refine Zau rfl (fun hc7 => ?_) (fun hc7 => ?_)
      ·replace hc7 := nT hc7
       simp only [AnswerV.eta, MarkV.eta, CellV.eta, HeldV.eta, WaitV.eta, ServerV.eta, PeerV.eta, OpV.eta, ParcelV.eta, PostV.eta, WorkerV.eta] at hc7
       refine Zj ?_; refine Za (l := [0]) rfl ?_; refine Zd ?_; refine Ze ?_; refine Zc ?_; refine Y_pk [4, 3, 2] ?_; refine Zak ?_; refine Zba ?_
       refine Zaj (.inr rfl) (.tmp rfl .nil) (fun w hw => ?_)
       refine ⟨_, rfl, (hw.c), ?_⟩
       clear hw
       show _ = Value.bool (decide ((⟨Zgs, Zgn, pls Zff, Zeh.map WaitV.pl, Zfz⟩ : Srv) = ⟨b_addr, b_epoch, pls Zfe, Zem.map WaitV.pl, Zgh⟩))
       simp only [Srv.mk.injEq]
       exact congrArg Value.bool (decide_eq_false (fun h9 => by obtain ⟨g1, g2, g3, g4, g5⟩ := h9; have g6 := map_len9 g4; first | omega | contradiction | (simp_all; done))).symm
      ·replace hc7 := nF hc7
       simp only [AnswerV.eta, MarkV.eta, CellV.eta, HeldV.eta, WaitV.eta, ServerV.eta, PeerV.eta, OpV.eta, ParcelV.eta, PostV.eta, WorkerV.eta] at hc7
       refine Zax ?_; refine Zc ?_; refine Y_pk [4, 3, 2] ?_
       iterate 2 refine Zj ?_
       refine Za (l := [0]) rfl ?_; refine Zd ?_; refine Ze ?_; refine Zc ?_; refine Zbe ?_; refine Y_pk [5, 4, 3, 2] ?_; refine Zed (.succ .zero) (fun (k : Nat) z => z = [(5, .int .i64 (k : Int))] ∧ k ≤ Zeh.length ∧ (∀ j (h2 : j < Zeh.length) (h3 : j < Zem.length), j < k → WaitV.pl Zeh[j] = WaitV.pl Zem[j])) (fun k => Zeh.length - k) (0) (⟨rfl, by omega, by (intro j h2 h3 hj; omega)⟩) ?_
       rintro k _ ⟨rfl, hk, hI⟩
       iterate 2 refine Zj ?_
       refine Za (l := [0, 1, 2, 3, 4]) rfl ?_; refine Zf ?_; refine Zb F.foff26_3 ?_; refine Zi F.lay24 ?_; refine Zbb F.elem24 ?_; refine Zav ?_; refine Ze ?_; refine Zc ?_
       refine Zau rfl (fun hc8 => ?_) (fun hc8 => ?_)
       ·replace hc8 := dT hc8
        refine Zax ?_; refine Zc ?_; refine Zj ?_; refine Zbe ?_; refine Zj ?_; refine Zar (l := [0, 1, 2, 3, 4, 5, 6, 7, 8, 9, 10, 11]) #[0, 1, 0, 7, 15, 0, 32, 0, 224, 480, 1023, 2047] _ rfl (by kernel_rfl) (by kernel_rfl) St.drawn (fun _ h => h) ?_; refine Zb F.foff26_3 ?_; refine Zi F.lay24 ?_; refine Zf ?_; refine Zaa rfl rfl rfl rfl F.elem24 (by rfl) (by omega) (by exact SlM.plain (by assumption) (by (simp; omega))) rfl ?_; refine Zay rfl rfl rfl (by assumption) (by exact Zbl (by omega)) F.lay54 rfl rfl rfl ?_; refine Zb F.foff26_3 ?_; refine Zi F.lay24 ?_; refine Zf ?_; refine Zaa rfl rfl rfl rfl F.elem24 (by rfl) (by omega) (by exact SlM.plain (by assumption) (by (simp; omega))) rfl ?_; refine Zay rfl rfl rfl (by assumption) (by exact Zbl (by omega)) F.lay54 rfl rfl rfl ?_; refine X_fs rfl rfl F.ok42 rfl (sameW_ok _ Zeh[k] Zem[k] (l_a_waits _ (List.getElem_mem (n := k) (show k < Zeh.length by omega))) (l_b_waits _ (List.getElem_mem (n := k) (show k < Zem.length by omega)))) rfl ?_
        rintro _ rfl
        refine Zel ?_; refine Ze ?_; refine Zc ?_
        refine Zau rfl (fun hc9 => ?_) (fun hc9 => ?_)
        ·replace hc9 := nT hc9
         refine Zj ?_; refine Za (l := [0]) rfl ?_; refine Zd ?_; refine Ze ?_; refine Zc ?_; refine Zak ?_; refine Zbj ?_
         iterate 2 refine Zba ?_
         refine Zbj ?_; refine Zba ?_
         refine Zaj (.inr rfl) (.tmp rfl .nil) (fun w hw => ?_)
         refine ⟨_, rfl, (hw.c), ?_⟩
         clear hw
         show _ = Value.bool (decide ((⟨Zgs, Zgn, pls Zff, Zeh.map WaitV.pl, Zfz⟩ : Srv) = ⟨b_addr, b_epoch, pls Zfe, Zem.map WaitV.pl, Zgh⟩))
         simp only [Srv.mk.injEq]
         refine congrArg Value.bool (decide_eq_false (fun h9 => ?_)).symm
         have h8 := map_at9 h9.2.2.2.1 (j := k) (by omega) (by omega)
         contradiction
        ·replace hc9 := nF hc9
         refine Zax ?_; refine Zde ?_; refine Zc ?_; refine Za (l := [0, 1, 2]) rfl ?_; refine Zf ?_; refine Zcc rfl rfl rfl rfl rfl (by exact Zbf (by decide) (by omega)) rfl ?_; refine Zd ?_; refine Ze ?_; refine Zda (a' := [(5, _)]) (k + 1) (.cons (k := 5) rfl (.cons (k := 4) rfl (.cons (k := 3) rfl (.cons (k := 2) rfl (.nil))))) (fun w hw => by first | exact hw | exact hw.c) ?_ ?_
         ·refine ⟨rfl, by omega, ?_⟩
          (intro j h2 h3 hj; rcases Nat.lt_or_ge j k with h9 | h9; exact hI j h2 h3 h9; have hjk : j = k := (by omega); subst hjk; first | assumption | exact pst_mk9 (by assumption) (by assumption) | (show id _ = id _; unfold id; omega) | (simp_all; done))
         ·omega
       ·replace hc8 := dF hc8
        refine Zcm ?_
        iterate 2 refine Zcd ?_
        refine Zdl ?_; refine Zc ?_; refine Y_pk [4] ?_; refine Zj ?_; refine Za (l := [0]) rfl ?_; refine Zd ?_; refine Ze ?_; refine Zc ?_; refine Zak ?_
        refine Zaj (.inr rfl) (.tmp rfl .nil) (fun w hw => ?_)
        refine ⟨_, rfl, (hw.c), ?_⟩
        clear hw
        show _ = Value.bool (decide ((⟨Zgs, Zgn, pls Zff, Zeh.map WaitV.pl, Zfz⟩ : Srv) = ⟨b_addr, b_epoch, pls Zfe, Zem.map WaitV.pl, Zgh⟩))
        simp only [Srv.mk.injEq]
        exact congrArg Value.bool (decide_eq_true ⟨by omega, by omega, by assumption, map_ext9 (by omega) (fun j h2 h3 => hI j h2 h3 (by omega)), by omega⟩).symm
theorem Big17_ok (M : Mem) (c : CellV) (hc0 : CellV.ok M c) : Fs Tryz.prog 22 [c.enc] M (fun v => ∃ b : Bool, v = .bool b ∧ (b = false → True)) := by
  obtain ⟨Zbg, Zdv, Zdx, ⟨Zbi, Zbh, Zu⟩⟩ := c
  have Zbs : SlK M MarkV.segs 6 ⟨Zbi, Zbh, Zu⟩ := hc0.h0
  have s_c_marks : SlM M Zbi (Zu.map MarkV.segs) 6 := Zbs.h1
  have n_c_marks : (Zu.map MarkV.segs).length = Zu.length := List.length_map ..
  have m_c_marks : Zu.length ≤ 9223372036854775807 := Zbs.h2
  have c_c_marks : Zu.length ≤ Zbh := Zbs.h3
  refine Zci Tryz.func22 rfl Tryz.ntmps22 rfl ?_; intro H
  refine Zj ?_; refine Za (l := [0, 1]) rfl ?_
  refine Zcz ?_; intro b1
  refine Zd ?_; refine Ze ?_; refine Zc ?_; refine Y_pk [2, 1] ?_; refine Zj ?_; refine Za (l := [0, 1, 2, 3]) rfl ?_; refine Zb F.foff37_2 ?_; refine Zi F.lay9 ?_; refine Zfj Tryz.underlying9 ?_; refine Zd ?_; refine Ze ?_; refine Zc ?_; refine Y_pk [3, 2, 1] ?_
  iterate 2 refine Zj ?_
  refine Za (l := [0]) rfl ?_; refine Zd ?_; refine Ze ?_; refine Zc ?_; refine Zbe ?_; refine Y_pk [4, 3, 2, 1] ?_; refine Zed (.succ (.succ .zero)) (fun (k : Nat) z => ∃ (n3 : Int), z = [(4, .int .i64 (k : Int)), (3, .int .i64 n3)] ∧ k ≤ Zu.length) (fun k => Zu.length - k) (0) (⟨_, rfl, by omega⟩) ?_
  rintro k _ ⟨n3, rfl, hk⟩
  iterate 2 refine Zj ?_
  refine Za (l := [0, 1, 2, 3, 4, 5, 6, 7, 8, 9, 10]) rfl ?_; refine Zf ?_; refine Zb F.foff37_3 ?_; refine Zi F.lay35 ?_; refine Zbb F.elem35 ?_; refine Zav ?_; refine Zf ?_
  refine Zag 13 rfl (fun hc2 => ?_) (fun hc2 => ?_)
  ·replace hc2 := dT hc2
   refine Zb F.foff37_3 ?_; refine Zi F.lay35 ?_; refine Zbb F.elem35 ?_; refine Zav ?_; refine Zl ?_; refine Ze ?_; refine Zc ?_
   refine Zau rfl (fun hc3 => ?_) (fun hc3 => ?_)
   ·replace hc3 := dT hc3
    refine Zax ?_; refine Zc ?_; refine Zj ?_; refine Zbe ?_; refine Za (l := [0, 1, 2, 3, 4, 5, 6, 7, 8, 9, 10]) rfl ?_; refine Zf ?_; refine Zb F.foff37_3 ?_; refine Zi F.lay35 ?_; refine Zf ?_; refine Zaa rfl rfl rfl rfl F.elem35 (by rfl) (by omega) (by exact SlM.plain (by assumption) (by (simp; omega))) rfl ?_; refine Zaq rfl rfl rfl (by exact SlM.plain (by assumption) (by (simp; omega))) F.foff92_2 rfl ?_; refine Zaq rfl rfl rfl (by exact SlM.plain (by assumption) (by (simp; omega))) F.foff34_3 rfl ?_; refine Zay rfl rfl rfl (by assumption) (by exact Zbl (by omega)) F.lay9 rfl rfl rfl ?_; refine Zfj Tryz.underlying9 ?_; refine Zcc rfl rfl rfl rfl rfl (by exact rfl) rfl ?_; refine Zd ?_; refine Ze ?_; refine Zde ?_; refine Zc ?_; refine Za (l := [0, 1, 2]) rfl ?_; refine Zf ?_
    refine Zcc rfl rfl rfl rfl rfl (by exact Zbf (by decide) (by omega)) rfl ?_; refine Zd ?_; refine Ze ?_; refine Zda (a' := [(4, _), (3, _)]) (k + 1) (.cons (k := 4) rfl (.cons (k := 3) rfl (.cons (k := 2) rfl (.cons (k := 1) rfl (.nil))))) (fun w hw => by first | exact hw | exact hw.c) ?_ ?_
    ·exact ⟨_, rfl, by omega⟩
    ·omega
   ·replace hc3 := dF hc3
    refine Zcm ?_
    iterate 2 refine Zcd ?_
    refine Zdl ?_; refine Zc ?_; refine Y_pk [3, 2, 1] ?_; refine Zj ?_; refine Za (l := [0, 1, 2, 3, 4, 5, 6, 7, 8]) rfl ?_; refine Zb F.foff37_3 ?_; refine Zi F.lay35 ?_; refine Zbb F.elem35 ?_; refine Zav ?_; refine Zf ?_
    refine Zag 35 rfl (fun hc4 => ?_) (fun hc4 => ?_)
    ·replace hc4 := dT hc4
     iterate 2 refine Zz ?_
     refine Zl ?_; refine Zd ?_; refine Ze ?_; refine Zc ?_; refine Y_pk [2] ?_; refine Zak ?_
     refine Zaj (.inr rfl) (.tmp rfl .nil) (fun w hw => ?_)
     refine ⟨_, rfl, hw.c, _, rfl, ?_⟩
     clear hw
     exact fun _ => trivial
    ·replace hc4 := dF hc4
     (exfalso; omega)
  ·replace hc2 := dF hc2
   iterate 4 refine Zz ?_
   refine Zl ?_; refine Ze ?_; refine Zc ?_; refine Zeu rfl ?_; refine Zcm ?_
   iterate 2 refine Zcd ?_
   refine Zdl ?_; refine Zc ?_; refine Y_pk [3, 2, 1] ?_; refine Zj ?_; refine Za (l := [0, 1, 2, 3, 4, 5, 6, 7, 8]) rfl ?_; refine Zb F.foff37_3 ?_; refine Zi F.lay35 ?_; refine Zbb F.elem35 ?_; refine Zav ?_; refine Zf ?_
   refine Zag 35 rfl (fun hc5 => ?_) (fun hc5 => ?_)
   ·replace hc5 := dT hc5
    iterate 2 refine Zz ?_
    refine Zl ?_; refine Zd ?_; refine Ze ?_; refine Zc ?_; refine Y_pk [2] ?_; refine Zak ?_
    refine Zaj (.inr rfl) (.tmp rfl .nil) (fun w hw => ?_)
    refine ⟨_, rfl, hw.c, _, rfl, ?_⟩
    clear hw
    exact fun _ => trivial
   ·replace hc5 := dF hc5
    refine Zf ?_; refine Zav ?_; refine Zl ?_; refine Zd ?_; refine Ze ?_; refine Zc ?_; refine Y_pk [2] ?_; refine Zak ?_
    refine Zaj (.inr rfl) (.tmp rfl .nil) (fun w hw => ?_)
    refine ⟨_, rfl, hw.c, _, rfl, ?_⟩
    clear hw
    exact fun _ => trivial
theorem BigS_ok (M : Mem) (s : (Sl HeldV)) (hs0 : SlK M HeldV.segs 24 s) (hs1 : ∀ y ∈ (s).l, HeldV.ok M y) : Fs Tryz.prog 21 [Sl.val s] M (fun v => ∃ b : Bool, v = .bool b ∧ (b = false → s.l.length ≤ 2010)) := by
  obtain ⟨s_a, s_c, s_l⟩ := s
  have k_s : SlK M HeldV.segs 24 ⟨s_a, s_c, s_l⟩ := hs0
  have s_s : SlM M s_a (s_l.map HeldV.segs) 24 := k_s.h1
  have n_s : (s_l.map HeldV.segs).length = s_l.length := List.length_map ..
  have m_s : s_l.length ≤ 9223372036854775807 := k_s.h2
  have c_s : s_l.length ≤ s_c := k_s.h3
  have l_s : ∀ y ∈ s_l, HeldV.ok M y := hs1
  refine Zci Tryz.func21 rfl Tryz.ntmps21 rfl ?_; intro H
  refine Zj ?_; refine Za (l := [0]) rfl ?_; refine Zd ?_; refine Ze ?_; refine Zc ?_
  iterate 2 refine Zj ?_
  refine Za (l := [0]) rfl ?_; refine Zd ?_; refine Ze ?_; refine Zc ?_; refine Zbe ?_; refine Y_pk [3, 2, 0] ?_; refine Zed (.succ .zero) (fun (k : Nat) z => ∃ (_ : Unit), z = [(3, .int .i64 (k : Int))] ∧ k ≤ s_l.length) (fun k => s_l.length - k) (0) (⟨(), rfl, by omega⟩) ?_
  rintro k _ ⟨_, rfl, hk⟩
  iterate 2 refine Zj ?_
  refine Za (l := [0, 1, 2, 3, 4, 5, 6, 7, 8]) rfl ?_
  iterate 2 refine Zf ?_
  refine Zbb F.elem23 ?_; refine Zav ?_; refine Zf ?_
  refine Zag 8 rfl (fun hc1 => ?_) (fun hc1 => ?_)
  ·replace hc1 := dT hc1
   refine Zf ?_; refine Zbb F.elem23 ?_; refine Zav ?_; refine Zl ?_; refine Ze ?_; refine Zc ?_
   refine Zau rfl (fun hc2 => ?_) (fun hc2 => ?_)
   ·replace hc2 := dT hc2
    refine Zax ?_; refine Zc ?_; refine Zj ?_; refine Zbe ?_; refine Zj ?_; refine Za (l := [0, 1, 2, 3, 4, 5]) rfl ?_
    iterate 2 refine Zf ?_
    refine Zaa rfl rfl rfl rfl F.elem23 (by rfl) (by omega) (by exact SlM.plain (by assumption) (by (simp; omega))) rfl ?_; refine Zaq rfl rfl rfl (by exact SlM.plain (by assumption) (by (simp; omega))) F.foff60_1 rfl ?_; refine Zay rfl rfl rfl (by assumption) (by exact Zbl (by omega)) F.lay37 rfl rfl rfl ?_; refine X_fs rfl rfl F.ok22 rfl (Big17_ok _ s_l[k].cell (l_s _ (List.getElem_mem (by omega))).h0) rfl ?_
    rintro _ ⟨bb, rfl, -⟩
    refine Ze ?_; refine Zc ?_
    refine Zau rfl (fun hc3 => ?_) (fun hc3 => ?_)
    ·skip
     refine Zj ?_; refine Za (l := [0]) rfl ?_; refine Zd ?_; refine Ze ?_; refine Zc ?_; refine Zak ?_; refine Zbj ?_
     iterate 2 refine Zba ?_
     refine Zbj ?_; refine Zba ?_
     refine Zaj (.inr rfl) (.tmp rfl .nil) (fun w hw => ?_)
     refine ⟨_, rfl, hw.c, _, rfl, ?_⟩
     clear hw
     intro h9
     cases h9
    ·skip
     refine Zax ?_; refine Zde ?_; refine Zc ?_; refine Za (l := [0, 1, 2]) rfl ?_; refine Zf ?_; refine Zcc rfl rfl rfl rfl rfl (by exact Zbf (by decide) (by omega)) rfl ?_; refine Zd ?_; refine Ze ?_; refine Zda (a' := [(3, _)]) (k + 1) (.cons (k := 3) rfl (.cons (k := 2) rfl (.cons (k := 0) rfl (.nil)))) (fun w hw => by first | exact hw | exact hw.c) ?_ ?_
     ·exact ⟨(), rfl, by omega⟩
     ·omega
   ·replace hc2 := dF hc2
    refine Zcm ?_
    iterate 2 refine Zcd ?_
    refine Zdl ?_; refine Zc ?_; refine Y_pk [2, 0] ?_; refine Zj ?_; refine Za (l := [0, 1, 2, 3]) rfl ?_; refine Zf ?_; refine Zbb F.elem23 ?_; refine Zav ?_; refine Zd ?_; refine Ze ?_; refine Zc ?_; refine Y_pk [2] ?_; refine Zak ?_
    refine Zaj (.inr rfl) (.tmp rfl .nil) (fun w hw => ?_)
    refine ⟨_, rfl, hw.c, _, rfl, ?_⟩
    clear hw
    intro h9
    (show s_l.length ≤ 2010; have h8 := of_decide_eq_false h9; omega)
  ·replace hc1 := dF hc1
   iterate 3 refine Zz ?_
   refine Zl ?_; refine Ze ?_; refine Zc ?_; refine Zeu rfl ?_; refine Zcm ?_
   iterate 2 refine Zcd ?_
   refine Zdl ?_; refine Zc ?_; refine Y_pk [2, 0] ?_; refine Zj ?_; refine Za (l := [0, 1, 2, 3]) rfl ?_; refine Zf ?_; refine Zbb F.elem23 ?_; refine Zav ?_; refine Zd ?_; refine Ze ?_; refine Zc ?_; refine Y_pk [2] ?_; refine Zak ?_
   refine Zaj (.inr rfl) (.tmp rfl .nil) (fun w hw => ?_)
   refine ⟨_, rfl, hw.c, _, rfl, ?_⟩
   clear hw
   intro h9
   (show s_l.length ≤ 2010; have h8 := of_decide_eq_false h9; omega)
theorem BigP_ok (M : Mem) (p : ParcelV) (hp0 : ParcelV.ok M p) : Fs Tryz.prog 9 [p.enc] M (fun v => ∃ b : Bool, v = .bool b ∧ (b = false → True)) := by
  obtain ⟨Zbx, Zbm, Zbr, ⟨Zv, Zao, Zap, Zy, Zbc⟩, ⟨Zab, Zt, Zae, Zad⟩, Zbd, ⟨Zs, Zai, Zah, ⟨Zn, Zm, Zk⟩⟩⟩ := p
  have k_p_cell : CellV.ok M ⟨Zs, Zai, Zah, ⟨Zn, Zm, Zk⟩⟩ := hp0.h0
  have Zbu : SlK M MarkV.segs 6 ⟨Zn, Zm, Zk⟩ := hp0.h0.h0
  have s_p_cell_marks : SlM M Zn (Zk.map MarkV.segs) 6 := Zbu.h1
  have n_p_cell_marks : (Zk.map MarkV.segs).length = Zk.length := List.length_map ..
  have m_p_cell_marks : Zk.length ≤ 9223372036854775807 := Zbu.h2
  have c_p_cell_marks : Zk.length ≤ Zm := Zbu.h3
  refine Zci Tryz.func9 rfl Tryz.ntmps9 rfl ?_; intro H
  refine Zj ?_; refine Za (l := [0, 1]) rfl ?_
  refine Zcz ?_; intro b1
  refine Zd ?_; refine Ze ?_; refine Zc ?_; refine Y_pk [2, 1] ?_; refine Zj ?_; refine Za (l := [0, 1, 2, 3, 4, 5, 6, 7, 8, 9, 10, 11, 12, 13, 14, 15, 16, 17]) rfl ?_; refine Zb F.foff39_6 ?_; refine Zi F.lay37 ?_; refine X_fs rfl rfl F.ok22 rfl (Big17_ok _ ⟨Zs, Zai, Zah, ⟨Zn, Zm, Zk⟩⟩ hp0.h0) rfl ?_
  rintro _ ⟨bb, rfl, -⟩
  refine Zf ?_
  refine Zag 6 rfl (fun hc2 => ?_) (fun hc2 => ?_)
  ·skip
   iterate 5 refine Zz ?_
   refine Zl ?_; refine Zf ?_
   iterate 5 refine Zz ?_
   refine Zl ?_; refine Zd ?_; refine Ze ?_; refine Zc ?_; refine Y_pk [2] ?_; refine Zak ?_
   refine Zaj (.inr rfl) (.tmp rfl .nil) (fun w hw => ?_)
   refine ⟨_, rfl, hw.c, _, rfl, ?_⟩
   clear hw
   exact fun _ => trivial
  ·skip
   refine Zb F.foff39_3 ?_; refine Zb F.foff31_4 ?_; refine Zi F.lay9 ?_; refine Zfj Tryz.underlying9 ?_; refine Zav ?_; refine Zl ?_; refine Zf ?_
   refine Zag 13 rfl (fun hc3 => ?_) (fun hc3 => ?_)
   ·replace hc3 := dT hc3
    iterate 5 refine Zz ?_
    refine Zl ?_; refine Zd ?_; refine Ze ?_; refine Zc ?_; refine Y_pk [2] ?_; refine Zak ?_
    refine Zaj (.inr rfl) (.tmp rfl .nil) (fun w hw => ?_)
    refine ⟨_, rfl, hw.c, _, rfl, ?_⟩
    clear hw
    exact fun _ => trivial
   ·replace hc3 := dF hc3
    refine Zb F.foff39_4 ?_; refine Zb F.foff34_3 ?_; refine Zi F.lay9 ?_; refine Zfj Tryz.underlying9 ?_; refine Zav ?_; refine Zl ?_; refine Zd ?_; refine Ze ?_; refine Zc ?_; refine Y_pk [2] ?_; refine Zak ?_
    refine Zaj (.inr rfl) (.tmp rfl .nil) (fun w hw => ?_)
    refine ⟨_, rfl, hw.c, _, rfl, ?_⟩
    clear hw
    exact fun _ => trivial
theorem BigV_ok (M : Mem) (s : ServerV) (hs0 : ServerV.ok M s) : Fs Tryz.prog 8 [s.enc] M (fun v => ∃ b : Bool, v = .bool b ∧ (b = false → s.store.l.length ≤ 2010 ∧ s.waits.l.length ≤ 40 ∧ ∀ w ∈ s.waits.l, w.need.l.length ≤ 40)) := by
  obtain ⟨Zaf, Zx, ⟨Zr, Zq, Zh⟩, ⟨Zp, Zo, Zg⟩, Zw⟩ := s
  have Zbw : SlK M HeldV.segs 24 ⟨Zr, Zq, Zh⟩ := hs0.h0
  have Zfr : SlM M Zr (Zh.map HeldV.segs) 24 := Zbw.h1
  have n_s_store : (Zh.map HeldV.segs).length = Zh.length := List.length_map ..
  have m_s_store : Zh.length ≤ 9223372036854775807 := Zbw.h2
  have c_s_store : Zh.length ≤ Zq := Zbw.h3
  have Zdq : ∀ y ∈ Zh, HeldV.ok M y := hs0.h1
  have Zbz : SlK M WaitV.segs 28 ⟨Zp, Zo, Zg⟩ := hs0.h2
  have Zfn : SlM M Zp (Zg.map WaitV.segs) 28 := Zbz.h1
  have n_s_waits : (Zg.map WaitV.segs).length = Zg.length := List.length_map ..
  have m_s_waits : Zg.length ≤ 9223372036854775807 := Zbz.h2
  have c_s_waits : Zg.length ≤ Zo := Zbz.h3
  have Zdp : ∀ y ∈ Zg, WaitV.ok M y := hs0.h3
  refine Zci Tryz.func8 rfl Tryz.ntmps8 rfl ?_; intro H
  refine Zj ?_; refine Za (l := [0, 1]) rfl ?_
  refine Zcz ?_; intro b1
  refine Zd ?_; refine Ze ?_; refine Zc ?_; refine Y_pk [2, 1] ?_
  iterate 2 refine Zj ?_
  refine Za (l := [0]) rfl ?_; refine Zd ?_; refine Ze ?_; refine Zc ?_; refine Zbe ?_; refine Y_pk [3, 2, 1] ?_; refine Zed (.succ .zero) (fun (k : Nat) z => ∃ (_ : Unit), z = [(3, .int .i64 (k : Int))] ∧ k ≤ Zg.length ∧ ∀ j (h2 : j < Zg.length), j < k → Zg[j].need.l.length ≤ 40) (fun k => Zg.length - k) (0) (⟨(), rfl, by omega, fun j h2 hj => by omega⟩) ?_
  rintro k _ ⟨_, rfl, hk, hI⟩
  iterate 2 refine Zj ?_
  refine Za (l := [0, 1, 2, 3, 4, 5, 6, 7, 8, 9, 10]) rfl ?_; refine Zf ?_; refine Zb F.foff26_3 ?_; refine Zi F.lay24 ?_; refine Zbb F.elem24 ?_; refine Zav ?_; refine Zf ?_
  refine Zag 9 rfl (fun hc2 => ?_) (fun hc2 => ?_)
  ·replace hc2 := dT hc2
   refine Zb F.foff26_3 ?_; refine Zi F.lay24 ?_; refine Zbb F.elem24 ?_; refine Zav ?_; refine Zl ?_; refine Ze ?_; refine Zc ?_
   refine Zau rfl (fun hc3 => ?_) (fun hc3 => ?_)
   ·replace hc3 := dT hc3
    refine Zax ?_; refine Zc ?_; refine Zj ?_; refine Zbe ?_; refine Zj ?_; refine Za (l := [0, 1, 2, 3, 4, 5, 6, 7]) rfl ?_; refine Zb F.foff26_3 ?_; refine Zi F.lay24 ?_; refine Zf ?_; refine Zaa rfl rfl rfl rfl F.elem24 (by rfl) (by omega) (by exact SlM.plain (by assumption) (by (simp; omega))) rfl ?_; refine Zaq rfl rfl rfl (by exact SlM.plain (by assumption) (by (simp; omega))) F.foff54_5 rfl ?_; refine Zay rfl rfl rfl (by assumption) (by exact Zbl (by omega)) F.lay52 rfl rfl rfl ?_; refine Zbb F.elem52 ?_; refine Zav ?_; refine Ze ?_; refine Zc ?_
    refine Zau rfl (fun hc4 => ?_) (fun hc4 => ?_)
    ·replace hc4 := dT hc4
     simp only [List.get_eq_getElem] at hc4
     refine Zj ?_; refine Za (l := [0]) rfl ?_; refine Zd ?_; refine Ze ?_; refine Zc ?_; refine Zak ?_; refine Zbj ?_
     iterate 2 refine Zba ?_
     refine Zbj ?_; refine Zba ?_
     refine Zaj (.inr rfl) (.tmp rfl .nil) (fun w hw => ?_)
     refine ⟨_, rfl, hw.c, _, rfl, ?_⟩
     clear hw
     intro h9
     (cases h9; done)
    ·replace hc4 := dF hc4
     simp only [List.get_eq_getElem] at hc4
     refine Zax ?_; refine Zde ?_; refine Zc ?_; refine Za (l := [0, 1, 2]) rfl ?_; refine Zf ?_; refine Zcc rfl rfl rfl rfl rfl (by exact Zbf (by decide) (by omega)) rfl ?_; refine Zd ?_; refine Ze ?_; refine Zda (a' := [(3, _)]) (k + 1) (.cons (k := 3) rfl (.cons (k := 2) rfl (.cons (k := 1) rfl (.nil)))) (fun w hw => by first | exact hw | exact hw.c) ?_ ?_
     ·exact ⟨(), rfl, by omega, fun j h2 hj => by
        rcases Nat.lt_or_ge j k with h9 | h9
        ·exact hI j h2 h9
        ·have hjk : j = k := (by omega)
         subst hjk
         have h7 : ¬ ((Zg[j].need.l.length : Int) > 40) := by assumption
         omega⟩
     ·omega
   ·replace hc3 := dF hc3
    refine Zcm ?_
    iterate 2 refine Zcd ?_
    refine Zdl ?_; refine Zc ?_; refine Y_pk [2, 1] ?_; refine Zj ?_; refine Za (l := [0, 1, 2, 3, 4, 5, 6, 7, 8, 9]) rfl ?_; refine Zb F.foff26_3 ?_; refine Zi F.lay24 ?_; refine Zbb F.elem24 ?_; refine Zav ?_; refine Zf ?_
    refine Zag 29 rfl (fun hc5 => ?_) (fun hc5 => ?_)
    ·replace hc5 := dT hc5
     iterate 3 refine Zz ?_
     refine Zl ?_; refine Zd ?_; refine Ze ?_; refine Zc ?_; refine Y_pk [2] ?_; refine Zak ?_
     refine Zaj (.inr rfl) (.tmp rfl .nil) (fun w hw => ?_)
     refine ⟨_, rfl, hw.c, _, rfl, ?_⟩
     clear hw
     intro h9
     (cases h9; done)
    ·replace hc5 := dF hc5
     (exfalso; omega)
  ·replace hc2 := dF hc2
   iterate 4 refine Zz ?_
   refine Zl ?_; refine Ze ?_; refine Zc ?_; refine Zeu rfl ?_; refine Zcm ?_
   iterate 2 refine Zcd ?_
   refine Zdl ?_; refine Zc ?_; refine Y_pk [2, 1] ?_; refine Zj ?_; refine Za (l := [0, 1, 2, 3, 4, 5, 6, 7, 8, 9]) rfl ?_; refine Zb F.foff26_3 ?_; refine Zi F.lay24 ?_; refine Zbb F.elem24 ?_; refine Zav ?_; refine Zf ?_
   refine Zag 29 rfl (fun hc6 => ?_) (fun hc6 => ?_)
   ·replace hc6 := dT hc6
    iterate 3 refine Zz ?_
    refine Zl ?_; refine Zd ?_; refine Ze ?_; refine Zc ?_; refine Y_pk [2] ?_; refine Zak ?_
    refine Zaj (.inr rfl) (.tmp rfl .nil) (fun w hw => ?_)
    refine ⟨_, rfl, hw.c, _, rfl, ?_⟩
    clear hw
    intro h9
    (cases h9; done)
   ·replace hc6 := dF hc6
    refine Zb F.foff26_2 ?_; refine Zi F.lay23 ?_; refine X_fs rfl rfl F.ok21 rfl (BigS_ok _ ⟨Zr, Zq, Zh⟩ Zbw Zdq) rfl ?_
    rintro _ ⟨bb, rfl, hbb⟩
    refine Zl ?_; refine Zd ?_; refine Ze ?_; refine Zc ?_; refine Y_pk [2] ?_; refine Zak ?_
    refine Zaj (.inr rfl) (.tmp rfl .nil) (fun w hw => ?_)
    refine ⟨_, rfl, hw.c, _, rfl, ?_⟩
    clear hw
    intro h9
    (refine ⟨hbb (by assumption), (by show Zg.length ≤ 40; omega), fun w9 hw9 => ?_⟩; replace hw9 : w9 ∈ Zg := hw9; obtain ⟨j, hj, rfl⟩ := List.getElem_of_mem hw9; exact hI j hj (by omega))
end Go.Proofs.YtpkeilhilpogiaaGreat
namespace Go.Proofs.YtpkeilhilpogiaaGreat
open Go.Esp
theorem F.bld54 : Bld Tryz.prog 54 [[idSeg 0], [.one (.int .i64 0)], [.one (.int .u64 0)], [.one (.int .i64 0), .one (.int .u64 0), .one (.bool false), .one (.string ⟨#[]⟩)], [.one (.int .u64 0)], [.one (.slice none 0 0)]] := by rw [idSeg0]; exact ⟨by kernel_rfl, by kernel_rfl⟩
theorem F.ok33 : okFn Tryz.prog 33 = true := by kernel_rfl
theorem F.ok71 : okFn Tryz.prog 71 = true := by kernel_rfl
theorem F.ok72 : okFn Tryz.prog 72 = true := by kernel_rfl
theorem F.ok73 : okFn Tryz.prog 73 = true := by kernel_rfl
theorem F.ok74 : okFn Tryz.prog 74 = true := by kernel_rfl
theorem rrequest_ok (M : Mem) (s : ServerV) (l : (Sl PeerV)) (r : Int) (p : ParcelV) (hs0 : ServerV.ok M s) (hl1 : SlK M PeerV.segs 21 l) (hp2 : ParcelV.ok M p) (hsv : IsSrv s.pl) (hci : IsCircle l.l) (hr : 1 ≤ r ∧ r ≤ 8) (hop : IsOp p.op) (hb : s.waits.l.length ≤ 1000) : Esp.Fn Tryz.prog 30 [s.enc, Sl.val l, .int .i64 r, p.enc] M (fun M' v => RqE M' v (requestR s.pl l.l r p.pl)) := by
  obtain ⟨Zaf, Zx, ⟨Zr, Zq, Zh⟩, ⟨Zp, Zo, Zg⟩, Zw⟩ := s
  obtain ⟨l_a, l_c, l_l⟩ := l
  obtain ⟨Zbx, Zbm, Zbr, ⟨Zv, Zao, Zap, Zy, Zbc⟩, ⟨Zab, Zt, Zae, Zad⟩, Zbd, ⟨Zs, Zai, Zah, ⟨Zn, Zm, Zk⟩⟩⟩ := p
  have Zbw : SlK M HeldV.segs 24 ⟨Zr, Zq, Zh⟩ := hs0.h0
  have Zfr : SlM M Zr (Zh.map HeldV.segs) 24 := Zbw.h1
  have n_s_store : (Zh.map HeldV.segs).length = Zh.length := List.length_map ..
  have m_s_store : Zh.length ≤ 9223372036854775807 := Zbw.h2
  have c_s_store : Zh.length ≤ Zq := Zbw.h3
  have Zdq : ∀ y ∈ Zh, HeldV.ok M y := hs0.h1
  have Zbz : SlK M WaitV.segs 28 ⟨Zp, Zo, Zg⟩ := hs0.h2
  have Zfn : SlM M Zp (Zg.map WaitV.segs) 28 := Zbz.h1
  have n_s_waits : (Zg.map WaitV.segs).length = Zg.length := List.length_map ..
  have m_s_waits : Zg.length ≤ 9223372036854775807 := Zbz.h2
  have c_s_waits : Zg.length ≤ Zo := Zbz.h3
  have Zdp : ∀ y ∈ Zg, WaitV.ok M y := hs0.h3
  have k_l : SlK M PeerV.segs 21 ⟨l_a, l_c, l_l⟩ := hl1
  have s_l : SlM M l_a (l_l.map PeerV.segs) 21 := k_l.h1
  have n_l : (l_l.map PeerV.segs).length = l_l.length := List.length_map ..
  have m_l : l_l.length ≤ 9223372036854775807 := k_l.h2
  have c_l : l_l.length ≤ l_c := k_l.h3
  have k_p_cell : CellV.ok M ⟨Zs, Zai, Zah, ⟨Zn, Zm, Zk⟩⟩ := hp2.h0
  have Zbu : SlK M MarkV.segs 6 ⟨Zn, Zm, Zk⟩ := hp2.h0.h0
  have s_p_cell_marks : SlM M Zn (Zk.map MarkV.segs) 6 := Zbu.h1
  have n_p_cell_marks : (Zk.map MarkV.segs).length = Zk.length := List.length_map ..
  have m_p_cell_marks : Zk.length ≤ 9223372036854775807 := Zbu.h2
  have c_p_cell_marks : Zk.length ≤ Zm := Zbu.h3
  simp only at hci hb
  obtain ⟨o9, hog⟩ : ∃ o, ownerI l_l Zbr = o := ⟨_, rfl⟩
  have ho9 : o9 < l_l.length := by rw [← hog]; exact ownerI_lt (by have := hci.1; omega)
  have hcl : 0 ≤ Zv ∧ Zv ≤ 63 := hop.1
  show Esp.Fn _ _ _ _ (fun M' v => RqE M' v (requestR (ServerV.pl ⟨Zaf, Zx, ⟨Zr, Zq, Zh⟩, ⟨Zp, Zo, Zg⟩, Zw⟩) l_l r (ParcelV.pl ⟨Zbx, Zbm, Zbr, ⟨Zv, Zao, Zap, Zy, Zbc⟩, ⟨Zab, Zt, Zae, Zad⟩, Zbd, ⟨Zs, Zai, Zah, ⟨Zn, Zm, Zk⟩⟩⟩)))
  refine Zek Tryz.func30 rfl Tryz.ntmps30 rfl ?_; intro H
  refine Zj ?_; refine Za (l := [0, 1, 2, 3]) rfl ?_
  refine Zcz ?_; intro b1
  refine Zcz ?_; intro b2
  refine Zby F.zero26 ?_; intro b3
  refine Zd ?_; refine Ze ?_; refine Zc ?_; refine Y_pk [9, 8, 7, 4, 1, 2] ?_; refine Zj ?_; refine Za (l := [0, 1, 2, 3]) rfl ?_; refine Zb F.foff39_3 ?_; refine Zi F.lay31 ?_
  refine Zby F.zero31 ?_; intro b4
  refine Zas F.lay31 ?_; refine Ze ?_; refine Zc ?_; refine Y_pk [10, 9, 8, 7, 4, 1, 2] ?_; refine Zj ?_; refine Za (l := [0, 1, 2, 3, 4, 5, 6, 7, 8]) rfl ?_; refine Zf ?_; refine Zb F.foff39_2 ?_; refine Zi F.lay29 ?_; refine X_fs rfl rfl F.ok69 rfl (rOwner_ok _ ⟨l_a, l_c, l_l⟩ Zbr k_l) rfl ?_
  rintro _ hv
  replace hv : _ = ofII (ownerR l_l Zbr) := hv
  rw [show ownerR l_l Zbr = (((o9 : Nat) : Int), 0) from by unfold ownerR; rw [if_pos hci, hog]] at hv
  subst hv
  refine Zf ?_
  iterate 2 refine Zcf ?_
  iterate 2 refine Zd ?_
  refine Ze ?_; refine Zc ?_; refine Y_pk [11, 10, 9, 8, 7, 4, 1, 2] ?_
  iterate 2 refine Zj ?_
  refine Zar (l := [0, 1, 2, 3, 4, 5, 6, 7]) #[0, 0, 3, 7, 15, 0, 32, 127] _ rfl (by kernel_rfl) (by kernel_rfl) St.drawn (fun _ h => h) ?_
  iterate 2 refine Zf ?_
  refine Zaa rfl rfl rfl rfl F.elem27 (by rfl) (by omega) (by exact SlM.plain (by assumption) (by (simp; omega))) rfl ?_; refine Zaq rfl rfl rfl (by exact SlM.plain (by assumption) (by (simp; omega))) F.foff80_0 rfl ?_; refine Zay rfl rfl rfl (by assumption) (by exact Zbl (by omega)) F.lay3 rfl rfl rfl ?_; refine Zb F.foff26_0 ?_; refine Zi F.lay3 ?_; refine Zav ?_; refine Ze ?_; refine Zc ?_; refine Y_pk [40, 10, 9, 8, 7, 4, 1, 2] ?_
  refine Zau rfl (fun hc5 => ?_) (fun hc5 => ?_)
  ·replace hc5 := nT hc5
   simp only [List.get_eq_getElem] at hc5
   refine Zj ?_; refine Zar (l := [0, 1, 2, 3, 4, 5, 6, 7, 8, 9]) #[0, 0, 0, 4, 0, 16, 0, 126, 255, 511] _ rfl (by kernel_rfl) (by kernel_rfl) St.drawn (fun _ h => h) ?_
   iterate 2 refine Zi F.lay26 ?_
   refine Zb F.foff31_0 ?_; refine Zi F.lay3 ?_; refine Zb F.foff31_1 ?_; refine Zi F.lay22 ?_; refine Zbv rfl rfl F.bld34 (.cons rfl (by constructor) .nil) rfl rfl ?_; refine X_fn rfl rfl F.ok70 rfl (rreply_ok _ ⟨Zaf, Zx, ⟨Zr, Zq, Zh⟩, ⟨Zp, Zo, Zg⟩, Zw⟩ Zv Zao ⟨7, 0, false, ⟨#[]⟩⟩ (hs0.mono (by exact Mem.le.refl _)) hcl) rfl ?_
   rintro _ M8 hm8 ⟨⟨z_a, z_c, z_l⟩, rfl, hz, k_z, o_z⟩
   refine Zas F.lay26 ?_; refine Zd ?_; refine Ze ?_; refine Zc ?_; refine Y_pk [9, 10, 8, 7, 4, 1, 2] ?_; refine Zak ?_; refine Zba ?_
   refine Zaj (.inr rfl) (.cell rfl (by repeat first | exact List.Mem.head _ | refine List.Mem.tail _ ?_ | refine List.mem_append_right _ ?_) F.lay26 rfl rfl (.tmp rfl .nil)) (fun w hw => ?_)
   refine ⟨_, M8, rfl, hm8, hw.c, ⟨Zaf, Zx, ⟨Zr, Zq, Zh⟩, ⟨Zp, Zo, Zg⟩, Zw⟩, ⟨z_a, z_c, z_l⟩, rfl, ?_, ?_, hs0.mono hm8, k_z, o_z⟩ <;> rw [req_none (s := ServerV.pl ⟨Zaf, Zx, ⟨Zr, Zq, Zh⟩, ⟨Zp, Zo, Zg⟩, Zw⟩) (l := l_l) (r := r) (p := ParcelV.pl ⟨Zbx, Zbm, Zbr, ⟨Zv, Zao, Zap, Zy, Zbc⟩, ⟨Zab, Zt, Zae, Zad⟩, Zbd, ⟨Zs, Zai, Zah, ⟨Zn, Zm, Zk⟩⟩⟩) (by show (l_l.getD (ownerI l_l Zbr) ⟨0, 0⟩).addr ≠ Zaf; rw [hog, List.getD_eq_getElem?_getD, List.getElem?_eq_getElem ho9]; show l_l[o9].addr ≠ Zaf; first | assumption | omega)]
   exact hz
  ·replace hc5 := nF hc5
   simp only [List.get_eq_getElem] at hc5
   refine Zax ?_; refine Zc ?_; refine Y_pk [10, 9, 8, 7, 4, 1, 2] ?_
   iterate 2 refine Zj ?_
   refine Za (l := [0]) rfl ?_; refine Zd ?_; refine Ze ?_; refine Zc ?_; refine Zbe ?_; refine Y_pk [13, 10, 9, 8, 7, 4, 1, 2] ?_; refine Zed (.succ .zero) (fun (k : Nat) z => z = [(13, .int .i64 (k : Int))] ∧ k ≤ Zg.length ∧ ∀ j (h2 : j < Zg.length), j < k → ¬ Zg[j].key = Zbr) (fun k => Zg.length - k) (0) (⟨rfl, by omega, fun j h2 hj => by omega⟩) ?_
   rintro k _ ⟨rfl, hk9, hI⟩
   iterate 2 refine Zj ?_
   refine Za (l := [0, 1, 2, 3, 4]) rfl ?_; refine Zf ?_; refine Zb F.foff26_3 ?_; refine Zi F.lay24 ?_; refine Zbb F.elem24 ?_; refine Zav ?_; refine Ze ?_; refine Zc ?_
   refine Zau rfl (fun hc6 => ?_) (fun hc6 => ?_)
   ·replace hc6 := dT hc6
    refine Zax ?_; refine Zc ?_; refine Zj ?_; refine Zbe ?_; refine Zj ?_; refine Za (l := [0, 1, 2, 3, 4, 5, 6]) rfl ?_; refine Zb F.foff26_3 ?_; refine Zi F.lay24 ?_; refine Zf ?_; refine Zaa rfl rfl rfl rfl F.elem24 (by rfl) (by omega) (by exact SlM.plain (by assumption) (by (simp; omega))) rfl ?_; refine Zay rfl rfl rfl (by assumption) (by exact Zbl (by omega)) F.lay54 rfl rfl rfl ?_
    obtain ⟨⟨Zev, Zbo, Zfh, ⟨Zat, Zaw, Zbn, Zaz⟩, Zcn, ⟨Zcl, Zck, Zac⟩⟩, hwk⟩ : ∃ w, Zg[k]'(by omega) = w := ⟨_, rfl⟩
    refine Zgq 60 rfl (show _ = aggV (WaitV.segs ⟨Zev, Zbo, Zfh, ⟨Zat, Zaw, Zbn, Zaz⟩, Zcn, ⟨Zcl, Zck, Zac⟩⟩) from by rw [← hwk]; rfl) ?_
    have okw := Zdp _ (List.getElem_mem (n := k) (show k < Zg.length by omega))
    rw [hwk] at okw
    have hwo : WtOk (WaitV.pl ⟨Zev, Zbo, Zfh, ⟨Zat, Zaw, Zbn, Zaz⟩, Zcn, ⟨Zcl, Zck, Zac⟩⟩) := by
     have h9 := hsv.1.1 _ (List.mem_map_of_mem (f := WaitV.pl) (List.getElem_mem (n := k) (show k < Zg.length by omega)))
     rw [hwk] at h9; exact h9
    have hnl : Zac.length ≤ 1000 := by have h9 := hwo.2.1.2; simp only [WaitV.pl] at h9; omega
    refine Zby F.zero54 ?_; intro b7
    refine Zas F.lay54 ?_; refine Ze ?_; refine Zc ?_; refine Zj ?_; refine Za (l := [0, 1, 2, 3, 4]) rfl ?_; refine Zb F.foff54_0 ?_; refine Zi F.lay29 ?_; refine Zb F.foff39_2 ?_; refine Zi F.lay29 ?_
    refine Zfx (m := 20) rfl rfl rfl rfl rfl (by constructor) (by constructor) F.lay29 F.kinds29 rfl F.guard29 (Zga Zez) (Zga Zez) rfl rfl rfl ?_; intro c8 he9
    replace he9 : c8 = true ↔ Segs.cells _ = Segs.cells _ := he9
    obtain rfl := eqD he9 (Zfu (x := _) (y := _)); clear he9
    refine Ze ?_; refine Zc ?_
    refine Zau rfl (fun hc10 => ?_) (fun hc10 => ?_)
    ·replace hc10 := dT hc10
     refine Zj ?_; refine Zar (l := [0, 1, 2, 3, 4, 5, 6, 7, 8, 9, 10]) #[0, 0, 0, 4, 0, 16, 0, 64, 254, 511, 1023] _ rfl (by kernel_rfl) (by kernel_rfl) St.drawn (fun _ h => h) ?_
     iterate 2 refine Zi F.lay26 ?_
     refine Zb F.foff39_2 ?_; refine Zi F.lay29 ?_; refine Zb F.foff54_4 ?_; refine Zi F.lay22 ?_; refine Zb F.foff54_5 ?_; refine Zi F.lay52 ?_; refine X_fn rfl rfl F.ok71 rfl (rcopies_ok _ ⟨Zaf, Zx, ⟨Zr, Zq, Zh⟩, ⟨Zp, Zo, Zg⟩, Zw⟩ Zbr Zcn ⟨Zcl, Zck, Zac⟩ (hs0.mono (by exact Mem.le.refl _)) (okw.h0.mono (by exact Mem.le.refl _)) hnl) rfl ?_
     rintro _ M8 hm8 ⟨⟨z_a, z_c, z_l⟩, rfl, hz, k_z, o_z⟩
     refine Zas F.lay26 ?_; refine Zd ?_; refine Ze ?_; refine Zc ?_; refine Zak ?_; refine Zbj ?_
     iterate 2 refine Zba ?_
     refine Zbj ?_; refine Zba ?_
     refine Zaj (.inr rfl) (.cell rfl (by repeat first | exact List.Mem.head _ | refine List.Mem.tail _ ?_ | refine List.mem_append_right _ ?_) F.lay26 rfl rfl (.tmp rfl .nil)) (fun w hw => ?_)
     have hff : ((wtl Zg).find? fun w => decide (w.key = Zbr)) = some (WaitV.pl ⟨Zev, Zbo, Zfh, ⟨Zat, Zaw, Zbn, Zaz⟩, Zcn, ⟨Zcl, Zck, Zac⟩⟩) := by
      rw [List.find?_eq_some_iff_getElem]
      refine ⟨decide_eq_true (show Zev = Zbr by first | rfl | assumption), k, by rw [Zcs]; omega, by rw [Zgi (by omega), hwk], fun j hj => ?_⟩
      rw [Zgi (by omega)]
      simp only [Bool.not_eq_true', decide_eq_false_iff_not]
      exact hI j (by omega) hj
     refine ⟨_, M8, rfl, hm8, hw.c, ⟨Zaf, Zx, ⟨Zr, Zq, Zh⟩, ⟨Zp, Zo, Zg⟩, Zw⟩, ⟨z_a, z_c, z_l⟩, rfl, ?_, ?_, hs0.mono hm8, k_z, o_z⟩ <;> rw [req_wait (s := ServerV.pl ⟨Zaf, Zx, ⟨Zr, Zq, Zh⟩, ⟨Zp, Zo, Zg⟩, Zw⟩) (l := l_l) (r := r) (p := ParcelV.pl ⟨Zbx, Zbm, Zbr, ⟨Zv, Zao, Zap, Zy, Zbc⟩, ⟨Zab, Zt, Zae, Zad⟩, Zbd, ⟨Zs, Zai, Zah, ⟨Zn, Zm, Zk⟩⟩⟩) (by show (l_l.getD (ownerI l_l Zbr) ⟨0, 0⟩).addr = Zaf; rw [hog, List.getD_eq_getElem?_getD, List.getElem?_eq_getElem ho9]; show l_l[o9].addr = Zaf; first | assumption | omega) hff]
     exact hz
    ·replace hc10 := dF hc10
     refine Zax ?_; refine Zde ?_; refine Zc ?_; refine Za (l := [0, 1, 2]) rfl ?_; refine Zf ?_; refine Zcc rfl rfl rfl rfl rfl (by exact Zbf (by decide) (by omega)) rfl ?_; refine Zd ?_; refine Ze ?_; refine Zda (a' := [(13, _)]) (k + 1) (.cons (k := 13) rfl (.cons (k := 10) rfl (.cons (k := 9) rfl (.cons (k := 8) rfl (.cons (k := 7) rfl (.cons (k := 4) rfl (.cons (k := 1) rfl (.cons (k := 2) rfl (.nil))))))))) (fun w hw => by first | exact hw | exact hw.c) ?_ ?_
     ·refine ⟨rfl, by omega, fun j h2 hj => ?_⟩
      rcases Nat.lt_or_ge j k with h9 | h9
      ·exact hI j h2 h9
      ·have hjk : j = k := by omega
       subst hjk
       rw [hwk]; assumption
     ·omega
   ·replace hc6 := dF hc6
    refine Zcm ?_
    iterate 2 refine Zcd ?_
    refine Zdl ?_; refine Zc ?_; refine Y_pk [10, 9, 8, 7, 4, 1, 2] ?_; refine Zj ?_
    have hnf : ((wtl Zg).find? fun w => decide (w.key = Zbr)) = none := by
     rw [List.find?_eq_none]
     intro x hx
     obtain ⟨y, hy, rfl⟩ := List.mem_map.1 hx
     obtain ⟨j, hj, rfl⟩ := List.getElem_of_mem hy
     simp only [decide_eq_true_eq]
     exact hI j hj (by omega)
    have hso : IsSt (pls Zh) := hsv.2.2
    refine Za (l := [0, 1, 2, 3, 4, 5, 6, 7, 8, 9, 10]) rfl ?_; refine Zb F.foff26_2 ?_; refine Zi F.lay23 ?_; refine Zb F.foff39_2 ?_; refine Zi F.lay29 ?_; refine X_fs rfl rfl F.ok31 rfl (rFind_ok _ ⟨Zr, Zq, Zh⟩ Zbr Zbw Zdq) rfl ?_
    rintro _ hv
    obtain ⟨⟨xc, xb⟩, hx⟩ : ∃ r, findX Zh Zbr = r := ⟨_, rfl⟩
    replace hv : _ = findXv (findX Zh Zbr) := hv
    rw [hx] at hv
    subst hv
    have hpl := findX_pl Zh Zbr
    rw [hx] at hpl
    have okx : CellV.ok M xc := by
     cases xb
     ·have h9 := findX_no hx
      subst h9; exact CellV.zero_ok M
     ·obtain ⟨y9, g1, g2, g3⟩ := findX_mem (l := Zh) (k := Zbr) (by rw [hx])
      rw [hx] at g3
      simp only at g3
      rw [← g3]; exact (Zdq y9 g1).h0
    obtain ⟨⟨D1, da, db, de⟩, hD⟩ : ∃ x, doC (findP (pls Zh) Zbr).1 (⟨Zv, Zao, Zap, Zy, Zbc⟩ : OpV) = x := ⟨_, rfl⟩
    have hpl1 : xc.pl = (findP (pls Zh) Zbr).1 := congrArg Prod.fst hpl
    obtain ⟨x_v, x_h, x_s, ⟨x_a, x_c, x_l⟩⟩ := xc
    refine Zf ?_
    iterate 2 refine Zcf ?_
    refine Zby F.zero37 ?_; intro b11
    refine Zas F.lay37 ?_; refine Zd ?_; refine Ze ?_; refine Zc ?_; refine Y_pk [15, 10, 9, 8, 7, 4, 1, 2] ?_; refine Zj ?_; refine Za (l := [0, 1, 2, 3, 4, 5, 6, 7, 8, 9, 10, 11, 12, 13]) rfl ?_; refine Zi F.lay37 ?_; refine Zi F.lay31 ?_; refine X_fn rfl rfl F.ok72 rfl (rDo_ok _ ⟨x_v, x_h, x_s, ⟨x_a, x_c, x_l⟩⟩ (⟨Zv, Zao, Zap, Zy, Zbc⟩ : OpV) okx) rfl ?_
    rintro _ M1 hm1 hv
    replace hv : DoE _ _ (doC (CellV.pl ⟨x_v, x_h, x_s, ⟨x_a, x_c, x_l⟩⟩) (⟨Zv, Zao, Zap, Zy, Zbc⟩ : OpV)) := hv
    rw [hpl1, hD] at hv
    obtain ⟨⟨d_v, d_h, d_s, ⟨d_a, d_c, d_l⟩⟩, rfl, hdp, okd⟩ := hv
    obtain ⟨da1, da2, da3, da4⟩ := da
    refine Zf ?_
    iterate 4 refine Zcf ?_
    refine Zby F.zero37 ?_; intro b12
    refine Zby F.zero34 ?_; intro b13
    refine Zas F.lay37 ?_; refine Zas F.lay34 ?_
    iterate 2 refine Zd ?_
    refine Ze ?_; refine Zc ?_; refine Y_pk [19, 18, 17, 10, 9, 8, 7, 4, 1, 2] ?_
    iterate 2 refine Zj ?_
    refine Za (l := [0, 1, 2]) rfl ?_; refine Zb F.foff31_2 ?_; refine Zi F.lay3 ?_; refine Zav ?_; refine Ze ?_; refine Zc ?_; refine Y_pk [93, 19, 18, 17, 10, 9, 8, 7, 4, 1, 2] ?_
    refine Zau rfl (fun hc14 => ?_) (fun hc14 => ?_)
    ·replace hc14 := dT hc14
     refine Zj ?_; refine Zar (l := [0, 1, 2, 3, 4, 5, 6, 7, 8, 9]) #[0, 0, 0, 4, 0, 16, 0, 126, 255, 511] _ rfl (by kernel_rfl) (by kernel_rfl) St.drawn (fun _ h => h) ?_
     iterate 2 refine Zi F.lay26 ?_
     refine Zb F.foff31_0 ?_; refine Zi F.lay3 ?_; refine Zb F.foff31_1 ?_; refine Zi F.lay22 ?_; refine Zi F.lay34 ?_; refine X_fn rfl rfl F.ok70 rfl (rreply_ok _ ⟨Zaf, Zx, ⟨Zr, Zq, Zh⟩, ⟨Zp, Zo, Zg⟩, Zw⟩ Zv Zao ⟨da1, da2, da3, da4⟩ (hs0.mono (by assumption)) hcl) rfl ?_
     rintro _ M8 hm8 ⟨⟨z_a, z_c, z_l⟩, rfl, hz, k_z, o_z⟩
     refine Zas F.lay26 ?_; refine Zd ?_; refine Ze ?_; refine Zc ?_; refine Y_pk [9, 19, 18, 17, 10, 8, 7, 4, 1, 2] ?_; refine Zak ?_; refine Zba ?_
     refine Zaj (.inr rfl) (.cell rfl (by repeat first | exact List.Mem.head _ | refine List.Mem.tail _ ?_ | refine List.mem_append_right _ ?_) F.lay26 rfl rfl (.tmp rfl .nil)) (fun w hw => ?_)
     have hreq : requestR (ServerV.pl ⟨Zaf, Zx, ⟨Zr, Zq, Zh⟩, ⟨Zp, Zo, Zg⟩, Zw⟩) l_l r (ParcelV.pl ⟨Zbx, Zbm, Zbr, ⟨Zv, Zao, Zap, Zy, Zbc⟩, ⟨Zab, Zt, Zae, Zad⟩, Zbd, ⟨Zs, Zai, Zah, ⟨Zn, Zm, Zk⟩⟩⟩) = ((ServerV.pl ⟨Zaf, Zx, ⟨Zr, Zq, Zh⟩, ⟨Zp, Zo, Zg⟩, Zw⟩), [replyR (ServerV.pl ⟨Zaf, Zx, ⟨Zr, Zq, Zh⟩, ⟨Zp, Zo, Zg⟩, Zw⟩) Zv Zao ⟨da1, da2, da3, da4⟩]) := req_get (s := ServerV.pl ⟨Zaf, Zx, ⟨Zr, Zq, Zh⟩, ⟨Zp, Zo, Zg⟩, Zw⟩) (l := l_l) (r := r) (p := ParcelV.pl ⟨Zbx, Zbm, Zbr, ⟨Zv, Zao, Zap, Zy, Zbc⟩, ⟨Zab, Zt, Zae, Zad⟩, Zbd, ⟨Zs, Zai, Zah, ⟨Zn, Zm, Zk⟩⟩⟩) (by show (l_l.getD (ownerI l_l Zbr) ⟨0, 0⟩).addr = Zaf; rw [hog, List.getD_eq_getElem?_getD, List.getElem?_eq_getElem ho9]; show l_l[o9].addr = Zaf; first | assumption | omega) hnf (by assumption) (show (doC (findP (pls Zh) Zbr).1 (⟨Zv, Zao, Zap, Zy, Zbc⟩ : OpV)) = _ from hD)
     rw [hreq]
     exact ⟨_, M8, rfl, hm1.trans hm8, hw.c, ⟨Zaf, Zx, ⟨Zr, Zq, Zh⟩, ⟨Zp, Zo, Zg⟩, Zw⟩, ⟨z_a, z_c, z_l⟩, rfl, rfl, hz, hs0.mono (hm1.trans hm8), k_z, o_z⟩
    ·replace hc14 := dF hc14
     refine Zax ?_; refine Zc ?_; refine Y_pk [19, 18, 17, 10, 9, 8, 7, 4, 1, 2] ?_; refine Zj ?_; refine Za (l := [0, 1, 2, 3, 4, 5, 6, 7, 8, 9, 10]) rfl ?_; refine Zb F.foff26_2 ?_; refine Zi F.lay23 ?_; refine Zb F.foff39_2 ?_; refine Zi F.lay29 ?_; refine Zi F.lay37 ?_; refine X_fn rfl rfl F.ok33 rfl (rPut_ok _ ⟨Zr, Zq, Zh⟩ Zbr ⟨d_v, d_h, d_s, ⟨d_a, d_c, d_l⟩⟩ (Zbw.mono hm1) (fun h hh => (Zdq h hh).mono hm1) okd) rfl ?_
     rintro _ M2 hm2 hv
     obtain ⟨⟨Q1, qe⟩, hQ⟩ : ∃ x, putR (pls Zh) Zbr (CellV.pl ⟨d_v, d_h, d_s, ⟨d_a, d_c, d_l⟩⟩) = x := ⟨_, rfl⟩
     replace hv : StE _ _ (putR (pls Zh) Zbr (CellV.pl ⟨d_v, d_h, d_s, ⟨d_a, d_c, d_l⟩⟩)) := hv
     rw [hQ] at hv
     obtain ⟨⟨u_a, u_c, u_l⟩, rfl, hu, k_u, l_u⟩ := hv
     simp only at hu l_u
     rw [hdp] at hQ
     refine Zf ?_
     iterate 2 refine Zcf ?_
     iterate 2 refine Zd ?_
     refine Ze ?_; refine Zc ?_; refine Y_pk [22, 21, 19, 18, 10, 9, 8, 7, 4, 1, 2] ?_
     iterate 2 refine Zj ?_
     refine Za (l := [0, 1]) rfl ?_; refine Zf ?_; refine Zav ?_; refine Ze ?_; refine Zc ?_; refine Y_pk [112, 21, 19, 18, 10, 9, 8, 7, 4, 1, 2] ?_
     refine Zau rfl (fun hc15 => ?_) (fun hc15 => ?_)
     ·replace hc15 := nT hc15
      simp only [AnswerV.eta, MarkV.eta, CellV.eta, HeldV.eta, WaitV.eta, ServerV.eta, PeerV.eta, OpV.eta, ParcelV.eta, PostV.eta, WorkerV.eta] at hc15
      refine Zj ?_; refine Za (l := [0, 1, 2]) rfl ?_; refine Zi F.lay26 ?_; refine Zas F.lay26 ?_; refine Zd ?_; refine Ze ?_; refine Zc ?_; refine Y_pk [9, 21, 19, 18, 10, 8, 7, 4, 1, 2] ?_; refine Zak ?_; refine Zba ?_
      refine Zaj (.inr rfl) (.cell rfl (by repeat first | exact List.Mem.head _ | refine List.Mem.tail _ ?_ | refine List.mem_append_right _ ?_) F.lay26 rfl rfl (.tmp rfl .nil)) (fun w hw => ?_)
      have hreq : requestR (ServerV.pl ⟨Zaf, Zx, ⟨Zr, Zq, Zh⟩, ⟨Zp, Zo, Zg⟩, Zw⟩) l_l r (ParcelV.pl ⟨Zbx, Zbm, Zbr, ⟨Zv, Zao, Zap, Zy, Zbc⟩, ⟨Zab, Zt, Zae, Zad⟩, Zbd, ⟨Zs, Zai, Zah, ⟨Zn, Zm, Zk⟩⟩⟩) = ((ServerV.pl ⟨Zaf, Zx, ⟨Zr, Zq, Zh⟩, ⟨Zp, Zo, Zg⟩, Zw⟩), []) := req_full (s := ServerV.pl ⟨Zaf, Zx, ⟨Zr, Zq, Zh⟩, ⟨Zp, Zo, Zg⟩, Zw⟩) (l := l_l) (r := r) (p := ParcelV.pl ⟨Zbx, Zbm, Zbr, ⟨Zv, Zao, Zap, Zy, Zbc⟩, ⟨Zab, Zt, Zae, Zad⟩, Zbd, ⟨Zs, Zai, Zah, ⟨Zn, Zm, Zk⟩⟩⟩) (by show (l_l.getD (ownerI l_l Zbr) ⟨0, 0⟩).addr = Zaf; rw [hog, List.getD_eq_getElem?_getD, List.getElem?_eq_getElem ho9]; show l_l[o9].addr = Zaf; first | assumption | omega) hnf (by assumption) (show (doC (findP (pls Zh) Zbr).1 (⟨Zv, Zao, Zap, Zy, Zbc⟩ : OpV)) = _ from hD) hQ (by assumption)
      rw [hreq]
      exact ⟨_, M2, rfl, hm1.trans hm2, hw.c, ⟨Zaf, Zx, ⟨Zr, Zq, Zh⟩, ⟨Zp, Zo, Zg⟩, Zw⟩, ⟨none, 0, []⟩, rfl, rfl, rfl, hs0.mono (hm1.trans hm2), SlK.nil, fun y hy => by cases hy⟩
     ·replace hc15 := nF hc15
      simp only [AnswerV.eta, MarkV.eta, CellV.eta, HeldV.eta, WaitV.eta, ServerV.eta, PeerV.eta, OpV.eta, ParcelV.eta, PostV.eta, WorkerV.eta] at hc15
      refine Zax ?_; refine Zc ?_; refine Y_pk [21, 19, 18, 10, 9, 8, 7, 4, 1, 2] ?_; refine Zj ?_; refine Za (l := [0, 1, 2]) rfl ?_; refine Zf ?_; refine Zb F.foff26_2 ?_; refine Zas F.lay23 ?_; refine Ze ?_; refine Zc ?_; refine Y_pk [19, 18, 10, 9, 8, 7, 4, 1, 2] ?_; refine Zj ?_; refine Za (l := [0, 1, 2, 3, 4, 5]) rfl ?_
      iterate 2 refine Zf ?_
      refine Zb F.foff39_2 ?_; refine Zi F.lay29 ?_; refine X_fn rfl rfl F.ok73 rfl (rothers_ok _ ⟨l_a, l_c, l_l⟩ r Zbr (k_l.mono (hm1.trans hm2)) hci hr) rfl ?_
      rintro _ M3 hm3 ⟨⟨t_a, t_c, t_l⟩, rfl, ht, k_t⟩
      simp only at ht
      have htl : t_l.length ≤ 1000 := by rw [ht]; exact upto_len
      replace ht : Hid (t_l = othersR l_l r Zbr) := ht
      refine Zd ?_; refine Ze ?_; refine Zc ?_; refine Y_pk [23, 19, 18, 10, 9, 8, 7, 4] ?_
      iterate 2 refine Zj ?_
      refine Za (l := [0, 1, 2, 3, 4, 5, 6]) rfl ?_; refine Zf ?_; refine Zel ?_; refine Zf ?_
      refine Zag 123 rfl (fun hc16 => ?_) (fun hc16 => ?_)
      ·skip
       simp only [AnswerV.eta, MarkV.eta, CellV.eta, HeldV.eta, WaitV.eta, ServerV.eta, PeerV.eta, OpV.eta, ParcelV.eta, PostV.eta, WorkerV.eta] at hc16
       iterate 3 refine Zz ?_
       refine Zl ?_; refine Ze ?_; refine Zc ?_; refine Y_pk [127, 23, 18, 10, 9, 8, 7, 4] ?_; refine Zcy rfl ?_; refine Zj ?_; refine Zar (l := [0, 1, 2, 3, 4, 5, 6, 7, 8, 9]) #[0, 0, 0, 4, 0, 16, 0, 126, 255, 511] _ rfl (by kernel_rfl) (by kernel_rfl) St.drawn (fun _ h => h) ?_
       iterate 2 refine Zi F.lay26 ?_
       refine Zb F.foff31_0 ?_; refine Zi F.lay3 ?_; refine Zb F.foff31_1 ?_; refine Zi F.lay22 ?_; refine Zi F.lay34 ?_; refine X_fn rfl rfl F.ok70 rfl (rreply_ok _ ⟨Zaf, Zx, ⟨u_a, u_c, u_l⟩, ⟨Zp, Zo, Zg⟩, Zw⟩ Zv Zao ⟨da1, da2, da3, da4⟩ ⟨k_u.mono (by assumption), fun h hh => (l_u h hh).mono (by assumption), Zbz.mono (by (repeat first | assumption | refine Mem.le.trans (by assumption) ?_)), fun h hh => (Zdp h hh).mono (by (repeat first | assumption | refine Mem.le.trans (by assumption) ?_))⟩ hcl) rfl ?_
       rintro _ M8 hm8 ⟨⟨z_a, z_c, z_l⟩, rfl, hz, k_z, o_z⟩
       refine Zas F.lay26 ?_; refine Zd ?_; refine Ze ?_; refine Zc ?_; refine Y_pk [9, 23, 18, 10, 8, 7, 4] ?_; refine Zak ?_; refine Zba ?_
       refine Zaj (.inr rfl) (.cell rfl (by repeat first | exact List.Mem.head _ | refine List.Mem.tail _ ?_ | refine List.mem_append_right _ ?_) F.lay26 rfl rfl (.tmp rfl .nil)) (fun w hw => ?_)
       have hdn : db = false ∨ t_l = [] := by first | exact .inl (by assumption) | exact .inl (by have h9 : (!db) = true := (by assumption); simpa using h9) | exact .inr (List.eq_nil_of_length_eq_zero (by omega))
       have hreq : requestR (ServerV.pl ⟨Zaf, Zx, ⟨Zr, Zq, Zh⟩, ⟨Zp, Zo, Zg⟩, Zw⟩) l_l r (ParcelV.pl ⟨Zbx, Zbm, Zbr, ⟨Zv, Zao, Zap, Zy, Zbc⟩, ⟨Zab, Zt, Zae, Zad⟩, Zbd, ⟨Zs, Zai, Zah, ⟨Zn, Zm, Zk⟩⟩⟩) = (⟨Zaf, Zx, Q1, wtl Zg, Zw⟩, [replyR (ServerV.pl ⟨Zaf, Zx, ⟨Zr, Zq, Zh⟩, ⟨Zp, Zo, Zg⟩, Zw⟩) Zv Zao ⟨da1, da2, da3, da4⟩]) := req_done (s := ServerV.pl ⟨Zaf, Zx, ⟨Zr, Zq, Zh⟩, ⟨Zp, Zo, Zg⟩, Zw⟩) (l := l_l) (r := r) (p := ParcelV.pl ⟨Zbx, Zbm, Zbr, ⟨Zv, Zao, Zap, Zy, Zbc⟩, ⟨Zab, Zt, Zae, Zad⟩, Zbd, ⟨Zs, Zai, Zah, ⟨Zn, Zm, Zk⟩⟩⟩) (by show (l_l.getD (ownerI l_l Zbr) ⟨0, 0⟩).addr = Zaf; rw [hog, List.getD_eq_getElem?_getD, List.getElem?_eq_getElem ho9]; show l_l[o9].addr = Zaf; first | assumption | omega) hnf (by assumption) (show (doC (findP (pls Zh) Zbr).1 (⟨Zv, Zao, Zap, Zy, Zbc⟩ : OpV)) = _ from hD) hQ (by assumption) ht hdn
       rw [hreq]
       exact ⟨_, M8, rfl, hm1.trans (hm2.trans (hm3.trans hm8)), hw.c, ⟨Zaf, Zx, ⟨u_a, u_c, u_l⟩, ⟨Zp, Zo, Zg⟩, Zw⟩, ⟨z_a, z_c, z_l⟩, rfl, (by show Srv.mk _ _ (pls u_l) _ _ = Srv.mk _ _ Q1 _ _; rw [hu]), hz, ⟨k_u.mono (by (repeat first | assumption | refine Mem.le.trans (by assumption) ?_)), fun h hh => (l_u h hh).mono (by (repeat first | assumption | refine Mem.le.trans (by assumption) ?_)), Zbz.mono (by (repeat first | assumption | refine Mem.le.trans (by assumption) ?_)), fun h hh => (Zdp h hh).mono (by (repeat first | assumption | refine Mem.le.trans (by assumption) ?_))⟩, k_z, o_z⟩
      ·skip
       simp only [AnswerV.eta, MarkV.eta, CellV.eta, HeldV.eta, WaitV.eta, ServerV.eta, PeerV.eta, OpV.eta, ParcelV.eta, PostV.eta, WorkerV.eta] at hc16
       refine Zf ?_; refine Zbb F.elem52 ?_; refine Zav ?_; refine Zl ?_; refine Ze ?_; refine Zc ?_; refine Y_pk [127, 23, 18, 10, 9, 8, 7, 4] ?_
       refine Zau rfl (fun hc17 => ?_) (fun hc17 => ?_)
       ·replace hc17 := dT hc17
        refine Zj ?_; refine Zar (l := [0, 1, 2, 3, 4, 5, 6, 7, 8, 9]) #[0, 0, 0, 4, 0, 16, 0, 126, 255, 511] _ rfl (by kernel_rfl) (by kernel_rfl) St.drawn (fun _ h => h) ?_
        iterate 2 refine Zi F.lay26 ?_
        refine Zb F.foff31_0 ?_; refine Zi F.lay3 ?_; refine Zb F.foff31_1 ?_; refine Zi F.lay22 ?_; refine Zi F.lay34 ?_; refine X_fn rfl rfl F.ok70 rfl (rreply_ok _ ⟨Zaf, Zx, ⟨u_a, u_c, u_l⟩, ⟨Zp, Zo, Zg⟩, Zw⟩ Zv Zao ⟨da1, da2, da3, da4⟩ ⟨k_u.mono (by assumption), fun h hh => (l_u h hh).mono (by assumption), Zbz.mono (by (repeat first | assumption | refine Mem.le.trans (by assumption) ?_)), fun h hh => (Zdp h hh).mono (by (repeat first | assumption | refine Mem.le.trans (by assumption) ?_))⟩ hcl) rfl ?_
        rintro _ M8 hm8 ⟨⟨z_a, z_c, z_l⟩, rfl, hz, k_z, o_z⟩
        refine Zas F.lay26 ?_; refine Zd ?_; refine Ze ?_; refine Zc ?_; refine Y_pk [9, 23, 18, 10, 8, 7, 4] ?_; refine Zak ?_; refine Zba ?_
        refine Zaj (.inr rfl) (.cell rfl (by repeat first | exact List.Mem.head _ | refine List.Mem.tail _ ?_ | refine List.mem_append_right _ ?_) F.lay26 rfl rfl (.tmp rfl .nil)) (fun w hw => ?_)
        have hdn : db = false ∨ t_l = [] := by first | exact .inl (by assumption) | exact .inl (by have h9 : (!db) = true := (by assumption); simpa using h9) | exact .inr (List.eq_nil_of_length_eq_zero (by omega))
        have hreq : requestR (ServerV.pl ⟨Zaf, Zx, ⟨Zr, Zq, Zh⟩, ⟨Zp, Zo, Zg⟩, Zw⟩) l_l r (ParcelV.pl ⟨Zbx, Zbm, Zbr, ⟨Zv, Zao, Zap, Zy, Zbc⟩, ⟨Zab, Zt, Zae, Zad⟩, Zbd, ⟨Zs, Zai, Zah, ⟨Zn, Zm, Zk⟩⟩⟩) = (⟨Zaf, Zx, Q1, wtl Zg, Zw⟩, [replyR (ServerV.pl ⟨Zaf, Zx, ⟨Zr, Zq, Zh⟩, ⟨Zp, Zo, Zg⟩, Zw⟩) Zv Zao ⟨da1, da2, da3, da4⟩]) := req_done (s := ServerV.pl ⟨Zaf, Zx, ⟨Zr, Zq, Zh⟩, ⟨Zp, Zo, Zg⟩, Zw⟩) (l := l_l) (r := r) (p := ParcelV.pl ⟨Zbx, Zbm, Zbr, ⟨Zv, Zao, Zap, Zy, Zbc⟩, ⟨Zab, Zt, Zae, Zad⟩, Zbd, ⟨Zs, Zai, Zah, ⟨Zn, Zm, Zk⟩⟩⟩) (by show (l_l.getD (ownerI l_l Zbr) ⟨0, 0⟩).addr = Zaf; rw [hog, List.getD_eq_getElem?_getD, List.getElem?_eq_getElem ho9]; show l_l[o9].addr = Zaf; first | assumption | omega) hnf (by assumption) (show (doC (findP (pls Zh) Zbr).1 (⟨Zv, Zao, Zap, Zy, Zbc⟩ : OpV)) = _ from hD) hQ (by assumption) ht hdn
        rw [hreq]
        exact ⟨_, M8, rfl, hm1.trans (hm2.trans (hm3.trans hm8)), hw.c, ⟨Zaf, Zx, ⟨u_a, u_c, u_l⟩, ⟨Zp, Zo, Zg⟩, Zw⟩, ⟨z_a, z_c, z_l⟩, rfl, (by show Srv.mk _ _ (pls u_l) _ _ = Srv.mk _ _ Q1 _ _; rw [hu]), hz, ⟨k_u.mono (by (repeat first | assumption | refine Mem.le.trans (by assumption) ?_)), fun h hh => (l_u h hh).mono (by (repeat first | assumption | refine Mem.le.trans (by assumption) ?_)), Zbz.mono (by (repeat first | assumption | refine Mem.le.trans (by assumption) ?_)), fun h hh => (Zdp h hh).mono (by (repeat first | assumption | refine Mem.le.trans (by assumption) ?_))⟩, k_z, o_z⟩
       ·replace hc17 := dF hc17
        refine Zax ?_; refine Zc ?_; refine Y_pk [23, 18, 10, 9, 8, 7, 4] ?_; refine Zj ?_; refine Za (l := [0, 1, 2, 3, 4]) rfl ?_; refine Zb F.foff26_4 ?_; refine Zi F.lay22 ?_; refine Zcc rfl rfl rfl rfl rfl (by exact wrap_u64 _) rfl ?_
        obtain ⟨v9, hv9⟩ : ∃ v, w64 (Zw + 1) = v := ⟨_, rfl⟩
        refine Zgq 138 rfl (show _ = Value.int .u64 v9 from congrArg (Value.int .u64) hv9) ?_; refine Zb F.foff26_4 ?_; refine Zas F.lay22 ?_; refine Ze ?_; refine Zc ?_; refine Y_pk [23, 18, 10, 9, 8, 7, 4] ?_; refine Zj ?_; refine Za (l := [0, 1, 2, 3, 4, 5, 6, 7, 8, 9, 10, 11, 12, 13, 14, 15]) rfl ?_; refine Zb F.foff26_3 ?_; refine Zi F.lay24 ?_; refine Zb F.foff39_2 ?_; refine Zi F.lay29 ?_; refine Zb F.foff31_0 ?_; refine Zi F.lay3 ?_; refine Zb F.foff31_1 ?_; refine Zi F.lay22 ?_; refine Zi F.lay34 ?_; refine Zb F.foff26_4 ?_; refine Zi F.lay22 ?_; refine Zf ?_; refine Zbv rfl rfl F.bld54 (.cons rfl (by constructor) (.cons rfl (by constructor) (.cons rfl (by constructor) (.cons rfl (by constructor) (.cons rfl (by constructor) (.cons rfl (by constructor) .nil)))))) rfl rfl ?_
        refine X_fn rfl rfl F.ok74 rfl (rwait_ok _ ⟨Zp, Zo, Zg⟩ (⟨Zbr, Zv, Zao, ⟨da1, da2, da3, da4⟩, v9, ⟨t_a, t_c, t_l⟩⟩ : WaitV) (Zbz.mono (hm1.trans (hm2.trans hm3))) (fun h hh => (Zdp h hh).mono (hm1.trans (hm2.trans hm3))) ⟨k_t⟩ hb) rfl ?_
        rintro _ M4 hm4 ⟨⟨q_a, q_c, q_l⟩, rfl, hq, k_q, l_q⟩
        simp only at hq l_q
        refine Zb F.foff26_3 ?_; refine Zas F.lay24 ?_; refine Ze ?_; refine Zc ?_; refine Y_pk [23, 9, 8, 7, 4] ?_; refine Zj ?_; refine Zar (l := [0, 1, 2, 3, 4, 5, 6, 7, 8, 9]) #[0, 0, 0, 4, 0, 16, 0, 126, 255, 511] _ rfl (by kernel_rfl) (by kernel_rfl) St.drawn (fun _ h => h) ?_
        iterate 2 refine Zi F.lay26 ?_
        refine Zb F.foff39_2 ?_; refine Zi F.lay29 ?_; refine Zb F.foff26_4 ?_; refine Zi F.lay22 ?_; refine Zf ?_; refine X_fn rfl rfl F.ok71 rfl (rcopies_ok _ ⟨Zaf, Zx, ⟨u_a, u_c, u_l⟩, ⟨q_a, q_c, q_l⟩, v9⟩ Zbr v9 ⟨t_a, t_c, t_l⟩ ⟨k_u.mono (by (repeat first | assumption | refine Mem.le.trans (by assumption) ?_)), fun h hh => (l_u h hh).mono (by (repeat first | assumption | refine Mem.le.trans (by assumption) ?_)), k_q.mono (by exact Mem.le.refl _), fun h hh => (l_q h hh).mono (by exact Mem.le.refl _)⟩ (k_t.mono (by assumption)) (by show t_l.length ≤ 1000; omega)) rfl ?_
        rintro _ M8 hm8 ⟨⟨z_a, z_c, z_l⟩, rfl, hz, k_z, o_z⟩
        refine Zas F.lay26 ?_; refine Zd ?_; refine Ze ?_; refine Zc ?_; refine Y_pk [9, 8] ?_; refine Zak ?_
        refine Zaj (.inr rfl) (.cell rfl (by repeat first | exact List.Mem.head _ | refine List.Mem.tail _ ?_ | refine List.mem_append_right _ ?_) F.lay26 rfl rfl (.tmp rfl .nil)) (fun w hw => ?_)
        have hdn : ¬ (db = false ∨ t_l = []) := by
         rintro (h9 | h9)
         ·(have h8 : (!db) = false := (by assumption); rw [h9] at h8; cases h8)
         ·have h7 := congrArg List.length h9
          simp only [List.length_nil] at h7
          omega
        have hreq : requestR (ServerV.pl ⟨Zaf, Zx, ⟨Zr, Zq, Zh⟩, ⟨Zp, Zo, Zg⟩, Zw⟩) l_l r (ParcelV.pl ⟨Zbx, Zbm, Zbr, ⟨Zv, Zao, Zap, Zy, Zbc⟩, ⟨Zab, Zt, Zae, Zad⟩, Zbd, ⟨Zs, Zai, Zah, ⟨Zn, Zm, Zk⟩⟩⟩) = (⟨Zaf, Zx, Q1, wtl q_l, v9⟩, copiesP ⟨Zaf, Zx, Q1, wtl q_l, v9⟩ Zbr v9 t_l) := req_more (s := ServerV.pl ⟨Zaf, Zx, ⟨Zr, Zq, Zh⟩, ⟨Zp, Zo, Zg⟩, Zw⟩) (l := l_l) (r := r) (p := ParcelV.pl ⟨Zbx, Zbm, Zbr, ⟨Zv, Zao, Zap, Zy, Zbc⟩, ⟨Zab, Zt, Zae, Zad⟩, Zbd, ⟨Zs, Zai, Zah, ⟨Zn, Zm, Zk⟩⟩⟩) (by show (l_l.getD (ownerI l_l Zbr) ⟨0, 0⟩).addr = Zaf; rw [hog, List.getD_eq_getElem?_getD, List.getElem?_eq_getElem ho9]; show l_l[o9].addr = Zaf; first | assumption | omega) hnf (by assumption) (show (doC (findP (pls Zh) Zbr).1 (⟨Zv, Zao, Zap, Zy, Zbc⟩ : OpV)) = _ from hD) hQ (by assumption) ht hdn hv9 hq
        rw [hreq]
        exact ⟨_, M8, rfl, hm1.trans (hm2.trans (hm3.trans (hm4.trans hm8))), hw.c, ⟨Zaf, Zx, ⟨u_a, u_c, u_l⟩, ⟨q_a, q_c, q_l⟩, v9⟩, ⟨z_a, z_c, z_l⟩, rfl, (by show Srv.mk _ _ (pls u_l) _ _ = Srv.mk _ _ Q1 _ _; rw [hu]), (by rw [← hu]; exact hz), ⟨k_u.mono (by (repeat first | assumption | refine Mem.le.trans (by assumption) ?_)), fun h hh => (l_u h hh).mono (by (repeat first | assumption | refine Mem.le.trans (by assumption) ?_)), k_q.mono (by assumption), fun h hh => (l_q h hh).mono (by assumption)⟩, k_z, o_z⟩
end Go.Proofs.YtpkeilhilpogiaaGreat
namespace Go.Esp
end Go.Esp
namespace Go.Proofs.YtpkeilhilpogiaaGreat
open Go.Esp
theorem F.foff67_0 : foff Tryz.prog 67 0 = some 0 := by kernel_rfl
theorem F.foff67_3 : foff Tryz.prog 67 3 = some 7 := by kernel_rfl
theorem F.lay43 : lay Tryz.prog 43 = some (false, 1) := by kernel_rfl
theorem send_ok (M : Mem) (bw : Nat) (Zaf Zx Zw r : Int) (Zr Zp l_a o_a : Option Addr) (Zq Zo l_c o_c : Nat) (Zh : List HeldV) (Zg : List WaitV) (l_l : List PeerV) (o_l : List PostV) (ho : Hp) (hO : OSl 51 37 (.slice o_a o_l.length o_c) ho (o_l.map PostV.segs)) (hL : o_l.length ≤ 100000) (to : Int) (p : ParcelV) : Fh Tryz.prog 61 [.pointer (some ⟨bw, 0, none⟩), .int .i64 to, p.enc] M ((bw, rowO (WorkerV.segs ⟨⟨Zaf, Zx, ⟨Zr, Zq, Zh⟩, ⟨Zp, Zo, Zg⟩, Zw⟩, ⟨l_a, l_c, l_l⟩, r, ⟨o_a, o_c, o_l⟩⟩) 67) :: ho) (fun M' v Hout => M' = M ∧ v = .tuple #[] ∧ ∃ (o9 : Sl PostV) (ho9 : Hp), Hout = (bw, rowO (WorkerV.segs ⟨⟨Zaf, Zx, ⟨Zr, Zq, Zh⟩, ⟨Zp, Zo, Zg⟩, Zw⟩, ⟨l_a, l_c, l_l⟩, r, o9⟩) 67) :: ho9 ∧ OSl 51 37 o9.val ho9 (o9.l.map PostV.segs) ∧ o9.l = o_l ++ [⟨to, { p with epoch := Zx }⟩]) := by
  obtain ⟨Zbx, Zbm, Zbr, ⟨Zv, Zao, Zap, Zy, Zbc⟩, ⟨Zab, Zt, Zae, Zad⟩, Zbd, ⟨Zs, Zai, Zah, ⟨Zn, Zm, Zk⟩⟩⟩ := p
  refine Zex (fun H => (bw, rowO (WorkerV.segs ⟨⟨Zaf, Zx, ⟨Zr, Zq, Zh⟩, ⟨Zp, Zo, Zg⟩, Zw⟩, ⟨l_a, l_c, l_l⟩, r, ⟨o_a, o_c, o_l⟩⟩) 67) :: (ho ++ H)) (fun _ => by simp only [List.append_assoc, List.cons_append, List.nil_append]) Tryz.func61 rfl Tryz.ntmps61 rfl ?_; intro H
  refine Zj ?_; refine Za (l := [0]) rfl ?_
  refine Zcz ?_; intro b1
  refine Ze ?_; refine Zc ?_; refine Y_pk [5, 0, 1] ?_; refine Zj ?_; refine Za (l := [0, 1, 2, 3, 4, 5, 6]) rfl ?_; refine Zf ?_; refine Zco ?_; refine Zb F.foff67_0 ?_; refine Zb F.foff26_1 ?_; refine Zi F.lay22 ?_; refine Zb F.foff39_1 ?_; refine Zas F.lay22 ?_; refine Ze ?_; refine Zc ?_; refine Y_pk [5, 0, 1] ?_; refine Zar (l := [0, 1, 2, 3, 4, 5, 6, 7, 8, 9, 10, 11, 12]) #[0, 0, 2, 6, 14, 0, 0, 96, 224, 510, 1023, 2047, 4095] _ rfl (by kernel_rfl) (by kernel_rfl) St.drawn (fun _ h => h) ?_
  iterate 2 refine Zf ?_
  refine Zco ?_; refine Zb F.foff67_3 ?_; refine Zi F.lay43 ?_; refine Zf ?_; refine Zi F.lay39 ?_; refine Zbv rfl rfl F.bld51 (.cons rfl (by constructor) (.cons rfl (by constructor) .nil)) rfl rfl ?_
  refine Zbt rfl rfl F.elem43 F.zero51 rfl rfl (.cons rfl (by constructor) .nil) rfl rfl (by simp only [List.map_cons, List.map_nil] <;> rfl) rfl ?_; intro b2 hob3
  refine Zdn (m := 1000000) rfl rfl rfl rfl rfl F.elem43 F.zero51 (by exact Zei rfl) rfl (by assumption) (by repeat first | exact Rem.here _ | exact Rem.two | apply Rem.skip | apply Rem.over) (Src.own hob3.lens (by (refine Zdy ?_; (repeat (first | exact Zbp | refine Zcb ?_ | (refine Zam ?_ ?_; rfl))); done)) rfl (by repeat first | exact List.Mem.head _ | refine List.Mem.tail _ ?_ | refine List.mem_append_right _ ?_)) (by (simp; omega)) (by decide) rfl ?_; intro v6 hs5 ho4; obtain ⟨adv6, cpv6, rfl⟩ := ho4.valAt (n := o_l.length + 1) (by (simp; done))
  refine Zco ?_; refine Zb F.foff67_3 ?_; refine Zas F.lay43 ?_; refine Ze ?_
  refine Zaj (.inl rfl) (.nil) (fun w hw => ?_)
  have h9 := ho4
  have hln : o_l.length + 1 = (o_l ++ [(⟨to, ⟨Zbx, Zx, Zbr, ⟨Zv, Zao, Zap, Zy, Zbc⟩, ⟨Zab, Zt, Zae, Zad⟩, Zbd, ⟨Zs, Zai, Zah, ⟨Zn, Zm, Zk⟩⟩⟩⟩ : PostV)]).length := by rw [List.length_append]; rfl
  rw [hln] at hw h9
  refine ⟨_, M, (bw, rowO (WorkerV.segs ⟨⟨Zaf, Zx, ⟨Zr, Zq, Zh⟩, ⟨Zp, Zo, Zg⟩, Zw⟩, ⟨l_a, l_c, l_l⟩, r, (⟨adv6, cpv6, o_l ++ [(⟨to, ⟨Zbx, Zx, Zbr, ⟨Zv, Zao, Zap, Zy, Zbc⟩, ⟨Zab, Zt, Zae, Zad⟩, Zbd, ⟨Zs, Zai, Zah, ⟨Zn, Zm, Zk⟩⟩⟩⟩ : PostV)]⟩ : Sl PostV)⟩) 67) :: hs5, rfl, Mem.le.refl M, ?_, rfl, rfl, (⟨adv6, cpv6, o_l ++ [(⟨to, ⟨Zbx, Zx, Zbr, ⟨Zv, Zao, Zap, Zy, Zbc⟩, ⟨Zab, Zt, Zae, Zad⟩, Zbd, ⟨Zs, Zai, Zah, ⟨Zn, Zm, Zk⟩⟩⟩⟩ : PostV)]⟩ : Sl PostV), hs5, rfl, ?_, rfl⟩
  ·simp only [WorkerV.segs, Sl.val] at hw ⊢
   exact hw.c
  ·exact OSl.as9 h9 (by rw [List.map_append]; rfl)
end Go.Proofs.YtpkeilhilpogiaaGreat
namespace Go.Esp
section
variable {P : Program} {ops : Array Oper} {Q : Exit → Act → World → Prop} {M M' : Mem} {H H' H0 : Hp} {e : Env}
theorem Zdg {m : Nat} {ds : List Deferred} {ro : Option Nat} {id : Nat} {l : List Nat} (ws : List Nat) (hl : List.range ops.size = l) (h : XD P ⟨m, ds, ro, ws⟩ ops Q l (St M H) ⟨M, H⟩ e) : C P ⟨m, ds, ro, []⟩ (.region id ops false) Q (St M H) e :=
  fun a w ha hw => wpIn_region (wpOps_of_WD _ (St M H) ⟨M, H⟩ a w (fun _ h => h) hw (hl ▸ h (fun _ h => h) a ⟨ha.size, ha.defers, ha.slot⟩))
theorem X_fhVW {n : Sh} {rest : List Nat} {J : World → Prop} {i : Nat} {dst : Option Tmp} {ty : TypeId} {pos : String} {af : Array Edge} {gd : Option (Nat × Bool)} {f : FuncId} {g : Operand} {xs : List Operand} {ats : Array TypeId} {vs caps : List Value} {Hin Hr : Hp} {R : Mem → Value → Hp → Prop} (hi : ops[i]? = some ⟨dst, .call ⟨.value g, xs.toArray, ats⟩, ty, pos, af, gd⟩) (hcl : clOf P (.call ⟨.value g, xs.toArray, ats⟩) = .eff) (hws : n.wrs.contains i = true) (hg : want ops e gd = some true)
    (hf : okFn P f = true) (hgv : ev e g = some (.func (.func f) #[] caps.toArray)) (hx : evs e xs = some vs) (hc : Fh P f (vs ++ caps) M Hin R) (hH : Rem Hin H Hr)
    (hd : ∀ a v, Sat n e a → Sat n (putE dst v e) (a.put dst v))
    (hk : ∀ v M' Hout, M.le M' → R M' v Hout → XD P n ops Q rest (St M' (Hout ++ Hr)) ⟨M', Hout ++ Hr⟩ (putE dst v e)) : XD P n ops Q (i :: rest) J ⟨M, H⟩ e := by
  obtain ⟨fn, h1, h2, h3⟩ := Zft hf
  refine X_mutW hi hcl hws hg (fun a w ha hw => does_callV h1 h2 h3 (ha.ev hgv) (by simpa using ha.evs hx) ?_)
  exact (hc Hr w (hw.perm hH.perm)).mono fun e' w' ⟨v, M', Hout, he, hm, hs, hr⟩ => ⟨v, he, ⟨M', Hout ++ Hr⟩, _, hs, hd a v ha, hk v M' Hout hm hr⟩
end
end Go.Esp
namespace Go.Esp
abbrev IntV := Int
theorem IntV.flat (x : Int) : Esp.flat (oneI .i64 x) := Zam rfl Zbp
def kept {α : Type} (p : α → Bool) (l : List α) : List α := l.filter (fun x => !p x)
theorem kept_none {α : Type} {p : α → Bool} {l : List α} (h : idxF p l = -1) : kept p l = l := by
  unfold idxF at h
  split at h
  · rename_i h1; omega
  · rename_i h1
    unfold kept
    rw [List.filter_eq_self]
    intro x hx
    simp at h1
    simp [h1 x hx]
theorem idxF_some {α : Type} {p : α → Bool} {l : List α} (h : idxF p l ≠ -1) : ∃ i, idxF p l = (i : Nat) ∧ ∃ hi : i < l.length, kept p (l.take (i + 1)) = l.take i ∧ p l[i] = true := by
  unfold idxF at h ⊢
  split
  · rename_i h1
    have hi : l.findIdx p < l.length := List.findIdx_lt_length_of_exists (by simpa using h1)
    refine ⟨l.findIdx p, rfl, hi, ?_, List.findIdx_getElem (w := hi)⟩
    unfold kept
    rw [List.take_add_one, List.getElem?_eq_getElem hi, List.filter_append]
    have e1 : (l.take (l.findIdx p)).filter (fun x => !p x) = l.take (l.findIdx p) := by
      rw [List.filter_eq_self]
      intro x hx
      obtain ⟨j, hj, rfl⟩ := List.mem_take_iff_getElem.1 hx
      have := List.not_of_lt_findIdx (p := p) (xs := l) (i := j) (by omega)
      simp [this]
    have e2 : p (l[l.findIdx p]) = true := List.findIdx_getElem (w := hi)
    rw [e1]; simp [e2]
  · rename_i h1; rw [if_neg h1] at h; exact (h rfl).elim
theorem filt_step {α : Type} {p : α → Bool} {l : List α} {j : Nat} (hj : j < l.length) : kept p (l.take (j + 1)) = if p l[j] then kept p (l.take j) else kept p (l.take j) ++ [l[j]] := by
  unfold kept
  rw [List.take_add_one, List.getElem?_eq_getElem hj, List.filter_append]
  cases h : p l[j] <;> simp [h]
theorem keep_put {α : Type} {w l : List α} {i j : Nat} {q : List α} (hw : w.length = l.length) (hij : i < j) (hj : j < l.length) (h1 : w.take i = q) (h2 : w.drop j = l.drop j) : (w.set i l[j]).length = l.length ∧ (w.set i l[j]).take (i + 1) = q ++ [l[j]] ∧ (w.set i l[j]).drop (j + 1) = l.drop (j + 1) := by
  refine ⟨by simpa using hw, ?_, ?_⟩
  · rw [List.take_add_one, List.getElem?_set_self (by omega), List.take_set_of_le (Nat.le_refl i), h1]; rfl
  · rw [List.drop_set_of_lt (by omega)]
    have := congrArg (List.drop 1) h2
    simpa [List.drop_drop] using this
theorem drop_at {α : Type} {w l : List α} {j : Nat} (hw : w.length = l.length) (hj : j < l.length) (h2 : w.drop j = l.drop j) : w[j]'(by omega) = l[j] := by
  have e1 := List.drop_eq_getElem_cons (l := w) (i := j) (by omega)
  have e2 := List.drop_eq_getElem_cons (l := l) (i := j) hj
  rw [e1, e2] at h2
  exact (List.cons.inj h2).1
theorem turn_step {α : Type} {w l : List α} {f : α → α} {k : Nat} (hw : w.length = l.length) (hk : k < l.length) (h1 : w.take k = (l.take k).map f) (h2 : w.drop k = l.drop k) {x : α} (hx : x = f l[k]) :
    (w.set k x).length = l.length ∧ (w.set k x).take (k + 1) = (l.take (k + 1)).map f ∧ (w.set k x).drop (k + 1) = l.drop (k + 1) := by
  refine ⟨by simpa using hw, ?_, ?_⟩
  · rw [List.take_add_one, List.getElem?_set_self (by omega), List.take_set_of_le (Nat.le_refl k), h1, List.take_add_one, List.getElem?_eq_getElem hk, List.map_append, hx]; rfl
  · rw [List.drop_set_of_lt (by omega)]
    have := congrArg (List.drop 1) h2
    simpa [List.drop_drop] using this
theorem turn_stay {α : Type} {w l : List α} {f : α → α} {k : Nat} (hw : w.length = l.length) (hk : k < l.length) (h1 : w.take k = (l.take k).map f) (h2 : w.drop k = l.drop k) (hx : l[k] = f l[k]) :
    w.take (k + 1) = (l.take (k + 1)).map f ∧ w.drop (k + 1) = l.drop (k + 1) := by
  constructor
  · rw [List.take_add_one, List.getElem?_eq_getElem (by omega), drop_at hw hk h2, h1, List.take_add_one, List.getElem?_eq_getElem hk, List.map_append]
    simp [← hx]
  · have := congrArg (List.drop 1) h2
    simpa [List.drop_drop] using this
end Go.Esp
namespace Go.Esp
def wtC (key : Plc) (w : WaitV) : Int := thanI w.key key
theorem wts_at {l : List WaitV} (h : WtsOk (wtl l)) {i j : Nat} (hi : i < l.length) (hj : j < l.length) (hij : i < j) : LessP l[i].key l[j].key := by
  have h9 := (List.pairwise_iff_getElem.1 h.2) i j (by rw [Zcs]; exact hi) (by rw [Zcs]; exact hj) hij
  rw [Zgi hi, Zgi hj] at h9
  exact h9
theorem wtC_mono {l : List WaitV} (h : WtsOk (wtl l)) (key : Plc) (i j : Nat) (hi : i < l.length) (hj : j < l.length) (hij : i ≤ j) (h0 : 0 ≤ wtC key l[i]) : 0 ≤ wtC key l[j] := by
  rcases Nat.lt_or_ge i j with h1 | h1
  · have h2 := wts_at h hi hj h1
    have h3 := than_nn.1 h0
    exact than_nn.2 fun h4 => h3 (Nat.lt_trans h2 h4)
  · have e : i = j := by omega
    subst e; exact h0
theorem wt_find {l : List WaitV} (h : WtsOk (wtl l)) (key : Plc) :
    bsAt (wtC key) l ≤ l.length ∧ (∀ j (hj : j < l.length), j < bsAt (wtC key) l → LessP l[j].key key) ∧ (∀ hj : bsAt (wtC key) l < l.length, ¬ LessP l[bsAt (wtC key) l].key key) ∧
    (bsIs (wtC key) l = true → ∃ hj : bsAt (wtC key) l < l.length, l[bsAt (wtC key) l].key = key ∧ (wtl l).find? (fun w => decide (w.key = key)) = some (WaitV.pl l[bsAt (wtC key) l])) ∧
    (bsIs (wtC key) l = false → (wtl l).find? (fun w => decide (w.key = key)) = none) := by
  obtain ⟨h1, h2, h3⟩ := firstP_spec (bsP (wtC key) l) l.length
  have hb : bsAt (wtC key) l = firstP (bsP (wtC key) l) l.length := rfl
  rw [← hb] at h1 h2 h3
  generalize hk : bsAt (wtC key) l = k at h1 h2 h3 ⊢
  have g2 : ∀ j (hj : j < l.length), j < k → LessP l[j].key key := fun j hj hjk => by
    have h4 := h2 j hjk
    rw [bsP_at hj] at h4
    by_cases h5 : LessP l[j].key key
    · exact h5
    · exact absurd (than_nn.2 h5) (of_decide_eq_false h4)
  have g3 : ∀ hj : k < l.length, ¬ LessP l[k].key key := fun hj => by
    have h4 := h3 hj
    rw [bsP_at hj] at h4
    exact than_nn.1 (of_decide_eq_true h4)
  refine ⟨h1, g2, g3, fun hi => ?_, fun hi => ?_⟩
  · rcases Nat.lt_or_ge k l.length with hj | hj
    · rw [bsIs_lt hk hj] at hi
      have he := than_zero.1 (of_decide_eq_true hi)
      refine ⟨hj, he, ?_⟩
      rw [List.find?_eq_some_iff_getElem]
      refine ⟨decide_eq_true he, k, by rw [Zcs]; exact hj, Zgi hj, fun j hjk => ?_⟩
      have hjl : j < l.length := by omega
      rw [Zgi hjl]
      have h6 := g2 j hjl hjk
      simp only [Bool.not_eq_true', decide_eq_false_iff_not]
      intro h7
      replace h7 : l[j].key = key := h7
      rw [h7] at h6
      exact Nat.lt_irrefl _ h6
    · rw [bsIs_ge hk (by omega)] at hi; cases hi
  · rw [List.find?_eq_none]
    intro x hx
    obtain ⟨y, hy, rfl⟩ := List.mem_map.1 hx
    obtain ⟨j, hj, rfl⟩ := List.getElem_of_mem hy
    simp only [decide_eq_true_eq]
    intro h7
    replace h7 : l[j].key = key := h7
    rcases Nat.lt_trichotomy j k with h8 | h8 | h8
    · have h6 := g2 j hj h8
      rw [h7] at h6
      exact Nat.lt_irrefl _ h6
    · subst h8
      rw [bsIs_lt hk hj] at hi
      exact of_decide_eq_false hi (than_zero.2 h7)
    · have hkl : k < l.length := by omega
      have h6 := wts_at h hkl hj h8
      rw [h7] at h6
      exact g3 hkl h6
theorem fh_of_fo {P : Program} {f : FuncId} {vs : List Value} {M : Mem} {Hin : Hp} {R : Mem → Value → Prop} (h : Fo P f vs M Hin R) : Fh P f vs M Hin (fun M' v Hout => R M' v ∧ Hout = Hin) := fun H w hw =>
  (h H w hw).mono fun _ _ ⟨v, M', he, hm, hs, hr⟩ => ⟨v, M', Hin, he, hm, hs, hr, rfl⟩
theorem fh_weak {P : Program} {f : FuncId} {vs : List Value} {M : Mem} {Hin : Hp} {R R' : Mem → Value → Hp → Prop} (h : Fh P f vs M Hin R) (hr : ∀ M' v Hout, R M' v Hout → R' M' v Hout) : Fh P f vs M Hin R' := fun H w hw =>
  (h H w hw).mono fun _ _ ⟨v, M', Ho, he, hm, hs, h9⟩ => ⟨v, M', Ho, he, hm, hs, hr _ _ _ h9⟩
theorem kept_not {n : Int} {l : List Int} : kept (fun x : IntV => decide (x = n)) l = l.filter (notI n) := by
  unfold kept
  congr 1
  funext x
  simp [notI]
def doneV (ep frm serial : Int) (w : WaitV) : Option PostV := if w.serial = serial ∧ lessN w.pl frm = [] then some ⟨1000 + w.client, ⟨2, ep, 0, ⟨w.client, w.req, 0, 0, ⟨#[]⟩⟩, w.answer, 0, CellV.zero⟩⟩ else none
theorem doneV_pl {s : Srv} {frm serial : Int} {w : WaitV} : (doneV s.epoch frm serial w).map PostV.pl = done1 s frm serial w.pl := by
  unfold doneV done1
  by_cases h : w.serial = serial ∧ lessN w.pl frm = []
  · rw [if_pos h, if_pos (show w.pl.serial = serial ∧ lessN w.pl frm = [] from h)]; rfl
  · rw [if_neg h, if_neg (show ¬ (w.pl.serial = serial ∧ lessN w.pl frm = []) from h)]; rfl
theorem doneV_all {s : Srv} {frm serial : Int} : ∀ {l : List WaitV}, pstl (l.filterMap (doneV s.epoch frm serial)) = (wtl l).filterMap (done1 s frm serial)
  | [] => rfl
  | w :: l => by
    have h := doneV_pl (s := s) (frm := frm) (serial := serial) (w := w)
    show pstl ((w :: l).filterMap _) = (w.pl :: wtl l).filterMap _
    rw [List.filterMap_cons, List.filterMap_cons, ← h]
    cases e : doneV s.epoch frm serial w with
    | none => exact doneV_all
    | some y =>
      show pstl (y :: _) = PostV.pl y :: _
      rw [← doneV_all (l := l)]
      rfl
def goneW (frm serial : Int) (w : WaitV) : Bool := decide (w.serial = serial ∧ lessN w.pl frm = [])
end Go.Esp
namespace Go.Proofs.YtpkeilhilpogiaaGreat
open Go.Esp
theorem F.ok19 : okFn Tryz.prog 19 = true := by kernel_rfl
theorem F.ok61 : okFn Tryz.prog 61 = true := by kernel_rfl
theorem reply_ok (M : Mem) (bw : Nat) (Zaf Zx Zw r : Int) (Zr Zp l_a o_a : Option Addr) (Zq Zo l_c o_c : Nat) (Zh : List HeldV) (Zg : List WaitV) (l_l : List PeerV) (o_l : List PostV) (ho : Hp) (hO : OSl 51 37 (.slice o_a o_l.length o_c) ho (o_l.map PostV.segs)) (hL : o_l.length ≤ 90000) (client req : Int) (a : AnswerV) (hcl : 0 ≤ client ∧ client ≤ 63) : Fh Tryz.prog 54 [.pointer (some ⟨bw, 0, none⟩), .int .i64 client, .int .u64 req, a.enc] M ((bw, rowO (WorkerV.segs ⟨⟨Zaf, Zx, ⟨Zr, Zq, Zh⟩, ⟨Zp, Zo, Zg⟩, Zw⟩, ⟨l_a, l_c, l_l⟩, r, ⟨o_a, o_c, o_l⟩⟩) 67) :: ho) (fun M' v Hout => M' = M ∧ v = .tuple #[] ∧ ∃ (o9 : Sl PostV) (ho9 : Hp), Hout = (bw, rowO (WorkerV.segs ⟨⟨Zaf, Zx, ⟨Zr, Zq, Zh⟩, ⟨Zp, Zo, Zg⟩, Zw⟩, ⟨l_a, l_c, l_l⟩, r, o9⟩) 67) :: ho9 ∧ OSl 51 37 o9.val ho9 (o9.l.map PostV.segs) ∧ o9.l = o_l ++ [⟨1000 + client, ⟨2, Zx, 0, ⟨client, req, 0, 0, ⟨#[]⟩⟩, a, 0, CellV.zero⟩⟩]) := by
  obtain ⟨a_code, Zcw, Zfw, Zfv⟩ := a
  refine Zex (fun H => (bw, rowO (WorkerV.segs ⟨⟨Zaf, Zx, ⟨Zr, Zq, Zh⟩, ⟨Zp, Zo, Zg⟩, Zw⟩, ⟨l_a, l_c, l_l⟩, r, ⟨o_a, o_c, o_l⟩⟩) 67) :: (ho ++ H)) (fun _ => by simp only [List.append_assoc, List.cons_append, List.nil_append]) Tryz.func54 rfl Tryz.ntmps54 rfl ?_; intro H
  refine Zj ?_; refine Za (l := [0]) rfl ?_
  refine Zcz ?_; intro b1
  refine Ze ?_; refine Zc ?_; refine Y_pk [7, 0, 1, 2] ?_; refine Zdg (l := [0, 1, 2, 3, 4, 5, 6, 7, 8]) [8] rfl ?_
  iterate 2 refine Zf ?_
  refine Zcc rfl rfl rfl rfl rfl (by exact Zbf (by decide) (by omega)) rfl ?_
  iterate 2 refine Zf ?_
  refine Zbv rfl rfl F.bld31 (.cons rfl (by constructor) (.cons rfl (by constructor) .nil)) rfl rfl ?_; refine Zi F.lay34 ?_; refine Zbv rfl rfl F.bld39 (.cons rfl (by constructor) (.cons rfl (by constructor) (.cons rfl (by constructor) .nil))) rfl rfl ?_; refine Zgm rfl rfl rfl F.ok61 rfl (send_ok M bw Zaf Zx Zw r Zr Zp l_a o_a Zq Zo l_c o_c Zh Zg l_l o_l ho hO (by omega) (1000 + client) ⟨2, 0, 0, ⟨client, req, 0, 0, ⟨#[]⟩⟩, ⟨a_code, Zcw, Zfw, Zfv⟩, 0, CellV.zero⟩) (by repeat first | exact Rem.here _ | exact Rem.two | apply Rem.skip | apply Rem.over) (Zbq rfl) ?_
  rintro _ M1 hs1 hm1 ⟨hM1, rfl, ⟨o2_a, o2_c, o2_l⟩, ho2, rfl, hO2, ho2l⟩
  subst M1
  simp only at ho2l hO2
  simp only [List.append_assoc, List.cons_append, List.nil_append]
  refine Ze ?_; refine Zen ?_
  refine Zaj (.inl rfl) (.nil) (fun w hw => ?_)
  refine ⟨_, M, (bw, rowO (WorkerV.segs ⟨⟨Zaf, Zx, ⟨Zr, Zq, Zh⟩, ⟨Zp, Zo, Zg⟩, Zw⟩, ⟨l_a, l_c, l_l⟩, r, ⟨o2_a, o2_c, o2_l⟩⟩) 67) :: ho2, rfl, Mem.le.refl M, ?_, rfl, rfl, ⟨o2_a, o2_c, o2_l⟩, ho2, rfl, hO2, ho2l⟩
  ·simp only [WorkerV.segs, Sl.val] at hw ⊢
   exact hw.c
theorem copies_ok (M : Mem) (bw : Nat) (Zaf Zx Zw r : Int) (Zr Zp l_a o_a : Option Addr) (Zq Zo l_c o_c : Nat) (Zh : List HeldV) (Zg : List WaitV) (l_l : List PeerV) (o_l : List PostV) (ho : Hp) (hO : OSl 51 37 (.slice o_a o_l.length o_c) ho (o_l.map PostV.segs)) (hL : o_l.length ≤ 90000) (x : WaitV) (hb : x.need.l.length ≤ 1000) (k_x : SlK M (oneI .i64) 1 x.need) (hst : SlK M HeldV.segs 24 ⟨Zr, Zq, Zh⟩) (hsto : ∀ y ∈ Zh, HeldV.ok M y) : Fh Tryz.prog 55 [.pointer (some ⟨bw, 0, none⟩), x.enc] M ((bw, rowO (WorkerV.segs ⟨⟨Zaf, Zx, ⟨Zr, Zq, Zh⟩, ⟨Zp, Zo, Zg⟩, Zw⟩, ⟨l_a, l_c, l_l⟩, r, ⟨o_a, o_c, o_l⟩⟩) 67) :: ho) (fun M' v Hout => M' = M ∧ v = .tuple #[] ∧ ∃ (o9 : Sl PostV) (ho9 : Hp), Hout = (bw, rowO (WorkerV.segs ⟨⟨Zaf, Zx, ⟨Zr, Zq, Zh⟩, ⟨Zp, Zo, Zg⟩, Zw⟩, ⟨l_a, l_c, l_l⟩, r, o9⟩) 67) :: ho9 ∧ OSl 51 37 o9.val ho9 (o9.l.map PostV.segs) ∧ o9.l = o_l ++ x.need.l.map (fun t : Int => (⟨t, ⟨3, Zx, x.key, OpV.zero, AnswerV.zero, x.serial, (findX Zh x.key).1⟩⟩ : PostV))) := by
  obtain ⟨Zgp, Zgg, Zgx, ⟨Zej, Zdo, Zes, Zer⟩, Zey, ⟨Zgf, Zge, Zep⟩⟩ := x
  simp only at hb
  have s_x := k_x.h1
  simp only at s_x
  have n_x : (Zep.map (oneI .i64)).length = Zep.length := List.length_map ..
  refine Zex (fun H => (bw, rowO (WorkerV.segs ⟨⟨Zaf, Zx, ⟨Zr, Zq, Zh⟩, ⟨Zp, Zo, Zg⟩, Zw⟩, ⟨l_a, l_c, l_l⟩, r, ⟨o_a, o_c, o_l⟩⟩) 67) :: (ho ++ H)) (fun _ => by simp only [List.append_assoc, List.cons_append, List.nil_append]) Tryz.func55 rfl Tryz.ntmps55 rfl ?_; intro H
  refine Zj ?_; refine Za (l := [0]) rfl ?_
  refine Zcz ?_; intro b1
  refine Ze ?_; refine Zc ?_; refine Y_pk [3, 0] ?_; refine Zj ?_; refine Zar (l := [0, 1, 2, 3, 4, 5, 6, 7, 8, 9, 10, 11, 12, 13]) #[0, 1, 3, 7, 15, 0, 32, 127, 255, 511, 511, 0, 3071, 8191] _ rfl (by kernel_rfl) (by kernel_rfl) St.drawn (fun _ h => h) ?_; refine Zf ?_; refine Zco ?_; refine Zb F.foff67_0 ?_; refine Zb F.foff26_2 ?_; refine Zi F.lay23 ?_; refine Zb F.foff54_0 ?_; refine Zi F.lay29 ?_; refine X_fs rfl rfl F.ok19 rfl (Find_ok _ ⟨Zr, Zq, Zh⟩ Zgp hst hsto) rfl ?_
  rintro _ hv
  obtain ⟨⟨xc, xb⟩, hx⟩ : ∃ r, findX Zh Zgp = r := ⟨_, rfl⟩
  replace hv : _ = findXv (findX Zh Zgp) := hv
  rw [hx] at hv
  subst hv
  obtain ⟨c_v, c_h, c_s, ⟨c_a, c_c, c_l⟩⟩ := xc
  refine Zf ?_
  iterate 2 refine Zcf ?_
  refine Zby F.zero37 ?_; intro b2
  refine Zas F.lay37 ?_; refine Zd ?_; refine Ze ?_; refine Zc ?_; refine Y_pk [4, 3, 0] ?_; refine Zj ?_; refine Za (l := [0, 1, 2, 3]) rfl ?_; refine Zb F.foff54_5 ?_; refine Zi F.lay52 ?_; refine Zbb F.elem52 ?_; refine Zf ?_; refine Ze ?_; refine Zc ?_; refine Y_pk [22, 21, 20, 4, 3, 0] ?_; refine Zbe ?_; refine Y_pk [22, 21, 20, 4, 3, 0] ?_; refine Zeo (Hin := ((bw, rowO (WorkerV.segs ⟨⟨Zaf, Zx, ⟨Zr, Zq, Zh⟩, ⟨Zp, Zo, Zg⟩, Zw⟩, ⟨l_a, l_c, l_l⟩, r, ⟨o_a, o_c, o_l⟩⟩) 67) :: ho)) (.succ .zero) (by repeat first | exact Rem.here _ | exact Rem.two | apply Rem.skip | apply Rem.over) (fun (k : Nat) M1 h1 z => ∃ (o9 : Sl PostV) (ho9 : Hp), M1 = M ∧ z = [(22, .int .i64 (k : Int))] ∧ k ≤ Zep.length ∧ h1 = (bw, rowO (WorkerV.segs ⟨⟨Zaf, Zx, ⟨Zr, Zq, Zh⟩, ⟨Zp, Zo, Zg⟩, Zw⟩, ⟨l_a, l_c, l_l⟩, r, o9⟩) 67) :: ho9 ∧ OSl 51 37 o9.val ho9 (o9.l.map PostV.segs) ∧ o9.l = o_l ++ (Zep.take k).map (fun t : Int => (⟨t, ⟨3, Zx, Zgp, OpV.zero, AnswerV.zero, Zey, ⟨c_v, c_h, c_s, ⟨c_a, c_c, c_l⟩⟩⟩⟩ : PostV))) (fun k => Zep.length - k) (0) (⟨⟨o_a, o_c, o_l⟩, ho, rfl, rfl, by omega, rfl, hO, by simp⟩) ?_
  rintro k M1 h1 z hm1 ⟨⟨o3_a, o3_c, o3_l⟩, ho3, hM1, rfl, hk9, rfl, hO3, ho3l⟩
  subst M1
  simp only at ho3l hO3
  have hl3 : o3_l.length ≤ 91000 := by rw [ho3l, List.length_append, List.length_map, List.length_take]; omega
  simp only [List.append_assoc, List.cons_append, List.nil_append]
  refine Zj ?_; refine Za (l := [0]) rfl ?_; refine Zav ?_; refine Ze ?_; refine Zc ?_; refine Zj ?_
  refine Zau rfl (fun hc3 => ?_) (fun hc3 => ?_)
  ·replace hc3 := dT hc3
   refine Zax ?_; refine Zc ?_; refine Zj ?_; refine Zbe ?_; refine Zj ?_; refine Za (l := [0, 1, 2]) rfl ?_; refine Zaa rfl rfl rfl rfl F.elem52 (by rfl) (by omega) (by exact SlM.plain (by assumption) (by (simp; omega))) rfl ?_; refine Zay rfl rfl rfl (by assumption) (by exact Zbl (by omega)) F.lay3 rfl rfl rfl ?_; refine Zd ?_; refine Ze ?_; refine Zc ?_; refine Zdg (l := [0, 1, 2, 3, 4, 5, 6, 7, 8]) [8] rfl ?_
   iterate 2 refine Zf ?_
   refine Zb F.foff54_0 ?_; refine Zi F.lay29 ?_; refine Zb F.foff54_4 ?_; refine Zi F.lay22 ?_; refine Zi F.lay37 ?_; refine Zbv rfl rfl F.bld39 (.cons rfl (by constructor) (.cons rfl (by constructor) (.cons rfl (by constructor) (.cons rfl (by constructor) .nil)))) rfl rfl ?_; refine Zgm rfl rfl rfl F.ok61 rfl (send_ok M bw Zaf Zx Zw r Zr Zp l_a o3_a Zq Zo l_c o3_c Zh Zg l_l o3_l ho3 hO3 (by omega) Zep[k] ⟨3, 0, Zgp, OpV.zero, AnswerV.zero, Zey, ⟨c_v, c_h, c_s, ⟨c_a, c_c, c_l⟩⟩⟩) (by repeat first | exact Rem.here _ | exact Rem.two | apply Rem.skip | apply Rem.over) (Zbq rfl) ?_
   rintro _ M1 hs1 hm1 ⟨hM1, rfl, ⟨o2_a, o2_c, o2_l⟩, ho2, rfl, hO2, ho2l⟩
   subst M1
   simp only at ho2l hO2
   simp only [List.append_assoc, List.cons_append, List.nil_append]
   refine Ze ?_; refine Zen ?_; refine Zde ?_; refine Zc ?_; refine Y_pk [33, 32, 31, 30, 29, 28, 27, 26, 7, 25, 24, 23, 22, 21, 20, 4, 3, 0] ?_; refine Za (l := [0, 1]) rfl ?_; refine Zcc rfl rfl rfl rfl rfl (by exact Zbf (by decide) (by omega)) rfl ?_; refine Zf ?_; refine Ze ?_; refine Zcr (a' := [(22, _)]) (k + 1) ((bw, rowO (WorkerV.segs ⟨⟨Zaf, Zx, ⟨Zr, Zq, Zh⟩, ⟨Zp, Zo, Zg⟩, Zw⟩, ⟨l_a, l_c, l_l⟩, r, ⟨o2_a, o2_c, o2_l⟩⟩) 67) :: ho2) (.cons (k := 22) rfl (.cons (k := 21) rfl (.cons (k := 20) rfl (.cons (k := 4) rfl (.cons (k := 3) rfl (.cons (k := 0) rfl (.nil))))))) (by exact Mem.le.refl _) (fun w hw => by first | exact hw | exact hw.c) ?_ ?_
   ·refine ⟨⟨o2_a, o2_c, o2_l⟩, ho2, rfl, rfl, by omega, rfl, hO2, ?_⟩
    show o2_l = _
    rw [ho2l, ho3l, List.take_add_one, List.getElem?_eq_getElem (show k < Zep.length by omega), List.map_append, List.append_assoc]; rfl
   ·omega
  ·replace hc3 := dF hc3
   refine Zcm ?_
   iterate 2 refine Zcd ?_
   refine Zdl ?_
   refine Zaj (.inl rfl) (.nil) (fun w hw => ?_)
   obtain rfl : k = Zep.length := by omega
   rw [List.take_length] at ho3l
   refine ⟨_, M, (bw, rowO (WorkerV.segs ⟨⟨Zaf, Zx, ⟨Zr, Zq, Zh⟩, ⟨Zp, Zo, Zg⟩, Zw⟩, ⟨l_a, l_c, l_l⟩, r, ⟨o3_a, o3_c, o3_l⟩⟩) 67) :: ho3, rfl, Mem.le.refl M, ?_, rfl, rfl, ⟨o3_a, o3_c, o3_l⟩, ho3, rfl, hO3, ?_⟩
   ·simp only [WorkerV.segs, Sl.val] at hw ⊢
    exact hw.c
   ·show o3_l = _
    rw [ho3l, hx]
end Go.Proofs.YtpkeilhilpogiaaGreat
namespace Go.Proofs.YtpkeilhilpogiaaGreat
open Go.Esp
theorem F.ok88 : okFn Tryz.prog 88 = true := by kernel_rfl
theorem F.ok89 : okFn Tryz.prog 89 = true := by kernel_rfl
theorem F.ok90 : okFn Tryz.prog 90 = true := by kernel_rfl
theorem F.ok94 : okFn Tryz.prog 94 = true := by kernel_rfl
theorem put_ok9 (M : Mem) (bw : Nat) (Zaf Zx Zw r : Int) (Zr Zp l_a o_a : Option Addr) (Zq Zo l_c o_c : Nat) (Zh : List HeldV) (Zg : List WaitV) (l_l : List PeerV) (o_l : List PostV) (hst : SlK M HeldV.segs 24 ⟨Zr, Zq, Zh⟩) (hsto : ∀ y ∈ Zh, HeldV.ok M y) (key : Plc) (c : CellV) (okc : CellV.ok M c) : Fh Tryz.prog 57 [.pointer (some ⟨bw, 0, none⟩), aggV [idSeg key], c.enc] M [(bw, rowO (WorkerV.segs ⟨⟨Zaf, Zx, ⟨Zr, Zq, Zh⟩, ⟨Zp, Zo, Zg⟩, Zw⟩, ⟨l_a, l_c, l_l⟩, r, ⟨o_a, o_c, o_l⟩⟩) 67)] (fun M' v Hout => ∃ st : Sl HeldV, v = .bool (decide ((putR (pls Zh) key c.pl).2 = 0)) ∧ Hout = [(bw, rowO (WorkerV.segs ⟨⟨Zaf, Zx, st, ⟨Zp, Zo, Zg⟩, Zw⟩, ⟨l_a, l_c, l_l⟩, r, ⟨o_a, o_c, o_l⟩⟩) 67)] ∧ SlK M' HeldV.segs 24 st ∧ (∀ h ∈ st.l, HeldV.ok M' h) ∧ pls st.l = if (putR (pls Zh) key c.pl).2 = 0 then (putR (pls Zh) key c.pl).1 else pls Zh) := by
  obtain ⟨c_v, c_h, c_s, ⟨c_a, c_c, c_l⟩⟩ := c
  refine Zex (fun H => [(bw, rowO (WorkerV.segs ⟨⟨Zaf, Zx, ⟨Zr, Zq, Zh⟩, ⟨Zp, Zo, Zg⟩, Zw⟩, ⟨l_a, l_c, l_l⟩, r, ⟨o_a, o_c, o_l⟩⟩) 67)] ++ H) (fun _ => rfl) Tryz.func57 rfl Tryz.ntmps57 rfl ?_; intro H
  refine Zj ?_; refine Za (l := [0, 1, 2]) rfl ?_
  refine Zcz ?_; intro b1
  refine Zcz ?_; intro b2
  refine Zd ?_; refine Ze ?_; refine Zc ?_; refine Y_pk [6, 5, 4, 0] ?_; refine Zj ?_; refine Zar (l := [0, 1, 2, 3, 4, 5, 6, 7, 8, 9, 10, 11, 12]) #[0, 1, 3, 7, 15, 0, 0, 127, 255, 511, 511, 1023, 4095] _ rfl (by kernel_rfl) (by kernel_rfl) St.drawn (fun _ h => h) ?_; refine Zf ?_; refine Zco ?_; refine Zb F.foff67_0 ?_; refine Zb F.foff26_2 ?_; refine Zi F.lay23 ?_; refine Zi F.lay29 ?_; refine Zi F.lay37 ?_; refine X_fn rfl rfl F.ok94 rfl (Put_ok _ ⟨Zr, Zq, Zh⟩ key ⟨c_v, c_h, c_s, ⟨c_a, c_c, c_l⟩⟩ hst hsto okc) rfl ?_
  rintro _ M3 hm3 hv
  obtain ⟨⟨Q1, qe⟩, hQ⟩ : ∃ x, putR (pls Zh) key (CellV.pl ⟨c_v, c_h, c_s, ⟨c_a, c_c, c_l⟩⟩) = x := ⟨_, rfl⟩
  replace hv : StE _ _ (putR (pls Zh) key (CellV.pl ⟨c_v, c_h, c_s, ⟨c_a, c_c, c_l⟩⟩)) := hv
  rw [hQ] at hv
  obtain ⟨⟨u_a, u_c, u_l⟩, rfl, hu, k_u, l_u⟩ := hv
  simp only at hu l_u
  refine Zf ?_
  iterate 2 refine Zcf ?_
  iterate 2 refine Zd ?_
  refine Ze ?_; refine Zc ?_; refine Y_pk [8, 7, 6, 0] ?_
  iterate 2 refine Zj ?_
  refine Za (l := [0, 1]) rfl ?_; refine Zf ?_; refine Zav ?_; refine Ze ?_; refine Zc ?_; refine Y_pk [21, 8, 7, 6, 0] ?_
  refine Zau rfl (fun hc3 => ?_) (fun hc3 => ?_)
  ·replace hc3 := dT hc3
   simp only [AnswerV.eta, MarkV.eta, CellV.eta, HeldV.eta, WaitV.eta, ServerV.eta, PeerV.eta, OpV.eta, ParcelV.eta, PostV.eta, WorkerV.eta] at hc3
   refine Za (l := [0, 1, 2, 3, 4, 5]) rfl ?_
   iterate 2 refine Zf ?_
   refine Zco ?_; refine Zb F.foff67_0 ?_; refine Zb F.foff26_2 ?_; refine Zas F.lay23 ?_; refine Ze ?_; refine Zc ?_; refine Y_pk [8, 6] ?_; refine Zj ?_; refine Za (l := [0, 1, 2]) rfl ?_; refine Zf ?_; refine Zav ?_; refine Zd ?_; refine Ze ?_; refine Zc ?_; refine Y_pk [6] ?_; refine Zak ?_
   refine Zaj (.inr rfl) (.tmp rfl .nil) (fun w hw => ?_)
   refine ⟨_, M3, [(bw, rowO (WorkerV.segs ⟨⟨Zaf, Zx, ⟨u_a, u_c, u_l⟩, ⟨Zp, Zo, Zg⟩, Zw⟩, ⟨l_a, l_c, l_l⟩, r, ⟨o_a, o_c, o_l⟩⟩) 67)], rfl, hm3, ?_, ⟨u_a, u_c, u_l⟩, ?_, rfl, k_u, l_u, ?_⟩
   ·simp only [WorkerV.segs, Sl.val] at hw ⊢
    exact hw.c
   ·rw [hQ]
    rfl
   ·rw [hQ]
    rw [if_pos (by show qe = 0; first | assumption | omega)]
    exact hu
  ·replace hc3 := dF hc3
   simp only [AnswerV.eta, MarkV.eta, CellV.eta, HeldV.eta, WaitV.eta, ServerV.eta, PeerV.eta, OpV.eta, ParcelV.eta, PostV.eta, WorkerV.eta] at hc3
   refine Zax ?_; refine Zc ?_; refine Y_pk [8, 6] ?_; refine Zj ?_; refine Za (l := [0, 1, 2]) rfl ?_; refine Zf ?_; refine Zav ?_; refine Zd ?_; refine Ze ?_; refine Zc ?_; refine Y_pk [6] ?_; refine Zak ?_
   refine Zaj (.inr rfl) (.tmp rfl .nil) (fun w hw => ?_)
   refine ⟨_, M3, [(bw, rowO (WorkerV.segs ⟨⟨Zaf, Zx, ⟨Zr, Zq, Zh⟩, ⟨Zp, Zo, Zg⟩, Zw⟩, ⟨l_a, l_c, l_l⟩, r, ⟨o_a, o_c, o_l⟩⟩) 67)], rfl, hm3, ?_, ⟨Zr, Zq, Zh⟩, ?_, rfl, hst.mono hm3, fun h hh => (hsto h hh).mono hm3, ?_⟩
   ·simp only [WorkerV.segs, Sl.val] at hw ⊢
    exact hw.c
   ·rw [hQ]
    rfl
   ·rw [hQ]
    rw [if_neg (by show ¬ qe = 0; first | assumption | omega)]
theorem findw_ok (M : Mem) (w : WaitV) (key : Plc) (hw0 : WaitV.ok M w) : Fs Tryz.prog 89 [w.enc, aggV [idSeg key]] M (fun v => v = Value.int .i64 (thanI w.key key)) := by
  obtain ⟨Zev, Zbo, Zfh, ⟨Zat, Zaw, Zbn, Zaz⟩, Zcn, ⟨Zcl, Zck, Zac⟩⟩ := w
  have Zeq : SlK M (oneI .i64) 1 ⟨Zcl, Zck, Zac⟩ := hw0.h0
  have s_w_need : SlM M Zcl (Zac.map (oneI .i64)) 1 := Zeq.h1
  have n_w_need : (Zac.map (oneI .i64)).length = Zac.length := List.length_map ..
  have m_w_need : Zac.length ≤ 9223372036854775807 := Zeq.h2
  have c_w_need : Zac.length ≤ Zck := Zeq.h3
  refine Zci Tryz.func89 rfl Tryz.ntmps89 rfl ?_; intro H
  refine Zj ?_; refine Za (l := [0, 1, 2]) rfl ?_
  refine Zcz ?_; intro b1
  refine Zcz ?_; intro b2
  refine Zd ?_; refine Ze ?_; refine Zc ?_; refine Y_pk [4, 3, 2] ?_; refine Zj ?_; refine Za (l := [0, 1, 2, 3]) rfl ?_; refine Zi F.lay54 ?_; refine Zi F.lay29 ?_; refine X_fs rfl rfl F.ok90 rfl (than_ok _ ⟨_, _, _, ⟨_, _, _, _⟩, _, ⟨_, _, _⟩⟩ _ (by assumption)) rfl ?_
  rintro _ rfl
  refine Zd ?_; refine Ze ?_; refine Zc ?_; refine Y_pk [4] ?_; refine Zak ?_
  refine Zaj (.inr rfl) (.tmp rfl .nil) (fun w hw => ?_)
  refine ⟨_, rfl, (hw.c), ?_⟩
  clear hw
  rfl
theorem BSW_rd (M : Mem) (Hin : Hp) (l : Sl WaitV) (key : Plc) (gf : FuncId) (caps : List Value) (cmp : WaitV → Int) (hl : RdS M Hin l.a (l.l.map WaitV.segs) 28) (bl : l.l.length ≤ 1000000) (hok : okFn Tryz.prog gf = true) (hc : ∀ x ∈ l.l, Fo Tryz.prog gf ([x.enc, (aggV [idSeg key])] ++ caps) M Hin (fun M' v => M' = M ∧ v = .int .i64 (cmp x))) (hmono : ∀ i j (hi : i < l.l.length) (hj : j < l.l.length), i ≤ j → 0 ≤ cmp l.l[i] → 0 ≤ cmp l.l[j]) : Fo Tryz.prog 88 [l.val, (aggV [idSeg key]), .func (.func gf) #[] caps.toArray] M Hin (fun M' v => M' = M ∧ v = .tuple #[.int .i64 ((bsAt cmp l.l : Nat) : Int), .bool (bsIs cmp l.l)]) := by
  have nl : (l.l.map WaitV.segs).length = l.l.length := List.length_map ..
  refine Zfq Tryz.func88 rfl Tryz.ntmps88 rfl ?_; intro H
  have hrd := hl.app H
  refine Zj ?_; refine Za (l := [0, 1, 2]) rfl ?_
  refine Zcz ?_; intro b1
  iterate 2 refine Zd ?_
  refine Ze ?_; refine Zc ?_; refine Y_pk [7, 6, 4, 0, 2] ?_; refine Zj ?_
  replace hrd := RdS.cnt (H' := (b1, rowO [idSeg key] 29) :: (Hin ++ H)) hrd (by intro zz; simp only [cnt_cons]; omega)
  refine Za (l := [0, 1, 2]) rfl ?_; refine Zf ?_; refine Zbb F.elem24 ?_; refine Zd ?_; refine Ze ?_; refine Zc ?_; refine Y_pk [8, 7, 6, 4, 0, 2] ?_; refine Zj ?_; refine Za (l := [0, 1, 2]) rfl ?_; refine Zf ?_
  iterate 2 refine Zd ?_
  refine Ze ?_; refine Zc ?_; refine Y_pk [10, 9, 8, 7, 6, 4, 0, 2] ?_; refine Zj ?_; refine Zbe ?_; refine Y_pk [9, 10, 8, 7, 6, 4, 0, 2] ?_; refine Zed (.succ (.succ .zero)) (fun (x : Nat × Nat) z => z = [(9, .int .i64 (x.1 : Int)), (10, .int .i64 (x.2 : Int))] ∧ x.1 ≤ x.2 ∧ x.2 ≤ l.l.length ∧ (∀ y, y < x.1 → bsP cmp l.l y = false) ∧ (x.2 < l.l.length → bsP cmp l.l x.2 = true)) (fun x => x.2 - x.1) ((0, l.l.length)) (⟨rfl, Nat.zero_le _, Nat.le_refl _, fun y h => (by cases h), fun h => (by omega)⟩) ?_
  rintro ⟨a, b⟩ z ⟨hz, h1, h2, h3, h4⟩
  simp only at hz h1 h2 h3 h4
  subst hz
  iterate 2 refine Zj ?_
  refine Za (l := [0, 1, 2]) rfl ?_
  iterate 2 refine Zf ?_
  refine Zav ?_; refine Ze ?_; refine Zc ?_
  refine Zau rfl (fun hc2 => ?_) (fun hc2 => ?_)
  ·replace hc2 := dT hc2
   refine Zax ?_; refine Zc ?_; refine Zbe ?_; refine Zj ?_; refine Za (l := [0, 1, 2, 3, 4, 5, 6]) rfl ?_
   iterate 2 refine Zf ?_
   refine Zcc rfl rfl rfl rfl rfl (by exact Zbf (by decide) (by omega)) rfl ?_; refine X_conv rfl rfl rfl Tryz.underlying3 Tryz.underlying144 (by exact wrap_u64_in (by decide) (by omega)) rfl ?_; refine X_shift rfl rfl rfl rfl (by decide) (shr_lit 1 (by decide)) rfl rfl ?_; refine X_conv rfl rfl rfl Tryz.underlying144 Tryz.underlying3 (by exact Zbf (by decide) (by omega)) rfl ?_
   have hm9 : (a + b) / 2 < l.l.length := (by have h8 : a < b := (by omega); omega)
   have e9 : ((a : Int) + (b : Int)) / 2 ^ 1 = (((a + b) / 2 : Nat) : Int) := by omega
   rw [e9]
   refine Zd ?_; refine Ze ?_; refine Zc ?_; refine Zj ?_; refine Zar (l := [0, 1, 2, 3, 4, 5, 6, 7]) #[0, 0, 0, 6, 14, 0, 63, 127] _ rfl (by kernel_rfl) (by kernel_rfl) St.drawn (fun _ h => h) ?_
   iterate 3 refine Zf ?_
   refine Zaa rfl rfl rfl rfl F.elem24 (by rfl) (by omega) (by exact RdS.plain (by assumption) (by (simp; omega))) rfl ?_; refine X_load_rd rfl rfl rfl (by assumption) (by exact Zbl (by omega)) F.lay54 rfl rfl rfl ?_; refine Zi F.lay29 ?_; refine X_foV rfl rfl rfl hok rfl rfl (hc _ (List.getElem_mem (n := (a + b) / 2) (by omega))) (by repeat first | exact Rem.here _ | exact Rem.two | apply Rem.skip | apply Rem.over) (Zbq rfl) ?_
   rintro _ M1 _ ⟨hM1, rfl⟩; subst M1
   refine Zav ?_; refine Ze ?_; refine Zc ?_
   refine Zau rfl (fun hc3 => ?_) (fun hc3 => ?_)
   ·replace hc3 := dT hc3
    simp only [List.get_eq_getElem] at hc3
    refine Za (l := [0, 1, 2]) rfl ?_; refine Zf ?_; refine Zcc rfl rfl rfl rfl rfl (by exact Zbf (by decide) (by omega)) rfl ?_; refine Zd ?_; refine Ze ?_; refine Zde ?_; refine Zda (a' := [(9, _), (10, _)]) (((a + b) / 2 + 1, b)) (.cons (k := 9) rfl (.cons (k := 10) rfl (.cons (k := 8) rfl (.cons (k := 7) rfl (.cons (k := 6) rfl (.cons (k := 4) rfl (.cons (k := 0) rfl (.cons (k := 2) rfl (.nil))))))))) (fun w hw => by first | exact hw | exact hw.c) ?_ ?_
    ·refine ⟨rfl, (by show (a + b) / 2 + 1 ≤ b; omega), h2, fun y hy => ?_, h4⟩
     have hy2 : y < (a + b) / 2 + 1 := hy
     rw [bsP_at (by omega)]
     refine decide_eq_false (fun hq => ?_)
     have := hmono y ((a + b) / 2) (by omega) hm9 (by omega) hq
     omega
    ·show b - ((a + b) / 2 + 1) < b - a; omega
   ·replace hc3 := dF hc3
    simp only [List.get_eq_getElem] at hc3
    refine Za (l := [0, 1]) rfl ?_; refine Zf ?_; refine Zd ?_; refine Ze ?_; refine Zde ?_; refine Zda (a' := [(9, _), (10, _)]) ((a, (a + b) / 2)) (.cons (k := 9) rfl (.cons (k := 10) rfl (.cons (k := 8) rfl (.cons (k := 7) rfl (.cons (k := 6) rfl (.cons (k := 4) rfl (.cons (k := 0) rfl (.cons (k := 2) rfl (.nil))))))))) (fun w hw => by first | exact hw | exact hw.c) ?_ ?_
    ·exact ⟨rfl, (by show a ≤ (a + b) / 2; omega), (by show (a + b) / 2 ≤ l.l.length; omega), h3, fun _ => by rw [bsP_at hm9]; exact decide_eq_true (by omega)⟩
    ·show (a + b) / 2 - a < b - a; omega
  ·replace hc2 := dF hc2
   refine Zcm ?_
   iterate 2 refine Zcd ?_
   refine Zdl ?_; refine Zc ?_; refine Y_pk [9, 8, 7, 6, 4, 0, 2] ?_; refine Zj ?_; refine Zar (l := [0, 1, 2, 3, 4, 5, 6, 7, 8, 9, 10, 11, 12, 13, 14, 15]) #[0, 0, 0, 6, 14, 30, 30, 30, 222, 478, 30, 2046, 4094, 8190, 4095, 32767] _ rfl (by kernel_rfl) (by kernel_rfl) St.drawn (fun _ h => h) ?_
   iterate 3 refine Zf ?_
   refine Zav ?_; refine Zf ?_
   refine Zag 39 rfl (fun hc4 => ?_) (fun hc4 => ?_)
   ·replace hc4 := dT hc4
    iterate 3 refine Zf ?_
    refine Zaa rfl rfl rfl rfl F.elem24 (by rfl) (by omega) (by exact RdS.plain (by assumption) (by (simp; omega))) rfl ?_; refine X_load_rd rfl rfl rfl (by assumption) (by exact Zbl (by omega)) F.lay54 rfl rfl rfl ?_; refine Zi F.lay29 ?_; refine X_foV rfl rfl rfl hok rfl rfl (hc _ (List.getElem_mem (n := a) (by omega))) (by repeat first | exact Rem.here _ | exact Rem.two | apply Rem.skip | apply Rem.over) (Zbq rfl) ?_
    rintro _ M1 _ ⟨hM1, rfl⟩; subst M1
    refine Zav ?_; refine Zl ?_
    iterate 2 refine Zd ?_
    refine Ze ?_; refine Zc ?_; refine Y_pk [7, 6] ?_; refine Zak ?_
    refine Zaj (.inr rfl) (.tmp rfl (.tmp rfl .nil)) (fun w hw => ?_)
    obtain rfl : a = b := by omega
    have hat : bsAt cmp l.l = a := firstP_at h2 h3 h4
    refine ⟨_, M, rfl, Mem.le.refl M, hw.c, rfl, ?_⟩
    clear hw
    rw [hat]
    (rw [bsIs_lt hat (by omega)]; rfl)
   ·replace hc4 := dF hc4
    iterate 8 refine Zz ?_
    refine Zl ?_
    iterate 2 refine Zd ?_
    refine Ze ?_; refine Zc ?_; refine Y_pk [7, 6] ?_; refine Zak ?_
    refine Zaj (.inr rfl) (.tmp rfl (.tmp rfl .nil)) (fun w hw => ?_)
    obtain rfl : a = b := by omega
    have hat : bsAt cmp l.l = a := firstP_at h2 h3 h4
    refine ⟨_, M, rfl, Mem.le.refl M, hw.c, rfl, ?_⟩
    clear hw
    rw [hat]
    (rw [bsIs_ge hat (by omega)]; rfl)
theorem find_ok9 (M : Mem) (bw : Nat) (Zaf Zx Zw r : Int) (Zr Zp l_a o_a : Option Addr) (Zq Zo l_c o_c : Nat) (Zh : List HeldV) (Zg : List WaitV) (l_l : List PeerV) (o_l : List PostV) (hw0 : Hp) (hW : OSl 54 28 (.slice Zp Zg.length Zo) hw0 (Zg.map WaitV.segs)) (hLw : Zg.length ≤ 1000) (okw : ∀ x ∈ Zg, WaitV.ok M x) (hwo : WtsOk (wtl Zg)) (key : Plc) : Fo Tryz.prog 53 [.pointer (some ⟨bw, 0, none⟩), aggV [idSeg key]] M ((bw, rowO (WorkerV.segs ⟨⟨Zaf, Zx, ⟨Zr, Zq, Zh⟩, ⟨Zp, Zo, Zg⟩, Zw⟩, ⟨l_a, l_c, l_l⟩, r, ⟨o_a, o_c, o_l⟩⟩) 67) :: hw0) (fun M' v => M' = M ∧ v = .tuple #[.int .i64 ((bsAt (wtC key) Zg : Nat) : Int), .bool (bsIs (wtC key) Zg)]) := by
  have hW9 : OSl 54 28 (.slice Zp (Zg.map WaitV.segs).length Zo) hw0 (Zg.map WaitV.segs) := by rw [List.length_map]; exact hW
  refine Zfq Tryz.func53 rfl Tryz.ntmps53 rfl ?_; intro H
  refine Zj ?_; refine Za (l := [0, 1, 2]) rfl ?_
  refine Zcz ?_; intro b1
  iterate 2 refine Zd ?_
  refine Ze ?_; refine Zc ?_; refine Y_pk [5, 4, 3, 0] ?_; refine Zj ?_; refine Zar (l := [0, 1, 2, 3, 4, 5, 6, 7, 8, 9, 10]) #[0, 1, 3, 7, 15, 0, 63, 127, 127, 511, 1023] _ rfl (by kernel_rfl) (by kernel_rfl) St.drawn (fun _ h => h) ?_; refine Zf ?_; refine Zco ?_; refine Zb F.foff67_0 ?_; refine Zb F.foff26_3 ?_; refine Zi F.lay24 ?_; refine Zi F.lay29 ?_; refine X_fo rfl rfl F.ok88 rfl (BSW_rd _ hw0 ⟨Zp, Zo, Zg⟩ key 89 [] (wtC key) (OSl.rd hW _) (by show Zg.length ≤ 1000000; omega) F.ok89 (fun x hx => (findw_ok M x key (okw x hx)).foE hw0) (wtC_mono hwo key)) (by repeat first | exact Rem.here _ | exact Rem.two | apply Rem.skip | apply Rem.over) (Zbq rfl) ?_
  rintro _ M1 _ ⟨hM1, rfl⟩; subst M1
  iterate 2 refine Zcf ?_
  iterate 2 refine Zd ?_
  refine Ze ?_; refine Zc ?_; refine Y_pk [5, 4] ?_; refine Zak ?_
  refine Zaj (.inr rfl) (.tmp rfl (.tmp rfl .nil)) (fun w hw => ?_)
  exact ⟨_, M, rfl, Mem.le.refl M, hw.c, rfl, rfl⟩
end Go.Proofs.YtpkeilhilpogiaaGreat
namespace Go.Proofs.YtpkeilhilpogiaaGreat
open Go.Esp
theorem F.ok118 : okFn Tryz.prog 118 = true := by kernel_rfl
theorem CloneI_nil (M : Mem) (c : Nat) (l : List IntV) (k : SlK M (oneI .i64) 1 ⟨none, c, l⟩) (hb : l.length ≤ 1000000) : Fh Tryz.prog 102 [.slice none l.length c] M [] (fun M' v Hout => M' = M ∧ OSl 3 1 v Hout (l.map (oneI .i64))) := by
  have hl0 : l = [] := SlM.none_nil k.h1
  subst hl0
  have hl0 : ([] : List IntV).map (oneI .i64) = [] := rfl
  refine Zfg Tryz.func102 rfl Tryz.ntmps102 rfl ?_; intro H
  refine Zj ?_; refine Za (l := [0]) rfl ?_; refine Zd ?_; refine Ze ?_; refine Zc ?_
  iterate 2 refine Zj ?_
  refine Za (l := [0, 1]) rfl ?_; refine Zf ?_; refine Y_nil Tryz.underlying52 ?_; refine Ze ?_; refine Zc ?_; refine Y_pk [4, 2, 0] ?_
  refine Zau rfl (fun hc1 => ?_) (fun hc1 => ?_)
  ·skip
   refine Zj ?_; refine Za (l := [0]) rfl ?_; refine Zd ?_; refine Ze ?_; refine Zc ?_; refine Y_pk [2, 0] ?_; refine Zak ?_; refine Zba ?_
   refine Zaj (.inr rfl) (.tmp rfl .nil) (fun w hw => ?_)
   exact ⟨_, M, [], rfl, Mem.le.refl M, hw.c, rfl, by rw [hl0]; exact OSl.nil⟩
  ·skip
   (exfalso; simp [eqX] at hc1; done)
theorem CloneI_some (M : Mem) (ad : Addr) (c : Nat) (l : List IntV) (k : SlK M (oneI .i64) 1 ⟨some ad, c, l⟩) (hb : l.length ≤ 1000000) : Fh Tryz.prog 102 [.slice (some ad) l.length c] M [] (fun M' v Hout => M' = M ∧ OSl 3 1 v Hout (l.map (oneI .i64))) := by
  have hml : l.length = (l.map (oneI .i64)).length := (List.length_map ..).symm
  refine Zfg Tryz.func102 rfl Tryz.ntmps102 rfl ?_; intro H
  refine Zj ?_; refine Za (l := [0]) rfl ?_; refine Zd ?_; refine Ze ?_; refine Zc ?_
  iterate 2 refine Zj ?_
  refine Za (l := [0, 1]) rfl ?_; refine Zf ?_; refine Y_nil Tryz.underlying52 ?_; refine Ze ?_; refine Zc ?_; refine Y_pk [4, 2, 0] ?_
  refine Zau rfl (fun hc1 => ?_) (fun hc1 => ?_)
  ·skip
   (exfalso; simp [eqX] at hc1; done)
  ·skip
   refine Zax ?_; refine Zc ?_; refine Y_pk [2, 0] ?_; refine Zj ?_; refine Za (l := [0, 1, 2, 3]) rfl ?_
   refine Zbt rfl rfl F.elem52 F.zero3 rfl rfl (.nil) rfl rfl (by simp only [List.map_cons, List.map_nil] <;> rfl) rfl ?_; intro b2 hob3
   refine Zf ?_
   refine Zdn (m := 1000000) rfl rfl rfl rfl rfl F.elem52 F.zero3 (by rfl) rfl (by assumption) (by repeat first | exact Rem.here _ | exact Rem.two | apply Rem.skip | apply Rem.over) (SlM.src k.h1 (Zfi IntV.flat _) hml) (by (simp; omega)) (by decide) rfl ?_; intro v6 hs5 ho4; obtain ⟨adv6, cpv6, rfl⟩ := ho4.val
   refine Zd ?_; refine Ze ?_; refine Zc ?_; refine Y_pk [2] ?_; refine Zak ?_
   refine Zaj (.inr rfl) (.tmp rfl .nil) (fun w hw => ?_)
   exact ⟨_, M, _, rfl, Mem.le.refl M, hw.c, rfl, by assumption⟩
theorem CloneI_ok (M : Mem) (a : Option Addr) (c : Nat) (l : List IntV) (k : SlK M (oneI .i64) 1 ⟨a, c, l⟩) (hb : l.length ≤ 1000000) : Fh Tryz.prog 102 [.slice a l.length c] M [] (fun M' v Hout => M' = M ∧ OSl 3 1 v Hout (l.map (oneI .i64))) := by
  cases a with
  |none => exact CloneI_nil M c l k hb
  |some ad => exact CloneI_some M ad c l k hb
theorem IndexII (M : Mem) (hs h0 : Hp) (a : Option Addr) (c : Nat) (l : List IntV) (ho : OSl 3 1 (.slice a l.length c) hs (l.map (oneI .i64))) (bl : l.length ≤ 1000000) (gf : FuncId) (caps : List Value) (p : IntV → Bool) (Inv : Nat → Hp → Prop) (hok : okFn Tryz.prog gf = true) (hc : ∀ j (hj : j < l.length) h, Inv j h → Fh Tryz.prog gf ([.int .i64 l[j]] ++ caps) M h (fun M' v Hout => M' = M ∧ v = .bool (p l[j]) ∧ Inv (j + 1) Hout)) (hi : Inv 0 h0) : Fh Tryz.prog 118 [.slice a l.length c, .func (.func gf) #[] caps.toArray] M (hs ++ h0) (fun M' v Hout => M' = M ∧ v = .int .i64 (idxF p l) ∧ ∃ h', Hout = hs ++ h' ∧ Inv (if idxF p l = -1 then l.length else (idxF p l).toNat + 1) h') := by
  have nl : (l.map (oneI .i64)).length = l.length := List.length_map ..
  have ho9 : OSl 3 1 (.slice a (l.map (oneI .i64)).length c) hs (l.map (oneI .i64)) := by rw [nl]; exact ho
  refine Zex (fun H => hs ++ (h0 ++ H)) (fun _ => List.append_assoc _ _ _) Tryz.func118 rfl Tryz.ntmps118 rfl ?_; intro H
  refine Zj ?_; refine Za (l := [0]) rfl ?_; refine Zd ?_; refine Ze ?_; refine Zc ?_
  iterate 2 refine Zj ?_
  refine Za (l := [0, 1, 2]) rfl ?_; refine Zf ?_; refine Zbb F.elem52 ?_; refine Zf ?_; refine Ze ?_; refine Zc ?_; refine Y_pk [8, 7, 4, 0, 1] ?_; refine Zbe ?_; refine Y_pk [8, 7, 4, 0, 1] ?_; refine Zeo (Hin := h0) (.succ .zero) (by repeat first | exact Rem.here _ | exact Rem.two | apply Rem.skip | apply Rem.over) (fun (k : Nat) M1 h1 z => M1 = M ∧ z = [(8, .int .i64 (k : Int))] ∧ k ≤ l.length ∧ Inv k h1 ∧ ∀ j (h : j < k) (h2 : j < l.length), p l[j] = false) (fun k => l.length - k) (0) (⟨rfl, rfl, by omega, hi, fun j hj => by omega⟩) ?_
  rintro k M1 h1 z hm1 ⟨hM1, rfl, hk, hin, hI⟩
  subst M1
  refine Zj ?_; refine Za (l := [0]) rfl ?_; refine Zav ?_; refine Ze ?_; refine Zc ?_; refine Zj ?_
  refine Zau rfl (fun hc1 => ?_) (fun hc1 => ?_)
  ·skip
   replace hc1 := dT hc1
   refine Zax ?_; refine Zc ?_; refine Zj ?_; refine Zbe ?_; refine Zj ?_; refine Za (l := [0, 1]) rfl ?_; refine Zf ?_; refine Zd ?_; refine Ze ?_; refine Zc ?_; refine Zj ?_; refine Zdg (l := [0, 1, 2, 3, 4, 5]) [5] rfl ?_
   iterate 3 refine Zf ?_
   refine Zaa rfl rfl rfl rfl F.elem52 (by rfl) (by omega) (by exact OSl.plain (by assumption) (by (simp; omega))) rfl ?_; refine X_load_osl rfl rfl rfl (by assumption) (by repeat first | exact Rem.here _ | exact Rem.two | apply Rem.skip | apply Rem.over) (by exact Zbl (by omega)) F.lay3 rfl rfl rfl ?_; refine X_fhVW rfl rfl rfl rfl hok rfl rfl (hc k (by omega) h1 hin) (by repeat first | exact Rem.here _ | exact Rem.two | apply Rem.skip | apply Rem.over) (Zbq rfl) ?_
   rintro _ M1 h7 hm7 ⟨hM1, rfl, hin7⟩
   subst M1
   refine Ze ?_; refine Zen ?_; refine Zc ?_
   refine Zau rfl (fun hc2 => ?_) (fun hc2 => ?_)
   ·skip
    have hP := hc2
    refine Zj ?_; refine Za (l := [0, 1]) rfl ?_; refine Zf ?_; refine Zd ?_; refine Ze ?_; refine Zc ?_; refine Zak ?_; refine Zbj ?_
    iterate 2 refine Zba ?_
    refine Zbj ?_; refine Zba ?_
    refine Zaj (.inr rfl) (.tmp rfl .nil) (fun w hw => ?_)
    have e9 : idxF p l = ((k : Nat) : Int) := idxF_at (by omega) (fun j hj => hI j hj _) hP
    refine ⟨_, M, hs ++ h7, rfl, Mem.le.refl M, hw.c, rfl, congrArg (Value.int .i64) e9.symm, h7, rfl, ?_⟩
    rw [e9, if_neg (by omega), Int.toNat_natCast]
    exact hin7
   ·skip
    have hP := hc2
    refine Zax ?_; refine Zde ?_; refine Zc ?_; refine Za (l := [0, 1]) rfl ?_; refine Zcc rfl rfl rfl rfl rfl (by exact Zbf (by decide) (by omega)) rfl ?_; refine Zf ?_; refine Ze ?_; refine Zcr (a' := [(8, _)]) (k + 1) (h7) (.cons (k := 8) rfl (.cons (k := 7) rfl (.cons (k := 4) rfl (.cons (k := 0) rfl (.cons (k := 1) rfl (.nil)))))) (by exact Mem.le.refl _) (fun w hw => by first | exact hw | exact hw.c) ?_ ?_
    ·refine ⟨rfl, rfl, by omega, hin7, fun j hj h2 => ?_⟩
     rcases Nat.lt_or_ge j k with h9 | h9
     ·exact hI j h9 h2
     ·obtain rfl : j = k := by omega
      exact hP
    ·omega
  ·skip
   replace hc1 := dF hc1
   refine Zcm ?_
   iterate 2 refine Zcd ?_
   refine Zdl ?_; refine Zc ?_; refine Y_pk [4] ?_; refine Zj ?_; refine Za (l := [0]) rfl ?_; refine Zd ?_; refine Ze ?_; refine Zc ?_; refine Zak ?_
   refine Zaj (.inr rfl) (.tmp rfl .nil) (fun w hw => ?_)
   obtain rfl : k = l.length := by omega
   have e9 : idxF p l = -1 := idxF_none (fun j hj => hI j (by omega) hj)
   refine ⟨_, M, hs ++ h1, rfl, Mem.le.refl M, hw.c, rfl, congrArg (Value.int .i64) e9.symm, h1, rfl, ?_⟩
   rw [if_pos e9]
   exact hin
theorem DeleteII_no (M : Mem) (hs h0 : Hp) (a : Option Addr) (c : Nat) (l : List IntV) (ho : OSl 3 1 (.slice a l.length c) hs (l.map (oneI .i64))) (bl : l.length ≤ 1000000) (gf : FuncId) (caps : List Value) (p : IntV → Bool) (Inv : Nat → Hp → Prop) (hok : okFn Tryz.prog gf = true) (hc : ∀ j (hj : j < l.length) h, Inv j h → Fh Tryz.prog gf ([.int .i64 l[j]] ++ caps) M h (fun M' v Hout => M' = M ∧ v = .bool (p l[j]) ∧ Inv (j + 1) Hout)) (hi : Inv 0 h0) (h : idxF p l = -1) : Fh Tryz.prog 101 [.slice a l.length c, .func (.func gf) #[] caps.toArray] M (hs ++ h0) (fun M' v Hout => M' = M ∧ ∃ hs' h', Hout = hs' ++ h' ∧ OSl 3 1 v hs' ((kept p l).map (oneI .i64)) ∧ Inv l.length h') := by
  refine Zex (fun H => hs ++ (h0 ++ H)) (fun _ => List.append_assoc _ _ _) Tryz.func101 rfl Tryz.ntmps101 rfl ?_; intro H
  refine Zj ?_; refine Za (l := [0]) rfl ?_; refine Zd ?_; refine Ze ?_; refine Zc ?_; refine Zj ?_; refine Zdg (l := [0, 1, 2, 3]) [2] rfl ?_
  iterate 2 refine Zf ?_
  refine Zgm rfl rfl rfl F.ok118 rfl (IndexII M hs h0 a c l ho bl gf caps p Inv hok hc hi) (by repeat first | exact Rem.here _ | exact Rem.two | apply Rem.skip | apply Rem.over) (Zbq rfl) ?_
  rintro _ M1 _ hm1 ⟨hM1, rfl, h5, rfl, hin5⟩; subst M1
  rw [h]
  rw [if_pos h] at hin5
  simp only [List.append_assoc]
  refine Zd ?_; refine Ze ?_; refine Zen ?_; refine Zc ?_; refine Y_pk [5, 4, 0, 1] ?_
  iterate 2 refine Zj ?_
  refine Za (l := [0, 1]) rfl ?_; refine Zf ?_; refine Zav ?_; refine Ze ?_; refine Zc ?_; refine Y_pk [12, 5, 4, 0, 1] ?_
  refine Zau rfl (fun hc1 => ?_) (fun hc1 => ?_)
  ·replace hc1 := dT hc1
   simp only [AnswerV.eta, MarkV.eta, CellV.eta, HeldV.eta, WaitV.eta, ServerV.eta, PeerV.eta, OpV.eta, ParcelV.eta, PostV.eta, WorkerV.eta] at hc1
   refine Zj ?_; refine Za (l := [0, 1]) rfl ?_; refine Zf ?_; refine Zd ?_; refine Ze ?_; refine Zc ?_; refine Y_pk [4, 5, 0, 1] ?_; refine Zak ?_; refine Zba ?_
   refine Zaj (.inr rfl) (.tmp rfl .nil) (fun w hw => ?_)
   exact ⟨_, M, hs ++ h5, rfl, Mem.le.refl M, hw.c, rfl, hs, h5, rfl, by rw [kept_none h]; exact ho, hin5⟩
  ·replace hc1 := dF hc1
   simp only [AnswerV.eta, MarkV.eta, CellV.eta, HeldV.eta, WaitV.eta, ServerV.eta, PeerV.eta, OpV.eta, ParcelV.eta, PostV.eta, WorkerV.eta] at hc1
   (exfalso; simp [eqX] at hc1; done)
theorem DeleteII_yes (M : Mem) (hs h0 : Hp) (b : Nat) (c : Nat) (l : List IntV) (ho : OSl 3 1 (.slice (some ⟨b, 0, none⟩) l.length c) hs (l.map (oneI .i64))) (bl : l.length ≤ 1000000) (gf : FuncId) (caps : List Value) (p : IntV → Bool) (Inv : Nat → Hp → Prop) (hok : okFn Tryz.prog gf = true) (hc : ∀ j (hj : j < l.length) h, Inv j h → Fh Tryz.prog gf ([.int .i64 l[j]] ++ caps) M h (fun M' v Hout => M' = M ∧ v = .bool (p l[j]) ∧ Inv (j + 1) Hout)) (hi : Inv 0 h0) (i0 : Nat) (h : idxF p l = (i0 : Nat)) (hi0 : i0 < l.length) (hk0 : kept p (l.take (i0 + 1)) = l.take i0) : Fh Tryz.prog 101 [.slice (some ⟨b, 0, none⟩) l.length c, .func (.func gf) #[] caps.toArray] M (hs ++ h0) (fun M' v Hout => M' = M ∧ ∃ hs' h', Hout = hs' ++ h' ∧ OSl 3 1 v hs' ((kept p l).map (oneI .i64)) ∧ Inv l.length h') := by
  refine Zex (fun H => hs ++ (h0 ++ H)) (fun _ => List.append_assoc _ _ _) Tryz.func101 rfl Tryz.ntmps101 rfl ?_; intro H
  refine Zj ?_; refine Za (l := [0]) rfl ?_; refine Zd ?_; refine Ze ?_; refine Zc ?_; refine Zj ?_; refine Zdg (l := [0, 1, 2, 3]) [2] rfl ?_
  iterate 2 refine Zf ?_
  refine Zgm rfl rfl rfl F.ok118 rfl (IndexII M hs h0 (some ⟨b, 0, none⟩) c l ho bl gf caps p Inv hok hc hi) (by repeat first | exact Rem.here _ | exact Rem.two | apply Rem.skip | apply Rem.over) (Zbq rfl) ?_
  rintro _ M1 _ hm1 ⟨hM1, rfl, h5, rfl, hin5⟩; subst M1
  rw [h]
  rw [h] at hin5
  rw [if_neg (by omega), Int.toNat_natCast] at hin5
  simp only [List.append_assoc]
  refine Zd ?_; refine Ze ?_; refine Zen ?_; refine Zc ?_; refine Y_pk [5, 4, 0, 1] ?_
  iterate 2 refine Zj ?_
  refine Za (l := [0, 1]) rfl ?_; refine Zf ?_; refine Zav ?_; refine Ze ?_; refine Zc ?_; refine Y_pk [12, 5, 4, 0, 1] ?_
  refine Zau rfl (fun hc1 => ?_) (fun hc1 => ?_)
  ·skip
   replace hc1 := dT hc1
   (exfalso; omega)
  ·skip
   replace hc1 := dF hc1
   refine Zax ?_; refine Zc ?_; refine Y_pk [5, 4, 0, 1] ?_
   iterate 2 refine Zj ?_
   refine Za (l := [0, 1, 2]) rfl ?_; refine Zf ?_; refine Zcc rfl rfl rfl rfl rfl (by exact Zbf (by decide) (by omega)) rfl ?_; refine Zd ?_; refine Ze ?_; refine Zc ?_; refine Y_pk [6, 5, 4, 0, 1] ?_; refine Zbe ?_; refine Y_pk [5, 6, 4, 0, 1] ?_; refine C_loopO2 (Hin := hs) (Hin2 := h5) (.succ (.succ .zero)) (by repeat first | exact Rem.here _ | exact Rem.two | apply Rem.skip | apply Rem.over) (by repeat first | exact Rem.here _ | exact Rem.two | apply Rem.skip | apply Rem.over) (fun (j : Nat) M1 h1 z => ∃ (i : Nat) (w : List IntV) (ha hb : Hp), M1 = M ∧ z = [(5, .int .i64 (i : Int)), (6, .int .i64 (j : Int))] ∧ h1 = ha ++ hb ∧ Inv j hb ∧ i < j ∧ j ≤ l.length ∧ w.length = l.length ∧ w.take i = kept p (l.take j) ∧ w.drop j = l.drop j ∧ i = (kept p (l.take j)).length ∧ OSl 3 1 (.slice (some ⟨b, 0, none⟩) l.length c) ha (w.map (oneI .i64))) (fun j => l.length - j) (i0 + 1) (⟨i0, l, hs, h5, rfl, rfl, rfl, hin5, by omega, by omega, rfl, hk0.symm, rfl, by rw [hk0]; simp; omega, ho⟩) ?_
   rintro j M1 h1 z hm1 ⟨i, w, ha, hb, hM1, rfl, rfl, hin, hij, hj, hwl, hw1, hw2, hi9, ho1⟩
   subst hM1
   have hnw : (w.map (oneI .i64)).length = w.length := List.length_map ..
   have ho1w : OSl 3 1 (.slice (some ⟨b, 0, none⟩) (w.map (oneI .i64)).length c) ha (w.map (oneI .i64)) := by rw [hnw, hwl]; exact ho1
   rw [List.append_assoc]
   iterate 2 refine Zj ?_
   refine Za (l := [0, 1, 2, 3]) rfl ?_
   iterate 2 refine Zf ?_
   refine Zbb F.elem52 ?_; refine Zav ?_; refine Ze ?_; refine Zc ?_
   refine Zau rfl (fun hc2 => ?_) (fun hc2 => ?_)
   ·skip
    replace hc2 := dT hc2
    refine Zax ?_; refine Zc ?_; refine Zj ?_; refine Zbe ?_; refine Zj ?_; refine Za (l := [0, 1, 2, 3, 4]) rfl ?_
    iterate 2 refine Zf ?_
    refine Zaa rfl rfl rfl rfl F.elem52 (by rfl) (by omega) (by exact ⟨_, _, rfl⟩) rfl ?_; refine X_load_osl rfl rfl rfl (by assumption) (by repeat first | exact Rem.here _ | exact Rem.two | apply Rem.skip | apply Rem.over) (by exact Zbl (by omega)) F.lay3 rfl rfl rfl ?_; refine Zd ?_; refine Ze ?_; refine Zc ?_; refine Zj ?_; refine Zdg (l := [0, 1, 2, 3]) [2] rfl ?_
    iterate 2 refine Zf ?_
    have hd8 := drop_at hwl (by omega : j < l.length) hw2
    have hcw := hc j (by omega) hb hin
    rw [← hd8] at hcw
    refine X_fhVW rfl rfl rfl rfl hok rfl rfl hcw (by repeat first | exact Rem.here _ | exact Rem.two | apply Rem.skip | apply Rem.over) (Zbq rfl) ?_
    rintro _ M1 h7 hm7 ⟨hM1, rfl, hin7⟩
    subst M1
    rw [hd8]
    refine Zel ?_; refine Ze ?_; refine Zen ?_; refine Zc ?_
    refine Zau rfl (fun hc3 => ?_) (fun hc3 => ?_)
    ·simp only [Bool.not_eq_true', Bool.not_eq_false'] at hc3
     have hP := hc3
     refine Zj ?_; refine Za (l := [0, 1, 2, 3, 4]) rfl ?_
     iterate 3 refine Zf ?_
     refine Zaa rfl rfl rfl rfl F.elem52 (by rfl) (by omega) (by exact ⟨_, _, rfl⟩) rfl ?_
     refine X_storeO (b := b) (j := i) rfl rfl rfl rfl (by constructor) (Zam rfl Zbp) F.lay3 rfl rfl ho1 (by repeat first | exact Rem.here _ | exact Rem.two | apply Rem.skip | apply Rem.over) (by omega) ?_; intro hs7 ho7
     replace ho7 : OSl 3 1 (.slice (some ⟨b, 0, none⟩) l.length c) hs7 ((w.set i l[j]).map (oneI .i64)) := by rw [List.map_set]; exact ho7.as (by simp; omega)
     refine Ze ?_; refine Zc ?_; refine Za (l := [0, 1, 2]) rfl ?_; refine Zf ?_; refine Zcc rfl rfl rfl rfl rfl (by exact Zbf (by decide) (by omega)) rfl ?_; refine Zd ?_; refine Ze ?_; refine Zde ?_; refine Zc ?_; refine Za (l := [0, 1, 2]) rfl ?_; refine Zf ?_; refine Zcc rfl rfl rfl rfl rfl (by exact Zbf (by decide) (by omega)) rfl ?_; refine Zd ?_; refine Ze ?_; refine Zcr (a' := [(5, _), (6, _)]) (j + 1) (hs7 ++ h7) (.cons (k := 5) rfl (.cons (k := 6) rfl (.cons (k := 4) rfl (.cons (k := 0) rfl (.cons (k := 1) rfl (.nil)))))) (by exact Mem.le.refl _) (fun w hw => by first | exact hw | exact hw.c) ?_ ?_
     ·have hd9 := drop_at hwl (by omega : j < l.length) hw2
      have hp9 : p l[j] = false := by first | (simpa using hP) | (rw [← hd9]; simpa using hP)
      obtain ⟨e1, e2, e3⟩ := keep_put hwl hij (by omega : j < l.length) hw1 hw2
      exact ⟨i + 1, w.set i l[j], hs7, h7, rfl, rfl, rfl, hin7, by omega, by omega, e1, by rw [e2, filt_step (by omega : j < l.length), hp9]; rfl, e3, by rw [filt_step (by omega : j < l.length), hp9]; simp; omega, by first | exact ho7 | (rw [← hd9]; exact ho7)⟩
     ·omega
    ·simp only [Bool.not_eq_true', Bool.not_eq_false'] at hc3
     have hP := hc3
     refine Zax ?_; refine Zde ?_; refine Zc ?_; refine Za (l := [0, 1, 2]) rfl ?_; refine Zf ?_; refine Zcc rfl rfl rfl rfl rfl (by exact Zbf (by decide) (by omega)) rfl ?_; refine Zd ?_; refine Ze ?_; refine Zcr (a' := [(5, _), (6, _)]) (j + 1) (ha ++ h7) (.cons (k := 5) rfl (.cons (k := 6) rfl (.cons (k := 4) rfl (.cons (k := 0) rfl (.cons (k := 1) rfl (.nil)))))) (by exact Mem.le.refl _) (fun w hw => by first | exact hw | exact hw.c) ?_ ?_
     ·have hd9 := drop_at hwl (by omega : j < l.length) hw2
      have hp9 : p l[j] = true := by first | (simpa using hP) | (rw [← hd9]; simpa using hP)
      exact ⟨i, w, ha, h7, rfl, rfl, rfl, hin7, by omega, by omega, hwl, by rw [hw1, filt_step (by omega : j < l.length), hp9]; rfl, by have := congrArg (List.drop 1) hw2; simpa [List.drop_drop] using this, by rw [filt_step (by omega : j < l.length), hp9]; simpa using hi9, ho1⟩
     ·omega
   ·skip
    replace hc2 := dF hc2
    refine Zcm ?_
    iterate 2 refine Zcd ?_
    refine Zdl ?_; refine Zc ?_; refine Y_pk [5, 4, 0] ?_; refine Zj ?_; refine Za (l := [0, 1, 2, 3]) rfl ?_
    iterate 2 refine Zf ?_
    obtain rfl : j = l.length := by omega
    rw [List.take_length] at hw1 hi9
    have hcc := ho1.caps
    refine Zdw rfl rfl rfl (.some (k := i) rfl rfl) .none .none F.elem52 (by simp) (by simp only [Option.getD_none, Option.getD_some]; omega) (by simp only [Option.getD_none, Option.getD_some]; omega) (by simp) (show pieceV (some ⟨b, 0, none⟩) 1 i l.length c = .slice (some ⟨b, 0 + i * 1, none⟩) (l.length - i) (c - i) from Zew (by omega)) rfl ?_
    have hcut : OSl 3 1 (.slice (some ⟨b, 0, none⟩) ((kept p l).map (oneI .i64)).length c) ha ((kept p l).map (oneI .i64)) := (by have h9 := OSl.cut (k := i) (ho1.as rfl) (by omega); rw [← List.map_take, hw1] at h9; exact h9.as rfl)
    have hkl : ((kept p l).map (oneI .i64)).length = i := by simp; omega
    refine X_clear_own rfl rfl rfl rfl rfl F.elem52 F.zero3 rfl (flat_all (Zam rfl Zbp)) hcut (by repeat first | exact Rem.here _ | exact Rem.two | apply Rem.skip | apply Rem.over) (by omega) (by omega) putE_none ?_; intro hs8 ho8
    refine Ze ?_; refine Zc ?_; refine Y_pk [5, 4, 0] ?_; refine Zj ?_; refine Za (l := [0, 1, 2, 3]) rfl ?_
    iterate 2 refine Zf ?_
    refine Zdw rfl rfl rfl .none (.some (k := i) rfl rfl) .none F.elem52 (by simp) (by simp only [Option.getD_none, Option.getD_some]; omega) (by simp only [Option.getD_none, Option.getD_some]; omega) (by simp) (show pieceV (some ⟨b, 0, none⟩) 1 0 i c = .slice (some ⟨b, 0, none⟩) i c from pieceV_zero) rfl ?_; refine Zd ?_; refine Ze ?_; refine Zc ?_; refine Y_pk [4] ?_; refine Zak ?_
    refine Zaj (.inr rfl) (.tmp rfl .nil) (fun w hw => ?_)
    exact ⟨_, _, hs8 ++ hb, rfl, Mem.le.refl _, hw.c, rfl, hs8, hb, rfl, ho8.as (by omega), hin⟩
theorem DeleteII_ok (M : Mem) (hs h0 : Hp) (a : Option Addr) (c : Nat) (l : List IntV) (ho : OSl 3 1 (.slice a l.length c) hs (l.map (oneI .i64))) (bl : l.length ≤ 1000000) (gf : FuncId) (caps : List Value) (p : IntV → Bool) (Inv : Nat → Hp → Prop) (hok : okFn Tryz.prog gf = true) (hc : ∀ j (hj : j < l.length) h, Inv j h → Fh Tryz.prog gf ([.int .i64 l[j]] ++ caps) M h (fun M' v Hout => M' = M ∧ v = .bool (p l[j]) ∧ Inv (j + 1) Hout)) (hi : Inv 0 h0) : Fh Tryz.prog 101 [.slice a l.length c, .func (.func gf) #[] caps.toArray] M (hs ++ h0) (fun M' v Hout => M' = M ∧ ∃ hs' h', Hout = hs' ++ h' ∧ OSl 3 1 v hs' ((kept p l).map (oneI .i64)) ∧ Inv l.length h') := by
  by_cases h : idxF p l = -1
  ·exact DeleteII_no M hs h0 a c l ho bl gf caps p Inv hok hc hi h
  ·obtain ⟨i0, h1, h2, h3, h4⟩ := idxF_some h
   obtain ⟨b, rfl⟩ := ho.someB (by omega)
   exact DeleteII_yes M hs h0 b c l ho bl gf caps p Inv hok hc hi i0 h1 h2 h3
end Go.Proofs.YtpkeilhilpogiaaGreat
namespace Go.Proofs.YtpkeilhilpogiaaGreat
open Go.Esp
theorem F.ok100 : okFn Tryz.prog 100 = true := by kernel_rfl
theorem IndexIW (M : Mem) (hs h0 : Hp) (a : Option Addr) (c : Nat) (l : List WaitV) (ho : OSl 54 28 (.slice a l.length c) hs (l.map WaitV.segs)) (bl : l.length ≤ 1000000) (gf : FuncId) (caps : List Value) (p : WaitV → Bool) (Inv : Nat → Hp → Prop) (hok : okFn Tryz.prog gf = true) (hc : ∀ j (hj : j < l.length) h, Inv j h → Fh Tryz.prog gf ([l[j].enc] ++ caps) M h (fun M' v Hout => M' = M ∧ v = .bool (p l[j]) ∧ Inv (j + 1) Hout)) (hi : Inv 0 h0) : Fh Tryz.prog 100 [.slice a l.length c, .func (.func gf) #[] caps.toArray] M (hs ++ h0) (fun M' v Hout => M' = M ∧ v = .int .i64 (idxF p l) ∧ ∃ h', Hout = hs ++ h' ∧ Inv (if idxF p l = -1 then l.length else (idxF p l).toNat + 1) h') := by
  have nl : (l.map WaitV.segs).length = l.length := List.length_map ..
  have ho9 : OSl 54 28 (.slice a (l.map WaitV.segs).length c) hs (l.map WaitV.segs) := by rw [nl]; exact ho
  refine Zex (fun H => hs ++ (h0 ++ H)) (fun _ => List.append_assoc _ _ _) Tryz.func100 rfl Tryz.ntmps100 rfl ?_; intro H
  refine Zj ?_; refine Za (l := [0]) rfl ?_; refine Zd ?_; refine Ze ?_; refine Zc ?_
  iterate 2 refine Zj ?_
  refine Za (l := [0, 1, 2]) rfl ?_; refine Zf ?_; refine Zbb F.elem24 ?_; refine Zf ?_; refine Ze ?_; refine Zc ?_; refine Y_pk [8, 7, 4, 0, 1] ?_; refine Zbe ?_; refine Y_pk [8, 7, 4, 0, 1] ?_; refine Zeo (Hin := h0) (.succ .zero) (by repeat first | exact Rem.here _ | exact Rem.two | apply Rem.skip | apply Rem.over) (fun (k : Nat) M1 h1 z => M1 = M ∧ z = [(8, .int .i64 (k : Int))] ∧ k ≤ l.length ∧ Inv k h1 ∧ ∀ j (h : j < k) (h2 : j < l.length), p l[j] = false) (fun k => l.length - k) (0) (⟨rfl, rfl, by omega, hi, fun j hj => by omega⟩) ?_
  rintro k M1 h1 z hm1 ⟨hM1, rfl, hk, hin, hI⟩
  subst M1
  refine Zj ?_; refine Za (l := [0]) rfl ?_; refine Zav ?_; refine Ze ?_; refine Zc ?_; refine Zj ?_
  refine Zau rfl (fun hc1 => ?_) (fun hc1 => ?_)
  ·skip
   replace hc1 := dT hc1
   refine Zax ?_; refine Zc ?_; refine Zj ?_; refine Zbe ?_; refine Zj ?_; refine Za (l := [0, 1]) rfl ?_; refine Zf ?_; refine Zd ?_; refine Ze ?_; refine Zc ?_; refine Zj ?_; refine Zdg (l := [0, 1, 2, 3, 4, 5]) [5] rfl ?_
   iterate 3 refine Zf ?_
   refine Zaa rfl rfl rfl rfl F.elem24 (by rfl) (by omega) (by exact OSl.plain (by assumption) (by (simp; omega))) rfl ?_; refine X_load_osl rfl rfl rfl (by assumption) (by repeat first | exact Rem.here _ | exact Rem.two | apply Rem.skip | apply Rem.over) (by exact Zbl (by omega)) F.lay54 rfl rfl rfl ?_; refine X_fhVW rfl rfl rfl rfl hok rfl rfl (hc k (by omega) h1 hin) (by repeat first | exact Rem.here _ | exact Rem.two | apply Rem.skip | apply Rem.over) (Zbq rfl) ?_
   rintro _ M1 h7 hm7 ⟨hM1, rfl, hin7⟩
   subst M1
   refine Ze ?_; refine Zen ?_; refine Zc ?_
   refine Zau rfl (fun hc2 => ?_) (fun hc2 => ?_)
   ·skip
    have hP := hc2
    refine Zj ?_; refine Za (l := [0, 1]) rfl ?_; refine Zf ?_; refine Zd ?_; refine Ze ?_; refine Zc ?_; refine Zak ?_; refine Zbj ?_
    iterate 2 refine Zba ?_
    refine Zbj ?_; refine Zba ?_
    refine Zaj (.inr rfl) (.tmp rfl .nil) (fun w hw => ?_)
    have e9 : idxF p l = ((k : Nat) : Int) := idxF_at (by omega) (fun j hj => hI j hj _) hP
    refine ⟨_, M, hs ++ h7, rfl, Mem.le.refl M, hw.c, rfl, congrArg (Value.int .i64) e9.symm, h7, rfl, ?_⟩
    rw [e9, if_neg (by omega), Int.toNat_natCast]
    exact hin7
   ·skip
    have hP := hc2
    refine Zax ?_; refine Zde ?_; refine Zc ?_; refine Za (l := [0, 1]) rfl ?_; refine Zcc rfl rfl rfl rfl rfl (by exact Zbf (by decide) (by omega)) rfl ?_; refine Zf ?_; refine Ze ?_; refine Zcr (a' := [(8, _)]) (k + 1) (h7) (.cons (k := 8) rfl (.cons (k := 7) rfl (.cons (k := 4) rfl (.cons (k := 0) rfl (.cons (k := 1) rfl (.nil)))))) (by exact Mem.le.refl _) (fun w hw => by first | exact hw | exact hw.c) ?_ ?_
    ·refine ⟨rfl, rfl, by omega, hin7, fun j hj h2 => ?_⟩
     rcases Nat.lt_or_ge j k with h9 | h9
     ·exact hI j h9 h2
     ·obtain rfl : j = k := by omega
      exact hP
    ·omega
  ·skip
   replace hc1 := dF hc1
   refine Zcm ?_
   iterate 2 refine Zcd ?_
   refine Zdl ?_; refine Zc ?_; refine Y_pk [4] ?_; refine Zj ?_; refine Za (l := [0]) rfl ?_; refine Zd ?_; refine Ze ?_; refine Zc ?_; refine Zak ?_
   refine Zaj (.inr rfl) (.tmp rfl .nil) (fun w hw => ?_)
   obtain rfl : k = l.length := by omega
   have e9 : idxF p l = -1 := idxF_none (fun j hj => hI j (by omega) hj)
   refine ⟨_, M, hs ++ h1, rfl, Mem.le.refl M, hw.c, rfl, congrArg (Value.int .i64) e9.symm, h1, rfl, ?_⟩
   rw [if_pos e9]
   exact hin
theorem DeleteIW_no (M : Mem) (hs h0 : Hp) (a : Option Addr) (c : Nat) (l : List WaitV) (ho : OSl 54 28 (.slice a l.length c) hs (l.map WaitV.segs)) (bl : l.length ≤ 1000000) (gf : FuncId) (caps : List Value) (p : WaitV → Bool) (Inv : Nat → Hp → Prop) (hok : okFn Tryz.prog gf = true) (hc : ∀ j (hj : j < l.length) h, Inv j h → Fh Tryz.prog gf ([l[j].enc] ++ caps) M h (fun M' v Hout => M' = M ∧ v = .bool (p l[j]) ∧ Inv (j + 1) Hout)) (hi : Inv 0 h0) (h : idxF p l = -1) : Fh Tryz.prog 62 [.slice a l.length c, .func (.func gf) #[] caps.toArray] M (hs ++ h0) (fun M' v Hout => M' = M ∧ ∃ hs' h', Hout = hs' ++ h' ∧ OSl 54 28 v hs' ((kept p l).map WaitV.segs) ∧ Inv l.length h') := by
  refine Zex (fun H => hs ++ (h0 ++ H)) (fun _ => List.append_assoc _ _ _) Tryz.func62 rfl Tryz.ntmps62 rfl ?_; intro H
  refine Zj ?_; refine Za (l := [0]) rfl ?_; refine Zd ?_; refine Ze ?_; refine Zc ?_; refine Zj ?_; refine Zdg (l := [0, 1, 2, 3]) [2] rfl ?_
  iterate 2 refine Zf ?_
  refine Zgm rfl rfl rfl F.ok100 rfl (IndexIW M hs h0 a c l ho bl gf caps p Inv hok hc hi) (by repeat first | exact Rem.here _ | exact Rem.two | apply Rem.skip | apply Rem.over) (Zbq rfl) ?_
  rintro _ M1 _ hm1 ⟨hM1, rfl, h5, rfl, hin5⟩; subst M1
  rw [h]
  rw [if_pos h] at hin5
  simp only [List.append_assoc]
  refine Zd ?_; refine Ze ?_; refine Zen ?_; refine Zc ?_; refine Y_pk [5, 4, 0, 1] ?_
  iterate 2 refine Zj ?_
  refine Za (l := [0, 1]) rfl ?_; refine Zf ?_; refine Zav ?_; refine Ze ?_; refine Zc ?_; refine Y_pk [12, 5, 4, 0, 1] ?_
  refine Zau rfl (fun hc1 => ?_) (fun hc1 => ?_)
  ·replace hc1 := dT hc1
   simp only [AnswerV.eta, MarkV.eta, CellV.eta, HeldV.eta, WaitV.eta, ServerV.eta, PeerV.eta, OpV.eta, ParcelV.eta, PostV.eta, WorkerV.eta] at hc1
   refine Zj ?_; refine Za (l := [0, 1]) rfl ?_; refine Zf ?_; refine Zd ?_; refine Ze ?_; refine Zc ?_; refine Y_pk [4, 5, 0, 1] ?_; refine Zak ?_; refine Zba ?_
   refine Zaj (.inr rfl) (.tmp rfl .nil) (fun w hw => ?_)
   exact ⟨_, M, hs ++ h5, rfl, Mem.le.refl M, hw.c, rfl, hs, h5, rfl, by rw [kept_none h]; exact ho, hin5⟩
  ·replace hc1 := dF hc1
   simp only [AnswerV.eta, MarkV.eta, CellV.eta, HeldV.eta, WaitV.eta, ServerV.eta, PeerV.eta, OpV.eta, ParcelV.eta, PostV.eta, WorkerV.eta] at hc1
   (exfalso; simp [eqX] at hc1; done)
theorem DeleteIW_yes (M : Mem) (hs h0 : Hp) (b : Nat) (c : Nat) (l : List WaitV) (ho : OSl 54 28 (.slice (some ⟨b, 0, none⟩) l.length c) hs (l.map WaitV.segs)) (bl : l.length ≤ 1000000) (gf : FuncId) (caps : List Value) (p : WaitV → Bool) (Inv : Nat → Hp → Prop) (hok : okFn Tryz.prog gf = true) (hc : ∀ j (hj : j < l.length) h, Inv j h → Fh Tryz.prog gf ([l[j].enc] ++ caps) M h (fun M' v Hout => M' = M ∧ v = .bool (p l[j]) ∧ Inv (j + 1) Hout)) (hi : Inv 0 h0) (i0 : Nat) (h : idxF p l = (i0 : Nat)) (hi0 : i0 < l.length) (hk0 : kept p (l.take (i0 + 1)) = l.take i0) : Fh Tryz.prog 62 [.slice (some ⟨b, 0, none⟩) l.length c, .func (.func gf) #[] caps.toArray] M (hs ++ h0) (fun M' v Hout => M' = M ∧ ∃ hs' h', Hout = hs' ++ h' ∧ OSl 54 28 v hs' ((kept p l).map WaitV.segs) ∧ Inv l.length h') := by
  refine Zex (fun H => hs ++ (h0 ++ H)) (fun _ => List.append_assoc _ _ _) Tryz.func62 rfl Tryz.ntmps62 rfl ?_; intro H
  refine Zj ?_; refine Za (l := [0]) rfl ?_; refine Zd ?_; refine Ze ?_; refine Zc ?_; refine Zj ?_; refine Zdg (l := [0, 1, 2, 3]) [2] rfl ?_
  iterate 2 refine Zf ?_
  refine Zgm rfl rfl rfl F.ok100 rfl (IndexIW M hs h0 (some ⟨b, 0, none⟩) c l ho bl gf caps p Inv hok hc hi) (by repeat first | exact Rem.here _ | exact Rem.two | apply Rem.skip | apply Rem.over) (Zbq rfl) ?_
  rintro _ M1 _ hm1 ⟨hM1, rfl, h5, rfl, hin5⟩; subst M1
  rw [h]
  rw [h] at hin5
  rw [if_neg (by omega), Int.toNat_natCast] at hin5
  simp only [List.append_assoc]
  refine Zd ?_; refine Ze ?_; refine Zen ?_; refine Zc ?_; refine Y_pk [5, 4, 0, 1] ?_
  iterate 2 refine Zj ?_
  refine Za (l := [0, 1]) rfl ?_; refine Zf ?_; refine Zav ?_; refine Ze ?_; refine Zc ?_; refine Y_pk [12, 5, 4, 0, 1] ?_
  refine Zau rfl (fun hc1 => ?_) (fun hc1 => ?_)
  ·skip
   replace hc1 := dT hc1
   (exfalso; omega)
  ·skip
   replace hc1 := dF hc1
   refine Zax ?_; refine Zc ?_; refine Y_pk [5, 4, 0, 1] ?_
   iterate 2 refine Zj ?_
   refine Za (l := [0, 1, 2]) rfl ?_; refine Zf ?_; refine Zcc rfl rfl rfl rfl rfl (by exact Zbf (by decide) (by omega)) rfl ?_; refine Zd ?_; refine Ze ?_; refine Zc ?_; refine Y_pk [6, 5, 4, 0, 1] ?_; refine Zbe ?_; refine Y_pk [5, 6, 4, 0, 1] ?_; refine C_loopO2 (Hin := hs) (Hin2 := h5) (.succ (.succ .zero)) (by repeat first | exact Rem.here _ | exact Rem.two | apply Rem.skip | apply Rem.over) (by repeat first | exact Rem.here _ | exact Rem.two | apply Rem.skip | apply Rem.over) (fun (j : Nat) M1 h1 z => ∃ (i : Nat) (w : List WaitV) (ha hb : Hp), M1 = M ∧ z = [(5, .int .i64 (i : Int)), (6, .int .i64 (j : Int))] ∧ h1 = ha ++ hb ∧ Inv j hb ∧ i < j ∧ j ≤ l.length ∧ w.length = l.length ∧ w.take i = kept p (l.take j) ∧ w.drop j = l.drop j ∧ i = (kept p (l.take j)).length ∧ OSl 54 28 (.slice (some ⟨b, 0, none⟩) l.length c) ha (w.map WaitV.segs)) (fun j => l.length - j) (i0 + 1) (⟨i0, l, hs, h5, rfl, rfl, rfl, hin5, by omega, by omega, rfl, hk0.symm, rfl, by rw [hk0]; simp; omega, ho⟩) ?_
   rintro j M1 h1 z hm1 ⟨i, w, ha, hb, hM1, rfl, rfl, hin, hij, hj, hwl, hw1, hw2, hi9, ho1⟩
   subst hM1
   have hnw : (w.map WaitV.segs).length = w.length := List.length_map ..
   have ho1w : OSl 54 28 (.slice (some ⟨b, 0, none⟩) (w.map WaitV.segs).length c) ha (w.map WaitV.segs) := by rw [hnw, hwl]; exact ho1
   rw [List.append_assoc]
   iterate 2 refine Zj ?_
   refine Za (l := [0, 1, 2, 3]) rfl ?_
   iterate 2 refine Zf ?_
   refine Zbb F.elem24 ?_; refine Zav ?_; refine Ze ?_; refine Zc ?_
   refine Zau rfl (fun hc2 => ?_) (fun hc2 => ?_)
   ·skip
    replace hc2 := dT hc2
    refine Zax ?_; refine Zc ?_; refine Zj ?_; refine Zbe ?_; refine Zj ?_; refine Za (l := [0, 1, 2, 3, 4, 5]) rfl ?_
    iterate 2 refine Zf ?_
    refine Zaa rfl rfl rfl rfl F.elem24 (by rfl) (by omega) (by exact ⟨_, _, rfl⟩) rfl ?_; refine X_load_osl rfl rfl rfl (by assumption) (by repeat first | exact Rem.here _ | exact Rem.two | apply Rem.skip | apply Rem.over) (by exact Zbl (by omega)) F.lay54 rfl rfl rfl ?_
    refine Zby F.zero54 ?_; intro b3
    refine Zas F.lay54 ?_; refine Ze ?_; refine Zc ?_; refine Zj ?_; refine Zdg (l := [0, 1, 2, 3]) [2] rfl ?_; refine Zf ?_; refine Zi F.lay54 ?_
    have hd8 := drop_at hwl (by omega : j < l.length) hw2
    have hcw := hc j (by omega) hb hin
    rw [← hd8] at hcw
    refine X_fhVW rfl rfl rfl rfl hok rfl rfl hcw (by repeat first | exact Rem.here _ | exact Rem.two | apply Rem.skip | apply Rem.over) (Zbq rfl) ?_
    rintro _ M1 h7 hm7 ⟨hM1, rfl, hin7⟩
    subst M1
    refine Zel ?_; refine Ze ?_; refine Zen ?_; refine Zc ?_
    refine Zau rfl (fun hc4 => ?_) (fun hc4 => ?_)
    ·simp only [Bool.not_eq_true', Bool.not_eq_false'] at hc4
     have hP := hc4
     refine Zj ?_; refine Za (l := [0, 1, 2, 3, 4]) rfl ?_
     iterate 2 refine Zf ?_
     refine Zi F.lay54 ?_; refine Zaa rfl rfl rfl rfl F.elem24 (by rfl) (by omega) (by exact ⟨_, _, rfl⟩) rfl ?_
     refine X_storeO (b := b) (j := i) rfl rfl rfl rfl (by constructor) (WaitV.flat _) F.lay54 rfl rfl ho1 (by repeat first | exact Rem.here _ | exact Rem.two | apply Rem.skip | apply Rem.over) (by omega) ?_; intro hs7 ho7
     replace ho7 : OSl 54 28 (.slice (some ⟨b, 0, none⟩) l.length c) hs7 ((w.set i w[j]).map WaitV.segs) := by rw [List.map_set]; exact ho7.as (by simp; omega)
     refine Ze ?_; refine Zc ?_; refine Za (l := [0, 1, 2]) rfl ?_; refine Zf ?_; refine Zcc rfl rfl rfl rfl rfl (by exact Zbf (by decide) (by omega)) rfl ?_; refine Zd ?_; refine Ze ?_; refine Zde ?_; refine Zc ?_; refine Za (l := [0, 1, 2]) rfl ?_; refine Zf ?_; refine Zcc rfl rfl rfl rfl rfl (by exact Zbf (by decide) (by omega)) rfl ?_; refine Zd ?_; refine Ze ?_; refine Zcr (a' := [(5, _), (6, _)]) (j + 1) (hs7 ++ h7) (.cons (k := 5) rfl (.cons (k := 6) rfl (.cons (k := 4) rfl (.cons (k := 0) rfl (.cons (k := 1) rfl (.nil)))))) (by exact Mem.le.refl _) (fun w hw => by first | exact hw | exact hw.c) ?_ ?_
     ·have hd9 := drop_at hwl (by omega : j < l.length) hw2
      have hp9 : p l[j] = false := by first | (simpa using hP) | (rw [← hd9]; simpa using hP)
      obtain ⟨e1, e2, e3⟩ := keep_put hwl hij (by omega : j < l.length) hw1 hw2
      exact ⟨i + 1, w.set i l[j], hs7, h7, rfl, rfl, rfl, hin7, by omega, by omega, e1, by rw [e2, filt_step (by omega : j < l.length), hp9]; rfl, e3, by rw [filt_step (by omega : j < l.length), hp9]; simp; omega, by first | exact ho7 | (rw [← hd9]; exact ho7)⟩
     ·omega
    ·simp only [Bool.not_eq_true', Bool.not_eq_false'] at hc4
     have hP := hc4
     refine Zax ?_; refine Zde ?_; refine Zc ?_; refine Za (l := [0, 1, 2]) rfl ?_; refine Zf ?_; refine Zcc rfl rfl rfl rfl rfl (by exact Zbf (by decide) (by omega)) rfl ?_; refine Zd ?_; refine Ze ?_; refine Zcr (a' := [(5, _), (6, _)]) (j + 1) (ha ++ h7) (.cons (k := 5) rfl (.cons (k := 6) rfl (.cons (k := 4) rfl (.cons (k := 0) rfl (.cons (k := 1) rfl (.nil)))))) (by exact Mem.le.refl _) (fun w hw => by first | exact hw | exact hw.c) ?_ ?_
     ·have hd9 := drop_at hwl (by omega : j < l.length) hw2
      have hp9 : p l[j] = true := by first | (simpa using hP) | (rw [← hd9]; simpa using hP)
      exact ⟨i, w, ha, h7, rfl, rfl, rfl, hin7, by omega, by omega, hwl, by rw [hw1, filt_step (by omega : j < l.length), hp9]; rfl, by have := congrArg (List.drop 1) hw2; simpa [List.drop_drop] using this, by rw [filt_step (by omega : j < l.length), hp9]; simpa using hi9, ho1⟩
     ·omega
   ·skip
    replace hc2 := dF hc2
    refine Zcm ?_
    iterate 2 refine Zcd ?_
    refine Zdl ?_; refine Zc ?_; refine Y_pk [5, 4, 0] ?_; refine Zj ?_; refine Za (l := [0, 1, 2, 3]) rfl ?_
    iterate 2 refine Zf ?_
    obtain rfl : j = l.length := by omega
    rw [List.take_length] at hw1 hi9
    have hcc := ho1.caps
    refine Zdw rfl rfl rfl (.some (k := i) rfl rfl) .none .none F.elem24 (by simp) (by simp only [Option.getD_none, Option.getD_some]; omega) (by simp only [Option.getD_none, Option.getD_some]; omega) (by simp) (show pieceV (some ⟨b, 0, none⟩) 28 i l.length c = .slice (some ⟨b, 0 + i * 28, none⟩) (l.length - i) (c - i) from Zew (by omega)) rfl ?_
    have hcut : OSl 54 28 (.slice (some ⟨b, 0, none⟩) ((kept p l).map WaitV.segs).length c) ha ((kept p l).map WaitV.segs) := (by have h9 := OSl.cut (k := i) (ho1.as rfl) (by omega); rw [← List.map_take, hw1] at h9; exact h9.as rfl)
    have hkl : ((kept p l).map WaitV.segs).length = i := by simp; omega
    refine X_clear_own rfl rfl rfl rfl rfl F.elem24 F.zero54 (Zei rfl) (flat_all (WaitV.flat WaitV.zero)) hcut (by repeat first | exact Rem.here _ | exact Rem.two | apply Rem.skip | apply Rem.over) (by omega) (by omega) putE_none ?_; intro hs8 ho8
    refine Ze ?_; refine Zc ?_; refine Y_pk [5, 4, 0] ?_; refine Zj ?_; refine Za (l := [0, 1, 2, 3]) rfl ?_
    iterate 2 refine Zf ?_
    refine Zdw rfl rfl rfl .none (.some (k := i) rfl rfl) .none F.elem24 (by simp) (by simp only [Option.getD_none, Option.getD_some]; omega) (by simp only [Option.getD_none, Option.getD_some]; omega) (by simp) (show pieceV (some ⟨b, 0, none⟩) 28 0 i c = .slice (some ⟨b, 0, none⟩) i c from pieceV_zero) rfl ?_; refine Zd ?_; refine Ze ?_; refine Zc ?_; refine Y_pk [4] ?_; refine Zak ?_
    refine Zaj (.inr rfl) (.tmp rfl .nil) (fun w hw => ?_)
    exact ⟨_, _, hs8 ++ hb, rfl, Mem.le.refl _, hw.c, rfl, hs8, hb, rfl, ho8.as (by omega), hin⟩
theorem DeleteIW_ok (M : Mem) (hs h0 : Hp) (a : Option Addr) (c : Nat) (l : List WaitV) (ho : OSl 54 28 (.slice a l.length c) hs (l.map WaitV.segs)) (bl : l.length ≤ 1000000) (gf : FuncId) (caps : List Value) (p : WaitV → Bool) (Inv : Nat → Hp → Prop) (hok : okFn Tryz.prog gf = true) (hc : ∀ j (hj : j < l.length) h, Inv j h → Fh Tryz.prog gf ([l[j].enc] ++ caps) M h (fun M' v Hout => M' = M ∧ v = .bool (p l[j]) ∧ Inv (j + 1) Hout)) (hi : Inv 0 h0) : Fh Tryz.prog 62 [.slice a l.length c, .func (.func gf) #[] caps.toArray] M (hs ++ h0) (fun M' v Hout => M' = M ∧ ∃ hs' h', Hout = hs' ++ h' ∧ OSl 54 28 v hs' ((kept p l).map WaitV.segs) ∧ Inv l.length h') := by
  by_cases h : idxF p l = -1
  ·exact DeleteIW_no M hs h0 a c l ho bl gf caps p Inv hok hc hi h
  ·obtain ⟨i0, h1, h2, h3, h4⟩ := idxF_some h
   obtain ⟨b, rfl⟩ := ho.someB (by omega)
   exact DeleteIW_yes M hs h0 b c l ho bl gf caps p Inv hok hc hi i0 h1 h2 h3
end Go.Proofs.YtpkeilhilpogiaaGreat
namespace Go.Proofs.YtpkeilhilpogiaaGreat
open Go.Esp
theorem F.lay65 : lay Tryz.prog 65 = some (false, 1) := by kernel_rfl
theorem F.ok101 : okFn Tryz.prog 101 = true := by kernel_rfl
theorem F.ok102 : okFn Tryz.prog 102 = true := by kernel_rfl
theorem F.ok103 : okFn Tryz.prog 103 = true := by kernel_rfl
theorem F.ok54 : okFn Tryz.prog 54 = true := by kernel_rfl
theorem F.ok64 : okFn Tryz.prog 64 = true := by kernel_rfl
theorem F.ok65 : okFn Tryz.prog 65 = true := by kernel_rfl
theorem isn_ok (M : Mem) (b : Nat) (n x : Int) : Fo Tryz.prog 103 ([.int .i64 x] ++ [.pointer (some ⟨b, 0, none⟩)]) M [(b, rowO [.one (.int .i64 n)] 3)] (fun M' v => M' = M ∧ v = .bool (decide (x = n))) := by
  refine Zfq Tryz.func103 rfl Tryz.ntmps103 rfl ?_; intro H
  refine Zj ?_; refine Za (l := [0]) rfl ?_; refine Zd ?_; refine Ze ?_; refine Zc ?_; refine Zj ?_; refine Za (l := [0, 1, 2, 3]) rfl ?_; refine Zf ?_; refine Zi F.lay3 ?_; refine Zav ?_; refine Zd ?_; refine Ze ?_; refine Zc ?_; refine Y_pk [3] ?_; refine Zak ?_
  refine Zaj (.inr rfl) (.tmp rfl .nil) (fun w hw => ?_)
  refine ⟨_, M, rfl, Mem.le.refl M, hw.c, rfl, ?_⟩
  clear hw
  rfl
theorem without_ok (M : Mem) (l_a : Option Addr) (l_c : Nat) (l_l : List Int) (k_l : SlK M (oneI .i64) 1 ⟨l_a, l_c, l_l⟩) (hb : l_l.length ≤ 1000) (n : Int) : Fh Tryz.prog 65 [.slice l_a l_l.length l_c, .int .i64 n] M [] (fun M' v Hout => M' = M ∧ ∃ a c, v = .slice a (l_l.filter (notI n)).length c ∧ OSl 3 1 v Hout ((l_l.filter (notI n)).map (oneI .i64))) := by
  refine Zfg Tryz.func65 rfl Tryz.ntmps65 rfl ?_; intro H
  refine Zj ?_; refine Za (l := [0, 1]) rfl ?_
  refine Zcz ?_; intro b1
  refine Zd ?_; refine Ze ?_; refine Zc ?_; refine Y_pk [4, 3, 0] ?_; refine Zj ?_; refine Za (l := [0, 1, 2, 3, 4]) rfl ?_; refine Zf ?_; refine Zgy rfl rfl F.ok102 rfl (CloneI_ok M l_a l_c l_l k_l (by omega)) (by repeat first | exact Rem.here _ | exact Rem.two | apply Rem.skip | apply Rem.over) (fun _ _ _ hm hw => (hw.lower (by exact hm)).c) (Zbq rfl) ?_
  rintro v0 M1 hs0 hm1 ⟨hM1, ho0⟩; subst M1
  obtain ⟨ad0, cp0, rfl⟩ := ho0.valL
  refine X_makeFunc rfl rfl rfl rfl rfl ?_
  refine X_fhR2 rfl rfl F.ok101 rfl (DeleteII_ok M hs0 [(b1, rowO [.one (.int .i64 n)] 3)] ad0 cp0 l_l ho0 (by omega) 103 [.pointer (some ⟨b1, 0, none⟩)] (fun x => decide (x = n)) (fun _ h => h = [(b1, rowO [.one (.int .i64 n)] 3)]) F.ok103 (fun j hj h hh => by
   subst hh
   exact fh_weak (fh_of_fo (isn_ok M b1 n l_l[j])) fun M9 v9 Ho9 ⟨⟨g1, g2⟩, g3⟩ => ⟨g1, g2, g3⟩) rfl) (by repeat first | exact Rem.here _ | exact Rem.two | apply Rem.skip | apply Rem.over) (by repeat first | exact Rem.here _ | exact Rem.two | apply Rem.skip | apply Rem.over) (by rintro v M9 _ w hm ⟨rfl, hs9, h9, rfl, _, rfl⟩ hw; exact hw.c) (Zbq rfl) ?_
  rintro v9 M1 _ hm1 ⟨hM1, hs9, h9, rfl, ho9, rfl⟩; subst M1
  rw [kept_not] at ho9
  obtain ⟨ad9, cp9, rfl⟩ := ho9.valL
  simp only [List.append_assoc, List.cons_append, List.nil_append]
  refine Zd ?_; refine Ze ?_; refine Zc ?_; refine Y_pk [4] ?_; refine Zak ?_
  refine Zaj (.inr rfl) (.tmp rfl .nil) (fun w hw => ?_)
  exact ⟨_, M, hs9, rfl, Mem.le.refl M, hw.c, rfl, ad9, cp9, rfl, ho9⟩
theorem done_ok (M : Mem) (bw : Nat) (Zaf Zx Zw r : Int) (Zr Zp l_a o_a : Option Addr) (Zq Zo l_c o_c : Nat) (Zh : List HeldV) (Zg : List WaitV) (l_l : List PeerV) (o_l : List PostV) (ho : Hp) (hO : OSl 51 37 (.slice o_a o_l.length o_c) ho (o_l.map PostV.segs)) (hL : o_l.length ≤ 80000) (x : WaitV) (k_x : SlK M (oneI .i64) 1 x.need) (hb : x.need.l.length ≤ 1000) (hcl : 0 ≤ x.client ∧ x.client ≤ 63) (frm : Int) : Fh Tryz.prog 64 [.pointer (some ⟨bw, 0, none⟩), x.enc, .int .i64 frm] M ((bw, rowO (WorkerV.segs ⟨⟨Zaf, Zx, ⟨Zr, Zq, Zh⟩, ⟨Zp, Zo, Zg⟩, Zw⟩, ⟨l_a, l_c, l_l⟩, r, ⟨o_a, o_c, o_l⟩⟩) 67) :: ho) (fun M' v Hout => M' = M ∧ v = .bool (decide (lessN x.pl frm = [])) ∧ ∃ (o9 : Sl PostV) (ho9 : Hp), Hout = (bw, rowO (WorkerV.segs ⟨⟨Zaf, Zx, ⟨Zr, Zq, Zh⟩, ⟨Zp, Zo, Zg⟩, Zw⟩, ⟨l_a, l_c, l_l⟩, r, o9⟩) 67) :: ho9 ∧ OSl 51 37 o9.val ho9 (o9.l.map PostV.segs) ∧ o9.l = o_l ++ if lessN x.pl frm = [] then [⟨1000 + x.client, ⟨2, Zx, 0, ⟨x.client, x.req, 0, 0, ⟨#[]⟩⟩, x.answer, 0, CellV.zero⟩⟩] else []) := by
  obtain ⟨Zgp, Zgg, Zgx, ⟨Zej, Zdo, Zes, Zer⟩, Zey, ⟨Zgf, Zge, Zep⟩⟩ := x
  simp only at hb hcl
  refine Zex (fun H => (bw, rowO (WorkerV.segs ⟨⟨Zaf, Zx, ⟨Zr, Zq, Zh⟩, ⟨Zp, Zo, Zg⟩, Zw⟩, ⟨l_a, l_c, l_l⟩, r, ⟨o_a, o_c, o_l⟩⟩) 67) :: (ho ++ H)) (fun _ => by simp only [List.append_assoc, List.cons_append, List.nil_append]) Tryz.func64 rfl Tryz.ntmps64 rfl ?_; intro H
  refine Zj ?_; refine Za (l := [0, 1]) rfl ?_
  refine Zcz ?_; intro b1
  refine Zd ?_; refine Ze ?_; refine Zc ?_; refine Y_pk [6, 4, 0, 2] ?_
  iterate 2 refine Zj ?_
  refine Za (l := [0, 1, 2, 3, 4, 5]) rfl ?_; refine Zb F.foff54_5 ?_; refine Zi F.lay52 ?_; refine Zf ?_; refine Zgy rfl rfl F.ok65 rfl (without_ok M Zgf Zge Zep k_x hb frm) (by repeat first | exact Rem.here _ | exact Rem.two | apply Rem.skip | apply Rem.over) (fun _ _ _ hm hw => (hw.lower (by exact hm)).c) (Zbq rfl) ?_
  rintro _ M1 hs1 hm1 ⟨hM1, adx, cpx, rfl, hox⟩; subst M1
  refine Zbb F.elem52 ?_; refine Zav ?_; refine Ze ?_; refine Zc ?_; refine Y_pk [12, 6, 4, 0] ?_
  refine Zau rfl (fun hc2 => ?_) (fun hc2 => ?_)
  ·replace hc2 := dT hc2
   refine Zj ?_; refine Za (l := [0]) rfl ?_; refine Zd ?_; refine Ze ?_; refine Zc ?_; refine Y_pk [6, 4, 0] ?_; refine Zak ?_; refine Zba ?_
   refine Zaj (.inr rfl) (.tmp rfl .nil) (fun w hw => ?_)
   have hne : ¬ lessN (WaitV.pl ⟨Zgp, Zgg, Zgx, ⟨Zej, Zdo, Zes, Zer⟩, Zey, ⟨Zgf, Zge, Zep⟩⟩) frm = [] := fun e9 => by
    have e8 : (Zep.filter (notI frm)).length = 0 := congrArg List.length e9
    omega
   refine ⟨_, M, (bw, rowO (WorkerV.segs ⟨⟨Zaf, Zx, ⟨Zr, Zq, Zh⟩, ⟨Zp, Zo, Zg⟩, Zw⟩, ⟨l_a, l_c, l_l⟩, r, ⟨o_a, o_c, o_l⟩⟩) 67) :: ho, rfl, Mem.le.refl M, ?_, rfl, congrArg Value.bool (decide_eq_false hne).symm, ⟨o_a, o_c, o_l⟩, ho, rfl, hO, ?_⟩
   ·exact hw.c
   ·rw [if_neg hne, List.append_nil]
  ·replace hc2 := dF hc2
   refine Zax ?_; refine Zc ?_; refine Y_pk [6, 4, 0] ?_; refine Zj ?_; refine Zdg (l := [0, 1, 2, 3, 4, 5, 6, 7]) [7] rfl ?_; refine Zf ?_; refine Zb F.foff54_1 ?_; refine Zi F.lay3 ?_; refine Zb F.foff54_2 ?_; refine Zi F.lay22 ?_; refine Zb F.foff54_3 ?_; refine Zi F.lay34 ?_; refine Zgm rfl rfl rfl F.ok54 rfl (reply_ok M bw Zaf Zx Zw r Zr Zp l_a o_a Zq Zo l_c o_c Zh Zg l_l o_l ho hO (by omega) Zgg Zgx ⟨Zej, Zdo, Zes, Zer⟩ hcl) (by repeat first | exact Rem.here _ | exact Rem.two | apply Rem.skip | apply Rem.over) (Zbq rfl) ?_
   rintro _ M1 hs1 hm1 ⟨hM1, rfl, ⟨o2_a, o2_c, o2_l⟩, ho2, rfl, hO2, ho2l⟩
   subst M1
   simp only at ho2l hO2
   simp only [List.append_assoc, List.cons_append, List.nil_append]
   refine Ze ?_; refine Zen ?_; refine Zc ?_; refine Y_pk [6] ?_; refine Zj ?_; refine Za (l := [0]) rfl ?_; refine Zd ?_; refine Ze ?_; refine Zc ?_; refine Zak ?_
   refine Zaj (.inr rfl) (.tmp rfl .nil) (fun w hw => ?_)
   have hne : lessN (WaitV.pl ⟨Zgp, Zgg, Zgx, ⟨Zej, Zdo, Zes, Zer⟩, Zey, ⟨Zgf, Zge, Zep⟩⟩) frm = [] := List.eq_nil_of_length_eq_zero (by show (Zep.filter (notI frm)).length = 0; omega)
   refine ⟨_, M, (bw, rowO (WorkerV.segs ⟨⟨Zaf, Zx, ⟨Zr, Zq, Zh⟩, ⟨Zp, Zo, Zg⟩, Zw⟩, ⟨l_a, l_c, l_l⟩, r, ⟨o2_a, o2_c, o2_l⟩⟩) 67) :: ho2, rfl, Mem.le.refl M, ?_, rfl, congrArg Value.bool (decide_eq_true hne).symm, ⟨o2_a, o2_c, o2_l⟩, ho2, rfl, hO2, ?_⟩
   ·simp only [WorkerV.segs, Sl.val] at hw ⊢
    exact hw.c
   ·rw [if_pos hne]
    exact ho2l
theorem goneW_ok (M : Mem) (bw : Nat) (Zaf Zx Zw r : Int) (Zr Zp l_a o_a : Option Addr) (Zq Zo l_c o_c : Nat) (Zh : List HeldV) (Zg : List WaitV) (l_l : List PeerV) (o_l : List PostV) (bs bp bf : Nat) (serial : Int) (ho : Hp) (hO : OSl 51 37 (.slice o_a o_l.length o_c) ho (o_l.map PostV.segs)) (hL : o_l.length ≤ 80000) (x : WaitV) (k_x : SlK M (oneI .i64) 1 x.need) (hb : x.need.l.length ≤ 1000) (hcl : 0 ≤ x.client ∧ x.client ≤ 63) (frm : Int) : Fh Tryz.prog 63 ([x.enc] ++ [.pointer (some ⟨bs, 0, none⟩), .pointer (some ⟨bp, 0, none⟩), .pointer (some ⟨bf, 0, none⟩)]) M ((bs, rowO [.one (.int .u64 serial)] 22) :: (bp, rowO [.one (.pointer (some ⟨bw, 0, none⟩))] 65) :: (bf, rowO [.one (.int .i64 frm)] 3) :: (bw, rowO (WorkerV.segs ⟨⟨Zaf, Zx, ⟨Zr, Zq, Zh⟩, ⟨Zp, Zo, Zg⟩, Zw⟩, ⟨l_a, l_c, l_l⟩, r, ⟨o_a, o_c, o_l⟩⟩) 67) :: ho) (fun M' v Hout => M' = M ∧ v = .bool (goneW frm serial x) ∧ ∃ (o9 : Sl PostV) (ho9 : Hp), Hout = (bs, rowO [.one (.int .u64 serial)] 22) :: (bp, rowO [.one (.pointer (some ⟨bw, 0, none⟩))] 65) :: (bf, rowO [.one (.int .i64 frm)] 3) :: (bw, rowO (WorkerV.segs ⟨⟨Zaf, Zx, ⟨Zr, Zq, Zh⟩, ⟨Zp, Zo, Zg⟩, Zw⟩, ⟨l_a, l_c, l_l⟩, r, o9⟩) 67) :: ho9 ∧ OSl 51 37 o9.val ho9 (o9.l.map PostV.segs) ∧ o9.l = o_l ++ (doneV Zx frm serial x).toList) := by
  obtain ⟨Zgp, Zgg, Zgx, ⟨Zej, Zdo, Zes, Zer⟩, Zey, ⟨Zgf, Zge, Zep⟩⟩ := x
  simp only at hb hcl
  refine Zex (fun H => (bs, rowO [.one (.int .u64 serial)] 22) :: (bp, rowO [.one (.pointer (some ⟨bw, 0, none⟩))] 65) :: (bf, rowO [.one (.int .i64 frm)] 3) :: (bw, rowO (WorkerV.segs ⟨⟨Zaf, Zx, ⟨Zr, Zq, Zh⟩, ⟨Zp, Zo, Zg⟩, Zw⟩, ⟨l_a, l_c, l_l⟩, r, ⟨o_a, o_c, o_l⟩⟩) 67) :: (ho ++ H)) (fun _ => by simp only [List.append_assoc, List.cons_append, List.nil_append]) Tryz.func63 rfl Tryz.ntmps63 rfl ?_; intro H
  refine Zj ?_; refine Za (l := [0, 1]) rfl ?_
  refine Zcz ?_; intro b1
  refine Zd ?_; refine Ze ?_; refine Zc ?_; refine Y_pk [5, 4, 1, 2, 3] ?_; refine Zj ?_; refine Zdg (l := [0, 1, 2, 3, 4, 5, 6, 7, 8, 9, 10]) [8] rfl ?_; refine Zb F.foff54_4 ?_
  iterate 2 refine Zi F.lay22 ?_
  refine Zav ?_; refine Zf ?_
  refine Zag 10 rfl (fun hc2 => ?_) (fun hc2 => ?_)
  ·replace hc2 := dT hc2
   refine Zi F.lay65 ?_; refine Zi F.lay54 ?_; refine Zi F.lay3 ?_; refine Zgm rfl rfl rfl F.ok64 rfl (done_ok M bw Zaf Zx Zw r Zr Zp l_a o_a Zq Zo l_c o_c Zh Zg l_l o_l ho hO (by omega) ⟨Zgp, Zgg, Zgx, ⟨Zej, Zdo, Zes, Zer⟩, Zey, ⟨Zgf, Zge, Zep⟩⟩ k_x hb hcl frm) (by repeat first | exact Rem.here _ | exact Rem.two | apply Rem.skip | apply Rem.over) (Zbq rfl) ?_
   rintro _ M1 hs1 hm1 ⟨hM1, rfl, ⟨o2_a, o2_c, o2_l⟩, ho2, rfl, hO2, ho2l⟩
   subst M1
   simp only at ho2l hO2
   simp only [List.append_assoc, List.cons_append, List.nil_append]
   refine Zl ?_; refine Zd ?_; refine Ze ?_; refine Zen ?_; refine Zc ?_; refine Y_pk [5] ?_; refine Zak ?_
   refine Zaj (.inr rfl) (.tmp rfl .nil) (fun w hw => ?_)
   have hse : Zey = serial := by first | assumption | omega
   refine ⟨_, M, (bs, rowO [.one (.int .u64 serial)] 22) :: (bp, rowO [.one (.pointer (some ⟨bw, 0, none⟩))] 65) :: (bf, rowO [.one (.int .i64 frm)] 3) :: (bw, rowO (WorkerV.segs ⟨⟨Zaf, Zx, ⟨Zr, Zq, Zh⟩, ⟨Zp, Zo, Zg⟩, Zw⟩, ⟨l_a, l_c, l_l⟩, r, ⟨o2_a, o2_c, o2_l⟩⟩) 67) :: ho2, rfl, Mem.le.refl M, ?_, rfl, congrArg Value.bool (decide_eq_decide.2 ⟨fun e9 => ⟨hse, e9⟩, fun e9 => e9.2⟩), ⟨o2_a, o2_c, o2_l⟩, ho2, rfl, hO2, ?_⟩
   ·simp only [WorkerV.segs, Sl.val] at hw ⊢
    exact hw.c
   ·show o2_l = _
    rw [ho2l]
    by_cases hln : lessN (WaitV.pl ⟨Zgp, Zgg, Zgx, ⟨Zej, Zdo, Zes, Zer⟩, Zey, ⟨Zgf, Zge, Zep⟩⟩) frm = []
    ·rw [if_pos hln, show doneV Zx frm serial ⟨Zgp, Zgg, Zgx, ⟨Zej, Zdo, Zes, Zer⟩, Zey, ⟨Zgf, Zge, Zep⟩⟩ = some _ from if_pos ⟨hse, hln⟩]; rfl
    ·rw [if_neg hln, show doneV Zx frm serial ⟨Zgp, Zgg, Zgx, ⟨Zej, Zdo, Zes, Zer⟩, Zey, ⟨Zgf, Zge, Zep⟩⟩ = none from if_neg (fun e9 => hln e9.2)]; rfl
  ·replace hc2 := dF hc2
   iterate 4 refine Zz ?_
   refine Zl ?_; refine Zd ?_; refine Ze ?_; refine Zen ?_; refine Zc ?_; refine Y_pk [5] ?_; refine Zak ?_
   refine Zaj (.inr rfl) (.tmp rfl .nil) (fun w hw => ?_)
   have hne : ¬ (Zey = serial ∧ lessN (WaitV.pl ⟨Zgp, Zgg, Zgx, ⟨Zej, Zdo, Zes, Zer⟩, Zey, ⟨Zgf, Zge, Zep⟩⟩) frm = []) := fun e9 => absurd e9.1 (by assumption)
   refine ⟨_, M, (bs, rowO [.one (.int .u64 serial)] 22) :: (bp, rowO [.one (.pointer (some ⟨bw, 0, none⟩))] 65) :: (bf, rowO [.one (.int .i64 frm)] 3) :: (bw, rowO (WorkerV.segs ⟨⟨Zaf, Zx, ⟨Zr, Zq, Zh⟩, ⟨Zp, Zo, Zg⟩, Zw⟩, ⟨l_a, l_c, l_l⟩, r, ⟨o_a, o_c, o_l⟩⟩) 67) :: ho, rfl, Mem.le.refl M, ?_, rfl, congrArg Value.bool (decide_eq_false hne).symm, ⟨o_a, o_c, o_l⟩, ho, rfl, hO, ?_⟩
   ·exact hw.c
   ·show o_l = o_l ++ _
    rw [show doneV Zx frm serial ⟨Zgp, Zgg, Zgx, ⟨Zej, Zdo, Zes, Zer⟩, Zey, ⟨Zgf, Zge, Zep⟩⟩ = none from if_neg hne]; simp
end Go.Proofs.YtpkeilhilpogiaaGreat
namespace Go.Esp
def SortedTo (w : List Int) (i : Nat) : Prop := ∀ p q (hp : p < w.length) (hq : q < w.length), p < q → q < i → w[p] ≤ w[q]
def InsTo (u : List Int) (i j : Nat) : Prop := ∀ p q (hp : p < u.length) (hq : q < u.length), p < q → q ≤ i → q ≠ j → u[p] ≤ u[q]
theorem ins_start {w : List Int} {i : Nat} (h : SortedTo w i) : InsTo w i i := fun p q hp hq h1 h2 h3 => h p q hp hq h1 (by omega)
theorem ins_end {u : List Int} {i j : Nat} (h : InsTo u i j) (hj : j < u.length) (hle : ∀ h0 : 0 < j, u[j - 1]'(by omega) ≤ u[j]) : SortedTo u (i + 1) := fun p q hp hq h1 h2 => by
  by_cases hqj : q = j
  · subst hqj
    have h3 := hle (by omega)
    rcases Nat.lt_or_ge p (q - 1) with h4 | h4
    · have := h p (q - 1) hp (by omega) h4 (by omega) (by omega)
      omega
    · have e : p = q - 1 := by omega
      subst e; exact h3
  · exact h p q hp hq h1 (by omega) hqj
def swap1 (u : List Int) (j : Nat) (hj : j < u.length) : List Int := (u.set j (u[j - 1]'(by omega))).set (j - 1) u[j]
theorem swap1_perm {u : List Int} {j : Nat} (hj : j < u.length) : (swap1 u j hj).Perm u := List.set_set_perm hj (by omega)
theorem swap1_len {u : List Int} {j : Nat} (hj : j < u.length) : (swap1 u j hj).length = u.length := by unfold swap1; simp
theorem swap1_at {u : List Int} {j : Nat} (hj : j < u.length) (h0 : 0 < j) {q : Nat} (hq : q < u.length) : (swap1 u j hj)[q]'(by rw [swap1_len]; exact hq) = if q = j then u[j - 1]'(by omega) else if q = j - 1 then u[j] else u[q] := by
  unfold swap1
  rw [List.getElem_set, List.getElem_set]
  by_cases h1 : q = j
  · subst h1
    rw [if_neg (by omega), if_pos rfl, if_pos rfl]
  · by_cases h2 : q = j - 1
    · subst h2
      rw [if_pos rfl, if_neg h1, if_pos rfl]
    · rw [if_neg (fun e => h2 e.symm), if_neg (fun e => h1 e.symm), if_neg h1, if_neg h2]
theorem ins_step {u : List Int} {i j : Nat} (h : InsTo u i j) (hj : j < u.length) (hji : j ≤ i) (h0 : 0 < j) (hlt : u[j] < u[j - 1]'(by omega)) : InsTo (swap1 u j hj) i (j - 1) := fun p q hp hq h1 h2 h3 => by
  have gp : p < u.length := by rw [swap1_len] at hp; exact hp
  have gq : q < u.length := by rw [swap1_len] at hq; exact hq
  rw [swap1_at hj h0 gp, swap1_at hj h0 gq]
  by_cases hqj : q = j
  · subst hqj
    rw [if_pos rfl, if_neg (by omega)]
    by_cases hpj : p = q - 1
    · rw [if_pos hpj]; omega
    · rw [if_neg hpj]
      exact h p (q - 1) gp (by omega) (by omega) (by omega) (by omega)
  · rw [if_neg hqj, if_neg h3]
    by_cases hpj : p = j
    · rw [if_pos hpj]
      exact h (j - 1) q (by omega) gq (by omega) h2 hqj
    · rw [if_neg hpj]
      by_cases hpj1 : p = j - 1
      · rw [if_pos hpj1]
        exact h j q hj gq (by omega) h2 hqj
      · rw [if_neg hpj1]
        exact h p q gp gq h1 h2 hqj
theorem sorted_pw {w : List Int} {i : Nat} (h : SortedTo w i) (hi : w.length ≤ i) : w.Pairwise (fun x y => x ≤ y) := List.pairwise_iff_getElem.2 fun p q hp hq h1 => h p q hp hq h1 (by omega)
theorem int_sorted_eq : ∀ {a b : List Int}, a.Perm b → a.Pairwise (fun x y => x ≤ y) → b.Pairwise (fun x y => x < y) → a = b
  | [], b, hp, _, _ => (List.nil_perm.1 hp).symm
  | x :: a, [], hp, _, _ => absurd (List.perm_nil.1 hp) (by simp)
  | x :: a, y :: b, hp, ha, hb => by
    have h1 := List.pairwise_cons.1 ha
    have h2 := List.pairwise_cons.1 hb
    have e : x = y := by
      rcases List.mem_cons.1 (hp.mem_iff.1 (.head _)) with e | hx
      · exact e
      · rcases List.mem_cons.1 (hp.mem_iff.2 (.head _)) with e | hy
        · exact e.symm
        · have h3 := h2.1 x hx
          have h4 := h1.1 y hy
          omega
    subst e
    rw [int_sorted_eq ((List.perm_cons x).1 hp) h1.2 h2.2]
theorem copies_pos {l : List PeerV} (hl : IsCircle l) {x : Plc} {r : Int} (hr : 1 ≤ r ∧ r ≤ 8) : 1 ≤ (copiesR l x r).1.length := by
  unfold copiesR
  rw [if_pos ⟨hl, hr.1, hr.2⟩]
  simp only [List.length_map, List.length_range]
  have := hl.1.1
  omega
theorem others_sorted {l : List PeerV} (hl : IsCircle l) {r : Int} (hr : 1 ≤ r ∧ r ≤ 8) {key : Plc} {q : List Int} (hp : q.Perm (addrsR l (copiesR l key r).1)) (hs : q.Pairwise (fun x y => x ≤ y)) : q = othersR l r key := by
  obtain ⟨hcn, hca⟩ := copies_at hl hr (x := key) rfl
  have hnd := addrs_nodup hl hcn hca
  have hb : ∀ a ∈ addrsR l (copiesR l key r).1, 0 ≤ a ∧ a ≤ 999 := fun a ha => by
    obtain ⟨j, hj, rfl⟩ := List.getElem_of_mem ha
    rw [addrs_len] at hj
    obtain ⟨i, hi, hil⟩ := hca (j + 1) (by omega)
    have h9 := addrs_at (l := l) (k := j + 1) (by omega) (by omega) hi hil
    simp only [Nat.add_sub_cancel] at h9
    rw [List.getElem?_eq_getElem (by rw [addrs_len]; omega)] at h9
    rw [Option.some.inj h9]
    exact hl.2.1 _ (List.getElem_mem _)
  refine int_sorted_eq (hp.trans ?_) hs upto_sorted
  refine (List.perm_ext_iff_of_nodup hnd (upto_sorted.imp (fun h => by omega))).2 fun a => ?_
  rw [upto_mem]
  exact ⟨fun h => ⟨h, (hb a h).1, by have := (hb a h).2; show a < ((1000 : Nat) : Int); omega⟩, fun h => h.1⟩
theorem addrs_step {l : List PeerV} {c : List Int} {k : Nat} (hk : k + 1 < c.length) {i : Nat} (e : c[k + 1] = (i : Int)) (hi : i < l.length) : (addrsR l c).take (k + 1) = (addrsR l c).take k ++ [l[i].addr] := by
  rw [List.take_add_one, show (addrsR l c)[k]? = some l[i].addr from by have h9 := addrs_at (l := l) (k := k + 1) (by omega) hk e hi; simpa using h9]; rfl
end Go.Esp
namespace Go.Proofs.YtpkeilhilpogiaaGreat
open Go.Esp
theorem F.ok115 : okFn Tryz.prog 115 = true := by kernel_rfl
theorem F.ok124 : okFn Tryz.prog 124 = true := by kernel_rfl
theorem F.ok130 : okFn Tryz.prog 130 = true := by kernel_rfl
theorem F.ok143 : okFn Tryz.prog 143 = true := by kernel_rfl
theorem isNaN_ok (M : Mem) (x : Int) : Fs Tryz.prog 143 [.int .i64 x] M (fun v => v = Value.bool (false)) := by
  refine Zci Tryz.func143 rfl Tryz.ntmps143 rfl ?_; intro H
  refine Zj ?_; refine Za (l := [0]) rfl ?_; refine Zd ?_; refine Ze ?_; refine Zc ?_; refine Zj ?_; refine Za (l := [0, 1, 2, 3]) rfl ?_
  iterate 2 refine Zf ?_
  refine Zav ?_; refine Zd ?_; refine Ze ?_; refine Zc ?_; refine Y_pk [2] ?_; refine Zak ?_
  refine Zaj (.inr rfl) (.tmp rfl .nil) (fun w hw => ?_)
  refine ⟨_, rfl, (hw.c), ?_⟩
  clear hw
  (simp; rfl)
theorem lessI_ok (M : Mem) (x : Int) (y : Int) : Fs Tryz.prog 130 [.int .i64 x, .int .i64 y] M (fun v => v = Value.bool (decide (x < y))) := by
  refine Zci Tryz.func130 rfl Tryz.ntmps130 rfl ?_; intro H
  refine Zj ?_; refine Za (l := [0]) rfl ?_; refine Zd ?_; refine Ze ?_; refine Zc ?_; refine Zj ?_; refine Za (l := [0, 1, 2, 3, 4, 5, 6, 7, 8, 9, 10, 11, 12]) rfl ?_; refine Zf ?_; refine X_fs rfl rfl F.ok143 rfl (isNaN_ok _ _) rfl ?_
  rintro _ rfl
  refine Zf ?_
  refine Zag 7 rfl (fun hc1 => ?_) (fun hc1 => ?_)
  ·skip
   (exfalso; simp [eqX] at hc1; done)
  ·skip
   simp only [AnswerV.eta, MarkV.eta, CellV.eta, HeldV.eta, WaitV.eta, ServerV.eta, PeerV.eta, OpV.eta, ParcelV.eta, PostV.eta, WorkerV.eta] at hc1
   iterate 3 refine Zz ?_
   refine Zl ?_
   iterate 3 refine Zf ?_
   refine Zav ?_; refine Zl ?_; refine Zd ?_; refine Ze ?_; refine Zc ?_; refine Y_pk [4] ?_; refine Zak ?_
   refine Zaj (.inr rfl) (.tmp rfl .nil) (fun w hw => ?_)
   refine ⟨_, rfl, (hw.c), ?_⟩
   clear hw
   rfl
theorem InsO_ok (M : Mem) (a : Option Addr) (n c : Nat) (l : List Int) (hln : l.length = n) (hn : n ≤ 12) (hs : Hp) (ho : OSl 3 1 (.slice a n c) hs (l.map (oneI .i64))) : Fh Tryz.prog 124 [.slice a n c, .int .i64 0, .int .i64 (n : Int)] M hs (fun M' v Hout => M' = M ∧ v = .tuple #[] ∧ ∃ l' : List Int, l'.Perm l ∧ l'.Pairwise (fun x y => x ≤ y) ∧ OSl 3 1 (.slice a n c) Hout (l'.map (oneI .i64))) := by
  refine Zfg Tryz.func124 rfl Tryz.ntmps124 rfl ?_; intro H
  refine Zj ?_; refine Za (l := [0, 1, 2]) rfl ?_; refine Zf ?_; refine Zcc rfl rfl rfl rfl rfl (by exact Zbf (by decide) (by omega)) rfl ?_; refine Zd ?_; refine Ze ?_; refine Zc ?_; refine Y_pk [6, 0, 1, 2] ?_; refine Zbe ?_; refine Y_pk [6, 0, 1, 2] ?_; refine Zeo (Hin := hs) (.succ .zero) (by repeat first | exact Rem.here _ | exact Rem.two | apply Rem.skip | apply Rem.over) (fun (i : Nat) M1 h1 z => ∃ w : List Int, M1 = M ∧ z = [(6, .int .i64 (i : Int))] ∧ 1 ≤ i ∧ (i ≤ n ∨ i = 1) ∧ w.length = n ∧ w.Perm l ∧ SortedTo w i ∧ OSl 3 1 (.slice a n c) h1 (w.map (oneI .i64))) (fun i => n - i) (1) (⟨l, rfl, rfl, by omega, by omega, hln, .refl _, (fun p q hp hq h1 h2 => by omega), ho⟩) ?_
  rintro i M1 h1 z hm1 ⟨wl, hM1, rfl, hi1, hin, hwl, hwp, hws, ho1⟩
  subst M1
  iterate 2 refine Zj ?_
  refine Za (l := [0, 1, 2]) rfl ?_
  iterate 2 refine Zf ?_
  refine Zav ?_; refine Ze ?_; refine Zc ?_
  refine Zau rfl (fun hc1 => ?_) (fun hc1 => ?_)
  ·replace hc1 := dT hc1
   refine Zax ?_; refine Zc ?_; refine Zj ?_; refine Zbe ?_; refine Zj ?_; refine Za (l := [0, 1]) rfl ?_; refine Zf ?_; refine Zd ?_; refine Ze ?_; refine Zc ?_; refine Zbe ?_; refine Y_pk [7, 15, 12, 11, 10, 6, 0, 1, 2] ?_; refine Zeo (Hin := h1) (.succ .zero) (by repeat first | exact Rem.here _ | exact Rem.two | apply Rem.skip | apply Rem.over) (fun (j : Nat) M2 h2 z => ∃ u : List Int, M2 = M ∧ z = [(7, .int .i64 (j : Int))] ∧ j ≤ i ∧ u.length = n ∧ u.Perm l ∧ InsTo u i j ∧ OSl 3 1 (.slice a n c) h2 (u.map (oneI .i64))) (fun j => j) (i) (⟨wl, rfl, rfl, by omega, hwl, hwp, ins_start hws, ho1⟩) ?_
   rintro j M2 h2 z hm2 ⟨u, hM2, rfl, hji, hul, hup, hus, ho2⟩
   subst M2
   have hnu : (u.map (oneI .i64)).length = u.length := List.length_map ..
   have hjn : j < u.length := by omega
   iterate 2 refine Zj ?_
   refine Zar (l := [0, 1, 2, 3, 4, 5, 6, 7, 8, 9, 10, 11, 12, 13, 14]) #[0, 0, 3, 7, 15, 15, 63, 127, 15, 15, 527, 1807, 3855, 8191, 16383] _ rfl (by kernel_rfl) (by kernel_rfl) St.drawn (fun _ h => h) ?_
   iterate 2 refine Zf ?_
   refine Zav ?_; refine Zf ?_
   refine Zag 19 rfl (fun hc2 => ?_) (fun hc2 => ?_)
   ·replace hc2 := dT hc2
    iterate 2 refine Zf ?_
    refine Zaa rfl rfl rfl rfl F.elem52 (by rfl) (by omega) (by exact OSl.plain (by assumption) (by (simp; omega))) rfl ?_; refine X_load_osl rfl rfl rfl (by assumption) (by repeat first | exact Rem.here _ | exact Rem.two | apply Rem.skip | apply Rem.over) (by exact Zbl (by omega)) F.lay3 rfl rfl rfl ?_
    iterate 2 refine Zf ?_
    refine Zcc rfl rfl rfl rfl rfl (by exact Zbf (by decide) (by omega)) rfl ?_
    rw [show ((j : Nat) : Int) - 1 = ((j - 1 : Nat) : Int) by omega]
    refine Zaa rfl rfl rfl rfl F.elem52 (by rfl) (by omega) (by exact OSl.plain (by assumption) (by (simp; omega))) rfl ?_; refine X_load_osl rfl rfl rfl (by assumption) (by repeat first | exact Rem.here _ | exact Rem.two | apply Rem.skip | apply Rem.over) (by exact Zbl (by omega)) F.lay3 rfl rfl rfl ?_; refine X_fs rfl rfl F.ok130 rfl (lessI_ok _ _ _) rfl ?_
    rintro _ rfl
    refine Zl ?_; refine Ze ?_; refine Zc ?_
    refine Zau rfl (fun hc3 => ?_) (fun hc3 => ?_)
    ·replace hc3 := dT hc3
     refine Zax ?_; refine Zc ?_; refine Zj ?_; refine Zbe ?_; refine Zar (l := [0, 1, 2, 3, 4, 5, 6, 7, 8, 9, 10, 11, 12, 13, 14, 15, 16, 17]) #[0, 0, 0, 0, 8, 0, 0, 64, 224, 480, 0, 0, 3072, 7168, 16355, 32739, 65535, 131071] _ rfl (by kernel_rfl) (by kernel_rfl) St.drawn (fun _ h => h) ?_
     iterate 4 refine Zf ?_
     refine Zcc rfl rfl rfl rfl rfl (by exact Zbf (by decide) (by omega)) rfl ?_
     rw [show ((j : Nat) : Int) - 1 = ((j - 1 : Nat) : Int) by omega]
     iterate 2 refine Zf ?_
     refine Zcc rfl rfl rfl rfl rfl (by exact Zbf (by decide) (by omega)) rfl ?_
     rw [show ((j : Nat) : Int) - 1 = ((j - 1 : Nat) : Int) by omega]
     refine Zaa rfl rfl rfl rfl F.elem52 (by rfl) (by omega) (by exact OSl.plain (by assumption) (by (simp; omega))) rfl ?_; refine X_load_osl rfl rfl rfl (by assumption) (by repeat first | exact Rem.here _ | exact Rem.two | apply Rem.skip | apply Rem.over) (by exact Zbl (by omega)) F.lay3 rfl rfl rfl ?_
     iterate 2 refine Zf ?_
     refine Zaa rfl rfl rfl rfl F.elem52 (by rfl) (by omega) (by exact OSl.plain (by assumption) (by (simp; omega))) rfl ?_; refine X_load_osl rfl rfl rfl (by assumption) (by repeat first | exact Rem.here _ | exact Rem.two | apply Rem.skip | apply Rem.over) (by exact Zbl (by omega)) F.lay3 rfl rfl rfl ?_; refine Zaa rfl rfl rfl rfl F.elem52 (by rfl) (by omega) (by exact OSl.plain (by assumption) (by (simp; omega))) rfl ?_
     obtain ⟨b6, rfl⟩ := ho2.someB (by omega)
     refine X_storeO (b := b6) (j := j) rfl rfl rfl rfl (by constructor) (Zam rfl Zbp) F.lay3 rfl rfl ho2 (by repeat first | exact Rem.here _ | exact Rem.two | apply Rem.skip | apply Rem.over) (by simp; omega) ?_; intro hs7 ho7
     replace ho7 : OSl 3 1 (.slice (some ⟨b6, 0, none⟩) n c) hs7 ((u.set j (u[j - 1]'(by omega))).map (oneI .i64)) := by rw [List.map_set]; exact ho7.as (by simp; omega)
     refine Zaa rfl rfl rfl rfl F.elem52 (by rfl) (by omega) (by exact ⟨_, _, rfl⟩) rfl ?_
     refine X_storeO (b := b6) (j := j - 1) rfl rfl rfl rfl (by constructor) (Zam rfl Zbp) F.lay3 rfl rfl ho7 (by repeat first | exact Rem.here _ | exact Rem.two | apply Rem.skip | apply Rem.over) (by simp; omega) ?_; intro hs8 ho8
     replace ho8 : OSl 3 1 (.slice (some ⟨b6, 0, none⟩) n c) hs8 ((swap1 u j hjn).map (oneI .i64)) := by unfold swap1; rw [List.map_set]; exact ho8.as (by simp; omega)
     refine Ze ?_; refine Zde ?_; refine Zc ?_; refine Za (l := [0, 1, 2]) rfl ?_; refine Zf ?_; refine Zcc rfl rfl rfl rfl rfl (by exact Zbf (by decide) (by omega)) rfl ?_
     rw [show ((j : Nat) : Int) - 1 = ((j - 1 : Nat) : Int) by omega]
     refine Zd ?_; refine Ze ?_; refine Zcr (a' := [(7, _)]) (j - 1) (hs8) (.cons (k := 7) rfl (.cons (k := 15) rfl (.cons (k := 12) rfl (.cons (k := 11) rfl (.cons (k := 10) rfl (.cons (k := 6) rfl (.cons (k := 0) rfl (.cons (k := 1) rfl (.cons (k := 2) rfl (.nil)))))))))) (by exact Mem.le.refl _) (fun w hw => by first | exact hw | exact hw.c) ?_ ?_
     ·exact ⟨swap1 u j hjn, rfl, rfl, by omega, by rw [swap1_len]; exact hul, (swap1_perm hjn).trans hup, ins_step hus hjn hji (by omega) (by assumption), ho8⟩
     ·omega
    ·replace hc3 := dF hc3
     refine Zcm ?_
     iterate 2 refine Zcd ?_
     refine Zdl ?_; refine Zde ?_; refine Zc ?_; refine Za (l := [0, 1, 2]) rfl ?_; refine Zf ?_; refine Zcc rfl rfl rfl rfl rfl (by exact Zbf (by decide) (by omega)) rfl ?_; refine Zd ?_; refine Ze ?_; refine Zcr (a' := [(6, _)]) (i + 1) (h2) (.cons (k := 6) rfl (.cons (k := 0) rfl (.cons (k := 1) rfl (.cons (k := 2) rfl (.nil))))) (by exact Mem.le.refl _) (fun w hw => by first | exact hw | exact hw.c) ?_ ?_
     ·exact ⟨u, rfl, rfl, by omega, by omega, hul, hup, ins_end hus (by omega) (fun h0 => by first | omega | (exfalso; omega)), ho2⟩
     ·omega
   ·replace hc2 := dF hc2
    iterate 10 refine Zz ?_
    refine Zl ?_; refine Ze ?_; refine Zc ?_; refine Zeu rfl ?_; refine Zcm ?_
    iterate 2 refine Zcd ?_
    refine Zdl ?_; refine Zde ?_; refine Zc ?_; refine Za (l := [0, 1, 2]) rfl ?_; refine Zf ?_; refine Zcc rfl rfl rfl rfl rfl (by exact Zbf (by decide) (by omega)) rfl ?_; refine Zd ?_; refine Ze ?_; refine Zcr (a' := [(6, _)]) (i + 1) (h2) (.cons (k := 6) rfl (.cons (k := 0) rfl (.cons (k := 1) rfl (.cons (k := 2) rfl (.nil))))) (by exact Mem.le.refl _) (fun w hw => by first | exact hw | exact hw.c) ?_ ?_
    ·exact ⟨u, rfl, rfl, by omega, by omega, hul, hup, ins_end hus (by omega) (fun h0 => by first | omega | (exfalso; omega)), ho2⟩
    ·omega
  ·replace hc1 := dF hc1
   refine Zcm ?_
   iterate 2 refine Zcd ?_
   refine Zdl ?_
   refine Zaj (.inl rfl) (.nil) (fun w hw => ?_)
   exact ⟨_, M, h1, rfl, Mem.le.refl M, hw.c, rfl, rfl, wl, hwp, sorted_pw hws (by omega), ho1⟩
theorem PdqO_ok (M : Mem) (a : Option Addr) (n c : Nat) (l : List Int) (hln : l.length = n) (hn : n ≤ 12) (hs : Hp) (ho : OSl 3 1 (.slice a n c) hs (l.map (oneI .i64))) (lim : Int) : Fh Tryz.prog 115 [.slice a n c, .int .i64 0, .int .i64 (n : Int), .int .i64 lim] M hs (fun M' v Hout => M' = M ∧ v = .tuple #[] ∧ ∃ l' : List Int, l'.Perm l ∧ l'.Pairwise (fun x y => x ≤ y) ∧ OSl 3 1 (.slice a n c) Hout (l'.map (oneI .i64))) := by
  refine Zfg Tryz.func115 rfl Tryz.ntmps115 rfl ?_; intro H
  refine Zj ?_; refine Za (l := [0]) rfl ?_; refine Zd ?_; refine Ze ?_; refine Zc ?_; refine Zj ?_; refine Za (l := [0]) rfl ?_; refine Zd ?_; refine Ze ?_; refine Zc ?_; refine Zbe ?_; refine Y_pk [1, 2, 3, 8, 9, 0] ?_; refine Zed (.succ (.succ (.succ (.succ (.succ .zero))))) (fun (_ : Nat) z => z = [(1, .int .i64 0), (2, .int .i64 (n : Int)), (3, .int .i64 lim), (8, .bool true), (9, .bool true)]) (fun _ => 1) (0) (rfl) ?_
  rintro _ _ rfl
  refine Zbe ?_; refine Zj ?_; refine Za (l := [0, 1, 2, 3]) rfl ?_
  iterate 2 refine Zf ?_
  refine Zcc rfl rfl rfl rfl rfl (by exact Zbf (by decide) (by omega)) rfl ?_; refine Zd ?_; refine Ze ?_; refine Zc ?_
  iterate 2 refine Zj ?_
  refine Za (l := [0, 1]) rfl ?_; refine Zf ?_; refine Zav ?_; refine Ze ?_; refine Zc ?_
  refine Zau rfl (fun hc1 => ?_) (fun hc1 => ?_)
  ·replace hc1 := dT hc1
   refine Zj ?_; refine Zdg (l := [0, 1, 2, 3]) [3] rfl ?_
   iterate 3 refine Zf ?_
   refine Zgm rfl rfl rfl F.ok124 rfl (InsO_ok M a n c l hln hn hs ho) (by repeat first | exact Rem.here _ | exact Rem.two | apply Rem.skip | apply Rem.over) (Zbq rfl) ?_
   rintro _ M1 hs9 hm1 ⟨hM1, rfl, l9, hp9, hq9, ho9⟩
   subst M1
   refine Ze ?_; refine Zen ?_; refine Zc ?_; refine Y_pk [26, 25, 24, 23, 22, 10, 21, 20, 19, 1, 2, 3, 8, 9, 0] ?_; refine Zak ?_; refine Zba ?_; refine Zbj ?_; refine Zba ?_; refine Zbj ?_
   refine Zaj (.inr rfl) (.nil) (fun w hw => ?_)
   exact ⟨_, M, hs9, rfl, Mem.le.refl M, hw.c, rfl, rfl, l9, hp9, hq9, ho9⟩
  ·replace hc1 := dF hc1
   (exfalso; omega)
theorem LenO_ok (M : Mem) (n : Nat) (hn : n ≤ 12) : Fs Tryz.prog 116 [.int .u64 (n : Int)] M (fun v => v = .int .i64 ((Lib.bitLen n : Nat) : Int)) := fun H w hw => (Any.bits_Len (SlLaysF0.n15.bits (P := Tryz.prog) (ρ := Tryz.sortL_ren) { Tryz.sortL with }) n w (by omega) (by omega)).mono fun _ _ ⟨he, hw2⟩ => ⟨_, he, by rw [hw2]; exact hw, rfl⟩
theorem SortO_ok (M : Mem) (a : Option Addr) (n c : Nat) (l : List Int) (hln : l.length = n) (hn : n ≤ 12) (hs : Hp) (ho : OSl 3 1 (.slice a n c) hs (l.map (oneI .i64))) : Fh Tryz.prog 96 [.slice a n c] M hs (fun M' v Hout => M' = M ∧ v = .tuple #[] ∧ ∃ l' : List Int, l'.Perm l ∧ l'.Pairwise (fun x y => x ≤ y) ∧ OSl 3 1 (.slice a n c) Hout (l'.map (oneI .i64))) := by
  refine Zfg Tryz.func96 rfl Tryz.ntmps96 rfl ?_; intro H
  refine Zj ?_; refine Za (l := [0, 1, 2]) rfl ?_; refine Zf ?_; refine Zbb F.elem52 ?_; refine Zd ?_; refine Ze ?_; refine Zc ?_; refine Y_pk [2, 0] ?_; refine Zdg (l := [0, 1, 2, 3, 4, 5]) [5] rfl ?_
  iterate 3 refine Zf ?_
  refine X_conv rfl rfl rfl Tryz.underlying3 Tryz.underlying144 (by exact wrap_u64_in (by decide) (by omega)) rfl ?_; refine X_fs rfl rfl F.ok116 rfl (LenO_ok M n hn) rfl ?_
  rintro _ rfl
  refine Zgm rfl rfl rfl F.ok115 rfl (PdqO_ok M a n c l hln hn hs ho _) (by repeat first | exact Rem.here _ | exact Rem.two | apply Rem.skip | apply Rem.over) (Zbq rfl) ?_
  rintro _ M1 hs9 hm1 ⟨hM1, rfl, l9, hp9, hq9, ho9⟩
  subst M1
  refine Ze ?_; refine Zen ?_
  refine Zaj (.inl rfl) (.nil) (fun w hw => ?_)
  exact ⟨_, M, hs9, rfl, Mem.le.refl M, hw.c, rfl, rfl, l9, hp9, hq9, ho9⟩
end Go.Proofs.YtpkeilhilpogiaaGreat
namespace Go.Proofs.YtpkeilhilpogiaaGreat
open Go.Esp
theorem F.foff67_1 : foff Tryz.prog 67 1 = some 5 := by kernel_rfl
theorem F.foff67_2 : foff Tryz.prog 67 2 = some 6 := by kernel_rfl
theorem F.ok95 : okFn Tryz.prog 95 = true := by kernel_rfl
theorem F.ok96 : okFn Tryz.prog 96 = true := by kernel_rfl
theorem others_ok9 (M : Mem) (bw : Nat) (Zaf Zx Zw r : Int) (Zr Zp l_a o_a : Option Addr) (Zq Zo l_c o_c : Nat) (Zh : List HeldV) (Zg : List WaitV) (l_l : List PeerV) (o_l : List PostV) (k_l : SlK M PeerV.segs 21 ⟨l_a, l_c, l_l⟩) (hci : IsCircle l_l) (hr : 1 ≤ r ∧ r ≤ 8) (key : Plc) : Fh Tryz.prog 58 [.pointer (some ⟨bw, 0, none⟩), aggV [idSeg key]] M [(bw, rowO (WorkerV.segs ⟨⟨Zaf, Zx, ⟨Zr, Zq, Zh⟩, ⟨Zp, Zo, Zg⟩, Zw⟩, ⟨l_a, l_c, l_l⟩, r, ⟨o_a, o_c, o_l⟩⟩) 67)] (fun M' v Hout => Hout = [(bw, rowO (WorkerV.segs ⟨⟨Zaf, Zx, ⟨Zr, Zq, Zh⟩, ⟨Zp, Zo, Zg⟩, Zw⟩, ⟨l_a, l_c, l_l⟩, r, ⟨o_a, o_c, o_l⟩⟩) 67)] ∧ ∃ q : Sl Int, v = q.val ∧ q.l = othersR l_l r key ∧ SlK M' (oneI .i64) 1 q) := by
  refine Zex (fun H => (bw, rowO (WorkerV.segs ⟨⟨Zaf, Zx, ⟨Zr, Zq, Zh⟩, ⟨Zp, Zo, Zg⟩, Zw⟩, ⟨l_a, l_c, l_l⟩, r, ⟨o_a, o_c, o_l⟩⟩) 67) :: H) (fun _ => by simp only [List.append_assoc, List.cons_append, List.nil_append]) Tryz.func58 rfl Tryz.ntmps58 rfl ?_; intro H
  refine Zj ?_; refine Za (l := [0, 1]) rfl ?_
  refine Zcz ?_; intro b1
  refine Zd ?_; refine Ze ?_; refine Zc ?_; refine Y_pk [4, 3, 0] ?_; refine Zj ?_; refine Zar (l := [0, 1, 2, 3, 4, 5, 6, 7, 8, 9, 10, 11, 12, 13, 14]) #[0, 1, 3, 7, 0, 0, 32, 96, 224, 511, 1023, 2047, 2047, 4095, 16383] _ rfl (by kernel_rfl) (by kernel_rfl) St.drawn (fun _ h => h) ?_; refine Zf ?_; refine Zco ?_; refine Zb F.foff67_1 ?_; refine Zi F.lay27 ?_; refine Zi F.lay29 ?_; refine Zf ?_; refine Zco ?_; refine Zb F.foff67_2 ?_; refine Zi F.lay3 ?_; refine X_fn rfl rfl F.ok95 rfl (Copies_ok _ ⟨l_a, l_c, l_l⟩ key r k_l) rfl ?_
  rintro _ M1 hm1 ⟨⟨c_a, c_c, c_l⟩, rfl, hcl, k_c⟩
  simp only at hcl
  have m_c : c_l.length ≤ 9223372036854775807 := k_c.h2
  have c_c9 : c_l.length ≤ c_c := k_c.h3
  have hpos : 1 ≤ c_l.length := by rw [hcl]; exact copies_pos hci hr
  have hc8 : c_l.length ≤ 8 := by rw [hcl]; exact copies_len hr
  obtain ⟨hcn, hca⟩ := copies_at hci hr hcl
  obtain ⟨ad, had⟩ : ∃ ad, addrsR l_l c_l = ad := ⟨_, rfl⟩
  have hadl : ad.length = c_l.length - 1 := by rw [← had]; exact addrs_len
  have s_l1 := k_l.h1.mono hm1
  try simp only at s_l1
  have n_l : (l_l.map PeerV.segs).length = l_l.length := List.length_map ..
  have k_d0 := k_c.drop 1 hpos
  have s_d0 := k_d0.h1
  try simp only at s_d0
  have n_d0 : ((c_l.drop 1).map (oneI .i64)).length = c_l.length - 1 := by rw [List.length_map, List.length_drop]
  refine Zf ?_
  iterate 2 refine Zcf ?_
  iterate 2 refine Zd ?_
  refine Ze ?_; refine Zc ?_; refine Y_pk [5, 4, 0] ?_; refine Zj ?_; refine Za (l := [0]) rfl ?_; refine Zd ?_; refine Ze ?_; refine Zc ?_
  iterate 2 refine Zj ?_
  refine Za (l := [0, 1, 2, 3]) rfl ?_; refine Zf ?_; refine Zdw rfl rfl rfl (.some (k := 1) rfl rfl) .none .none F.elem52 (by simp only [Option.getD_none]; omega) (by simp only [Option.getD_some, Option.getD_none]; omega) (by simp only [Option.getD_some, Option.getD_none]; omega) (by simp) (pieceV_drop (l := c_l) (k := 1)) rfl ?_
  simp only [Option.getD_none]
  have hdl : (c_l.drop 1).length = c_l.length - 1 := List.length_drop
  refine Zbb F.elem52 ?_; refine Zf ?_; refine Ze ?_; refine Zc ?_; refine Y_pk [26, 25, 24, 7, 4, 0] ?_; refine Zbe ?_; refine Y_pk [26, 7, 25, 24, 4, 0] ?_; refine Zeo (Hin := []) (.succ (.succ .zero)) (by repeat first | exact Rem.here _ | exact Rem.two | apply Rem.skip | apply Rem.over) (fun (k : Nat) M2 h2 z => ∃ v, M2 = M1 ∧ z = [(26, .int .i64 (k : Int)), (7, v)] ∧ k ≤ c_l.length - 1 ∧ OSl 3 1 v h2 ((ad.take k).map (oneI .i64))) (fun k => c_l.length - 1 - k) (0) (⟨_, rfl, rfl, by omega, OSl.nil⟩) ?_
  rintro k M2 h2 z hm2 ⟨v2, hM2, rfl, hk9, ho⟩
  subst M2
  obtain ⟨ad0, cp0, rfl⟩ := ho.val
  have hml : ((ad.take k).map (oneI .i64)).length = k := by simp; omega
  rw [hml] at ho ⊢
  refine Zj ?_; refine Za (l := [0]) rfl ?_; refine Zav ?_; refine Ze ?_; refine Zc ?_; refine Zj ?_
  refine Zau rfl (fun hc2 => ?_) (fun hc2 => ?_)
  ·replace hc2 := dT hc2
   refine Zax ?_; refine Zc ?_; refine Zj ?_; refine Zbe ?_; refine Zj ?_; refine Za (l := [0, 1, 2]) rfl ?_; refine Zaa rfl rfl rfl rfl F.elem52 (by rfl) (by omega) (by exact SlM.plain (by assumption) (by (simp; omega))) rfl ?_; refine Zay rfl rfl rfl (by assumption) (by exact Zbl (by omega)) F.lay3 rfl rfl rfl ?_
   obtain ⟨i0, hi0, hil⟩ := hca (k + 1) (by omega)
   have hdk : (c_l.drop 1)[k]'(by rw [List.length_drop]; omega) = (i0 : Int) := by rw [List.getElem_drop]; simpa [Nat.add_comm] using hi0
   rw [hdk]
   refine Zd ?_; refine Ze ?_; refine Zc ?_; refine Za (l := [0, 1, 2, 3, 4, 5, 6, 7, 8, 9, 10, 11]) rfl ?_
   iterate 2 refine Zf ?_
   refine Zco ?_; refine Zb F.foff67_1 ?_; refine Zi F.lay27 ?_; refine Zf ?_; refine Zaa rfl rfl rfl rfl F.elem27 (by rfl) (by omega) (by exact SlM.plain (by assumption) (by (simp; omega))) rfl ?_; refine Zaq rfl rfl rfl (by exact SlM.plain (by assumption) (by (simp; omega))) F.foff80_0 rfl ?_; refine Zay rfl rfl rfl (by assumption) (by exact Zbl (by omega)) F.lay3 rfl rfl rfl ?_
   refine Zbt rfl rfl F.elem52 F.zero3 rfl rfl (.cons rfl (by constructor) .nil) rfl rfl (by simp only [List.map_cons, List.map_nil] <;> rfl) rfl ?_; intro b3 hob4
   refine Zdn (m := 1000000) rfl rfl rfl rfl rfl F.elem52 F.zero3 (by rfl) rfl (by assumption) (by repeat first | exact Rem.here _ | exact Rem.two | apply Rem.skip | apply Rem.over) (Src.own hob4.lens (by (refine Zdy ?_; (repeat (first | exact Zbp | refine Zcb ?_ | (refine Zam ?_ ?_; rfl))); done)) rfl (by repeat first | exact List.Mem.head _ | refine List.Mem.tail _ ?_ | refine List.mem_append_right _ ?_)) (by (simp; omega)) (by decide) rfl ?_; intro v7 hs6 ho5; obtain ⟨adv7, cpv7, rfl⟩ := ho5.val
   refine Zd ?_; refine Ze ?_; refine Zde ?_; refine Zc ?_; refine Za (l := [0, 1]) rfl ?_; refine Zcc rfl rfl rfl rfl rfl (by exact Zbf (by decide) (by omega)) rfl ?_; refine Zf ?_; refine Ze ?_; refine Zcr (a' := [(26, _), (7, _)]) (k + 1) (hs6) (.cons (k := 26) rfl (.cons (k := 7) rfl (.cons (k := 25) rfl (.cons (k := 24) rfl (.cons (k := 4) rfl (.cons (k := 0) rfl (.nil))))))) (by exact Mem.le.refl _) (fun w hw => by first | exact hw | exact hw.c) ?_ ?_
   ·refine ⟨_, rfl, rfl, by omega, OSl.as9 ho5 ?_⟩
    rw [← had, addrs_step (by omega) hi0 hil, had, List.map_append]; rfl
   ·omega
  ·replace hc2 := dF hc2
   refine Zcm ?_
   iterate 2 refine Zcd ?_
   refine Zdl ?_; refine Zc ?_; refine Y_pk [7, 4] ?_; refine Zj ?_
   obtain rfl : k = c_l.length - 1 := by omega
   rw [List.take_of_length_le (by omega)] at ho
   refine Zdg (l := [0, 1]) [1] rfl ?_; refine Zf ?_; refine Zgm rfl rfl rfl F.ok96 rfl (SortO_ok M1 ad0 (c_l.length - 1) cp0 ad hadl (by omega) h2 ho) (by repeat first | exact Rem.here _ | exact Rem.two | apply Rem.skip | apply Rem.over) (Zbq rfl) ?_
   rintro _ M3 hs9 hm3 ⟨hM3, rfl, l9, hp9, hq9, ho9⟩
   subst M3
   refine Ze ?_; refine Zen ?_; refine Zc ?_; refine Y_pk [7, 4] ?_; refine Zj ?_; refine Za (l := [0, 1]) rfl ?_; refine Zf ?_; refine Zd ?_; refine Ze ?_; refine Zc ?_; refine Y_pk [4] ?_; refine Zak ?_
   refine Zaj (.inr rfl) (.tmp rfl .nil) (fun w hw => ?_)
   obtain ⟨M9, s9, g1, g2, g3, g4, g5⟩ := OSl.freezeK (f := oneI .i64) (H := (bw, rowO (WorkerV.segs ⟨⟨Zaf, Zx, ⟨Zr, Zq, Zh⟩, ⟨Zp, Zo, Zg⟩, Zw⟩, ⟨l_a, l_c, l_l⟩, r, ⟨o_a, o_c, o_l⟩⟩) 67) :: H) ho9 (hw.c)
   refine ⟨_, M9, [(bw, rowO (WorkerV.segs ⟨⟨Zaf, Zx, ⟨Zr, Zq, Zh⟩, ⟨Zp, Zo, Zg⟩, Zw⟩, ⟨l_a, l_c, l_l⟩, r, ⟨o_a, o_c, o_l⟩⟩) 67)], rfl, hm1.trans g1, g2, rfl, s9, g3, ?_, g5⟩
   rw [g4]
   subst hcl
   subst had
   exact others_sorted hci hr hp9 hq9
end Go.Proofs.YtpkeilhilpogiaaGreat
namespace Go.Proofs.YtpkeilhilpogiaaGreat
open Go.Esp
theorem F.ext97 : Ext Tryz.prog 97 (Extern.SlicesOverlaps.overlaps #[24, 24] #[4]) := fun args w => by kernel_rfl
theorem InsertW_nil (M : Mem) (x : WaitV) (bv : Nat) (hv : Hp) (hob : OSl 54 28 (.slice (some ⟨bv, 0, none⟩) 1 1) hv [WaitV.segs x]) : Fh Tryz.prog 59 [.slice none 0 0, .int .i64 ((0 : Nat) : Int), .slice (some ⟨bv, 0, none⟩) 1 1] M hv (fun M' v Hout => M' = M ∧ OSl 54 28 v Hout ([] ++ [WaitV.segs x])) := by
  refine Zfg Tryz.func59 rfl Tryz.ntmps59 rfl ?_; intro H
  refine Zj ?_; refine Za (l := [0]) rfl ?_; refine Zd ?_; refine Ze ?_; refine Zc ?_; refine Zj ?_; refine Za (l := [0, 1, 2]) rfl ?_
  iterate 2 refine Zf ?_
  refine Zdw rfl rfl rfl (.some (k := 0) rfl rfl) .none .none F.elem24 (by simp) (by simp) (by simp) (by simp) rfl rfl ?_; refine Ze ?_; refine Zc ?_; refine Y_pk [6, 0, 1, 2] ?_; refine Zj ?_; refine Za (l := [0, 1, 2]) rfl ?_; refine Zf ?_; refine Zbb F.elem24 ?_; refine Zd ?_; refine Ze ?_; refine Zc ?_; refine Y_pk [7, 6, 0, 1, 2] ?_
  iterate 2 refine Zj ?_
  refine Za (l := [0, 1]) rfl ?_; refine Zf ?_; refine Zav ?_; refine Ze ?_; refine Zc ?_; refine Y_pk [16, 7, 6, 0, 1, 2] ?_
  refine Zau rfl (fun hc1 => ?_) (fun hc1 => ?_)
  ·replace hc1 := dT hc1
   (exfalso; omega)
  ·replace hc1 := dF hc1
   refine Zax ?_; refine Zc ?_; refine Y_pk [7, 6, 0, 1, 2] ?_; refine Zj ?_; refine Za (l := [0, 1, 2]) rfl ?_; refine Zf ?_; refine Zbb F.elem24 ?_; refine Zd ?_; refine Ze ?_; refine Zc ?_; refine Y_pk [8, 7, 6, 0, 1, 2] ?_
   iterate 2 refine Zj ?_
   refine Za (l := [0, 1, 2]) rfl ?_
   iterate 2 refine Zf ?_
   refine Zav ?_; refine Ze ?_; refine Zc ?_; refine Y_pk [22, 8, 7, 6, 0, 1, 2] ?_
   refine Zau rfl (fun hc2 => ?_) (fun hc2 => ?_)
   ·replace hc2 := dT hc2
    simp only [AnswerV.eta, MarkV.eta, CellV.eta, HeldV.eta, WaitV.eta, ServerV.eta, PeerV.eta, OpV.eta, ParcelV.eta, PostV.eta, WorkerV.eta] at hc2
    refine Zj ?_; refine Za (l := [0, 1, 2, 3]) rfl ?_
    iterate 2 refine Zf ?_
    refine Zdn (m := 1000000) rfl rfl rfl rfl rfl F.elem24 F.zero54 (by exact Zei rfl) rfl (by exact OSl.nil) (by repeat first | exact Rem.here _ | exact Rem.two | apply Rem.skip | apply Rem.over) (OSl.srcAll hob (by repeat first | exact Rem.here _ | exact Rem.two | apply Rem.skip | apply Rem.over) (by intro u hu; exact Zfi WaitV.flat [x] u (by simpa using hu))) (by (simp; done)) (by decide) rfl ?_; intro v5 hs4 ho3; obtain ⟨adv5, cpv5, rfl⟩ := ho3.val
    refine Zd ?_; refine Ze ?_; refine Zc ?_; refine Y_pk [6, 8, 7, 0, 1, 2] ?_; refine Zak ?_; refine Zba ?_
    refine Zaj (.inr rfl) (.tmp rfl .nil) (fun w hw => ?_)
    exact ⟨_, M, hs4, rfl, Mem.le.refl M, hw.c, rfl, ho3⟩
   ·replace hc2 := dF hc2
    simp only [AnswerV.eta, MarkV.eta, CellV.eta, HeldV.eta, WaitV.eta, ServerV.eta, PeerV.eta, OpV.eta, ParcelV.eta, PostV.eta, WorkerV.eta] at hc2
    (exfalso; simp [eqX] at hc2; done)
theorem InsertW_some (M : Mem) (b : Nat) (c : Nat) (l : List WaitV) (hs : Hp) (i : Nat) (hi : i ≤ l.length) (x : WaitV) (bv : Nat) (hv : Hp) (hob : OSl 54 28 (.slice (some ⟨bv, 0, none⟩) 1 1) hv [WaitV.segs x]) (hb : l.length ≤ 1000000) (ho : OSl 54 28 (.slice (some ⟨b, 0, none⟩) l.length c) hs (l.map WaitV.segs)) : Fh Tryz.prog 59 [.slice (some ⟨b, 0, none⟩) l.length c, .int .i64 (i : Int), .slice (some ⟨bv, 0, none⟩) 1 1] M (hs ++ hv) (fun M' v Hout => M' = M ∧ OSl 54 28 v Hout ((insL l i x).map WaitV.segs)) := by
  have hcc := ho.caps
  simp only [List.length_map] at hcc
  have hob9 := hob
  have hom : OSl 54 28 (.slice (some ⟨b, 0, none⟩) (l.map WaitV.segs).length c) hs (l.map WaitV.segs) := by rw [List.length_map]; exact ho
  obtain ⟨cv, rfl, _⟩ := hob9.inv
  refine Zfg Tryz.func59 rfl Tryz.ntmps59 rfl ?_; intro H
  rw [List.append_assoc]
  refine Zj ?_; refine Za (l := [0]) rfl ?_; refine Zd ?_; refine Ze ?_; refine Zc ?_; refine Zj ?_; refine Za (l := [0, 1, 2]) rfl ?_
  iterate 2 refine Zf ?_
  refine Zdw rfl rfl rfl (.some (k := i) rfl rfl) .none .none F.elem24 (by simp) (by simp only [Option.getD_some, Option.getD_none]; omega) (by simp only [Option.getD_some, Option.getD_none]; omega) (by simp) rfl rfl ?_; refine Ze ?_; refine Zc ?_; refine Y_pk [6, 0, 1, 2] ?_; refine Zj ?_; refine Za (l := [0, 1, 2]) rfl ?_; refine Zf ?_; refine Zbb F.elem24 ?_; refine Zd ?_; refine Ze ?_; refine Zc ?_; refine Y_pk [7, 6, 0, 1, 2] ?_
  iterate 2 refine Zj ?_
  refine Za (l := [0, 1]) rfl ?_; refine Zf ?_; refine Zav ?_; refine Ze ?_; refine Zc ?_; refine Y_pk [16, 7, 6, 0, 1, 2] ?_
  refine Zau rfl (fun hc1 => ?_) (fun hc1 => ?_)
  ·replace hc1 := dT hc1
   (exfalso; omega)
  ·replace hc1 := dF hc1
   refine Zax ?_; refine Zc ?_; refine Y_pk [7, 6, 0, 1, 2] ?_; refine Zj ?_; refine Za (l := [0, 1, 2]) rfl ?_; refine Zf ?_; refine Zbb F.elem24 ?_; refine Zd ?_; refine Ze ?_; refine Zc ?_; refine Y_pk [8, 7, 6, 0, 1, 2] ?_
   iterate 2 refine Zj ?_
   refine Za (l := [0, 1, 2]) rfl ?_
   iterate 2 refine Zf ?_
   refine Zav ?_; refine Ze ?_; refine Zc ?_; refine Y_pk [22, 8, 7, 6, 0, 1, 2] ?_
   refine Zau rfl (fun hc2 => ?_) (fun hc2 => ?_)
   ·replace hc2 := dT hc2
    refine Zj ?_; refine Za (l := [0, 1, 2, 3]) rfl ?_
    iterate 2 refine Zf ?_
    refine Zdn (m := 1000001) rfl rfl rfl rfl rfl F.elem24 F.zero54 (by exact Zei rfl) rfl (by assumption) (by repeat first | exact Rem.here _ | exact Rem.two | apply Rem.skip | apply Rem.over) (OSl.srcAll hob (by repeat first | exact Rem.here _ | exact Rem.two | apply Rem.skip | apply Rem.over) (by intro u hu; exact Zfi WaitV.flat [x] u (by simpa using hu))) (by (simp; omega)) (by decide) rfl ?_; intro v5 hs4 ho3; obtain ⟨adv5, cpv5, rfl⟩ := ho3.val
    refine Zd ?_; refine Ze ?_; refine Zc ?_; refine Y_pk [6, 8, 7, 0, 1, 2] ?_; refine Zak ?_; refine Zba ?_
    refine Zaj (.inr rfl) (.tmp rfl .nil) (fun w hw => ?_)
    obtain rfl : i = l.length := by omega
    exact ⟨_, M, hs4, rfl, Mem.le.refl M, hw.c, rfl, by rw [insL_end, List.map_append]; exact ho3⟩
   ·replace hc2 := dF hc2
    refine Zax ?_; refine Zc ?_; refine Y_pk [8, 7, 6, 0, 1, 2] ?_
    iterate 2 refine Zj ?_
    refine Za (l := [0, 1, 2, 3, 4, 5]) rfl ?_
    iterate 2 refine Zf ?_
    refine Zcc rfl rfl rfl rfl rfl (by exact Zbf (by decide) (by omega)) rfl ?_; refine Zf ?_; refine X_cap_sl rfl rfl rfl rfl F.elem24 rfl ?_; refine Zav ?_; refine Ze ?_; refine Zc ?_; refine Y_pk [31, 8, 7, 6, 0, 1, 2] ?_
    refine Zau rfl (fun hc6 => ?_) (fun hc6 => ?_)
    ·replace hc6 := dT hc6
     refine Zj ?_; refine Za (l := [0, 1, 2, 3, 4, 5, 6, 7, 8, 9]) rfl ?_
     iterate 2 refine Zf ?_
     refine Zdw rfl rfl rfl .none (.some (k := i) rfl (by rfl)) .none F.elem24 (by simp) (by simp only [Option.getD_some, Option.getD_none]; omega) (by simp only [Option.getD_some, Option.getD_none]; omega) (by simp) (show pieceV (some ⟨_, 0, none⟩) 28 0 (i) c = .slice (some ⟨_, 0, none⟩) (i) c from pieceV_zero) rfl ?_
     iterate 2 refine Zf ?_
     refine Zcc rfl rfl rfl rfl rfl (by exact Zbf (by decide) (by omega)) rfl ?_; refine Zf ?_; refine Zcc rfl rfl rfl rfl rfl (by exact Zbf (by decide) (by omega)) rfl ?_
     rw [show (l.length : Int) + ((1 : Nat) : Int) - (i : Int) = ((l.length + 1 - i : Nat) : Int) by omega]
     refine X_appendZO (j := i) (k := l.length + 1 - i) rfl rfl rfl rfl F.elem24 Tryz.underlying3 F.zero54 (by exact Zei rfl) rfl ho (by repeat first | exact Rem.here _ | exact Rem.two | apply Rem.skip | apply Rem.over) (by rw [List.length_map]; omega) (by omega) (by omega) (by omega) (Nat.le_trans (Nat.mul_le_mul_right _ (show i + (l.length + 1 - i) ≤ 1000001 by omega)) (by decide)) rfl ?_; intro b9 c9 hs9 zs9 hz9 ho9
     rw [show i + (l.length + 1 - i) = l.length + 1 by omega] at ho9 ⊢
     have hn9 : ((l.map WaitV.segs).take i ++ zs9).length = l.length + 1 := by simp [hz9]; omega
     have hc9 := ho9.caps
     refine Zd ?_; refine Ze ?_; refine Zc ?_; refine Y_pk [9, 8, 7, 6, 0, 1, 2] ?_; refine Zj ?_; refine Za (l := [0, 1, 2, 3, 4]) rfl ?_
     iterate 2 refine Zf ?_
     refine Zdw rfl rfl rfl (.some (k := i) rfl (by rfl)) .none .none F.elem24 (by simp) (by simp only [Option.getD_some, Option.getD_none]; omega) (by simp only [Option.getD_some, Option.getD_none]; omega) (by simp) (show pieceV (some ⟨_, 0, none⟩) 28 (i) (l.length + 1) (c9) = .slice (some ⟨_, 0 + (i) * 28, none⟩) (l.length + 1 - (i)) (c9 - (i)) from Zew (by omega)) rfl ?_; refine Zf ?_
     rw [Nat.zero_add]
     refine X_copyP (k := i) (news := [WaitV.segs x]) rfl rfl rfl rfl rfl F.elem24 rfl (by rw [hn9]; omega) ho9 (by repeat first | exact Rem.here _ | exact Rem.two | apply Rem.skip | apply Rem.over) (OSl.srcAll hob (by repeat first | exact Rem.here _ | exact Rem.two | apply Rem.skip | apply Rem.over) (by intro u hu; exact Zfi WaitV.flat [x] u (by simpa using hu))) (by show 1 = min 1 (l.length + 1 - i); omega) rfl ?_; intro hs10 ho10
     rw [hn9] at ho10
     refine Ze ?_; refine Zc ?_; refine Y_pk [9, 8, 7, 6, 0, 1, 2] ?_; refine Zj ?_; refine Zar (l := [0, 1, 2, 3, 4, 5, 6, 7, 8]) #[0, 0, 0, 6, 15, 0, 0, 96, 255] _ rfl (by kernel_rfl) (by kernel_rfl) St.drawn (fun _ h => h) ?_
     iterate 3 refine Zf ?_
     refine Zcc rfl rfl rfl rfl rfl (by exact Zbf (by decide) (by omega)) rfl ?_; refine Zdw rfl rfl rfl (.some (k := i + 1) rfl (by rfl)) .none .none F.elem24 (by simp) (by simp only [Option.getD_some, Option.getD_none]; omega) (by simp only [Option.getD_some, Option.getD_none]; omega) (by simp) (show pieceV (some ⟨_, 0, none⟩) 28 (i + 1) (l.length + 1) (c9) = .slice (some ⟨_, 0 + (i + 1) * 28, none⟩) (l.length + 1 - (i + 1)) (c9 - (i + 1)) from Zew (by omega)) rfl ?_
     iterate 2 refine Zf ?_
     refine Zdw rfl rfl rfl (.some (k := i) rfl (by rfl)) .none .none F.elem24 (by simp) (by simp only [Option.getD_some, Option.getD_none]; omega) (by simp only [Option.getD_some, Option.getD_none]; omega) (by simp) (show pieceV (some ⟨_, 0, none⟩) 28 (i) (l.length) (c) = .slice (some ⟨_, 0 + (i) * 28, none⟩) (l.length - (i)) (c - (i)) from Zew (by omega)) rfl ?_
     rw [Nat.zero_add, Nat.zero_add]
     have hn10 : (((l.map WaitV.segs).take i ++ zs9).take i ++ [WaitV.segs x] ++ ((l.map WaitV.segs).take i ++ zs9).drop (i + [WaitV.segs x].length)).length = l.length + 1 := by simp only [List.length_append, List.length_take, List.length_drop, hn9, List.length_cons, List.length_nil]; omega
     refine X_copyP (k := i + 1) (news := (l.map WaitV.segs).drop i) rfl rfl rfl rfl rfl F.elem24 rfl (by rw [hn10]; omega) ho10 (by repeat first | exact Rem.here _ | exact Rem.two | apply Rem.skip | apply Rem.over) (by rw [List.length_drop]; exact hom.src (by repeat first | exact Rem.here _ | exact Rem.two | apply Rem.skip | apply Rem.over) (by intro u hu; exact Zfi WaitV.flat l u hu)) (by simp only [List.length_drop, List.length_map]; omega) rfl ?_; intro hs11 ho11
     rw [hn10] at ho11
     rw [show i + [WaitV.segs x].length = i + 1 from rfl, ins_grow (by rw [List.length_map]; omega) (by rw [List.length_map]; exact hz9)] at ho11
     refine Ze ?_; refine Zc ?_; refine Y_pk [9, 8, 7, 6, 0, 1, 2] ?_; refine Zj ?_; refine Za (l := [0, 1]) rfl ?_; refine Zf ?_; refine Zd ?_; refine Ze ?_; refine Zc ?_; refine Y_pk [6, 8, 7, 0, 1, 2] ?_; refine Zak ?_; refine Zba ?_
     refine Zaj (.inr rfl) (.tmp rfl .nil) (fun w hw => ?_)
     exact ⟨_, M, hs11, rfl, Mem.le.refl M, hw.c, rfl, by rw [insL_map]; exact ho11⟩
    ·replace hc6 := dF hc6
     refine Zax ?_; refine Zc ?_; refine Y_pk [8, 7, 6, 0, 1, 2] ?_; refine Zj ?_; refine Za (l := [0, 1, 2, 3, 4, 5]) rfl ?_
     iterate 3 refine Zf ?_
     refine Zcc rfl rfl rfl rfl rfl (by exact Zbf (by decide) (by omega)) rfl ?_; refine Zdw rfl rfl rfl .none (.some (k := l.length + 1) rfl (by rfl)) .none F.elem24 (by simp) (by simp only [Option.getD_some, Option.getD_none]; omega) (by simp only [Option.getD_some, Option.getD_none]; omega) (by simp) (show pieceV (some ⟨_, 0, none⟩) 28 0 (l.length + 1) c = .slice (some ⟨_, 0, none⟩) (l.length + 1) c from pieceV_zero) rfl ?_; refine Zd ?_; refine Ze ?_; refine Zc ?_; refine Y_pk [0, 8, 7, 6, 1, 2] ?_
     iterate 2 refine Zj ?_
     refine Za (l := [0, 1, 2, 3, 4, 5, 6, 7]) rfl ?_
     obtain ⟨ext, hext, ho13⟩ := OSl.extend (m := 1) (show OSl 54 28 (.slice (some ⟨b, 0, none⟩) (l.map WaitV.segs).length c) hs (l.map WaitV.segs) by rw [List.length_map]; exact ho) (by rw [List.length_map]; omega)
     rw [List.length_map] at ho13
     iterate 4 refine Zf ?_
     refine Zcc rfl rfl rfl rfl rfl (by exact Zbf (by decide) (by omega)) rfl ?_; refine Zdw rfl rfl rfl (.some (k := i + 1) rfl (by rfl)) .none .none F.elem24 (by simp) (by simp only [Option.getD_some, Option.getD_none]; omega) (by simp only [Option.getD_some, Option.getD_none]; omega) (by simp) (show pieceV (some ⟨_, 0, none⟩) 28 (i + 1) (l.length + 1) (c) = .slice (some ⟨_, 0 + (i + 1) * 28, none⟩) (l.length + 1 - (i + 1)) (c - (i + 1)) from Zew (by omega)) rfl ?_; refine X_ext rfl rfl F.ext97 rfl (fun w hw => run_apart (tR := 4) F.elem24 ho (by repeat first | exact Rem.here _ | exact Rem.two | apply Rem.skip | apply Rem.over) (.head _) (Nat.mul_pos (by omega) (by decide)) hw) rfl ?_; refine Zel ?_; refine Ze ?_; refine Zc ?_; refine Y_pk [68, 0, 8, 7, 6, 1, 2] ?_
     refine Zau rfl (fun hc7 => ?_) (fun hc7 => ?_)
     ·skip
      refine Zj ?_; refine Zar (l := [0, 1, 2, 3, 4, 5, 6, 7, 8]) #[0, 0, 0, 6, 15, 0, 0, 96, 255] _ rfl (by kernel_rfl) (by kernel_rfl) St.drawn (fun _ h => h) ?_
      iterate 3 refine Zf ?_
      refine Zcc rfl rfl rfl rfl rfl (by exact Zbf (by decide) (by omega)) rfl ?_; refine Zdw rfl rfl rfl (.some (k := i + 1) rfl (by rfl)) .none .none F.elem24 (by simp) (by simp only [Option.getD_some, Option.getD_none]; omega) (by simp only [Option.getD_some, Option.getD_none]; omega) (by simp) (show pieceV (some ⟨_, 0, none⟩) 28 (i + 1) (l.length + 1) (c) = .slice (some ⟨_, 0 + (i + 1) * 28, none⟩) (l.length + 1 - (i + 1)) (c - (i + 1)) from Zew (by omega)) rfl ?_
      iterate 2 refine Zf ?_
      refine Zdw rfl rfl rfl (.some (k := i) rfl (by rfl)) .none .none F.elem24 (by simp) (by simp only [Option.getD_some, Option.getD_none]; omega) (by simp only [Option.getD_some, Option.getD_none]; omega) (by simp) (show pieceV (some ⟨_, 0, none⟩) 28 (i) (l.length + 1) (c) = .slice (some ⟨_, 0 + (i) * 28, none⟩) (l.length + 1 - (i)) (c - (i)) from Zew (by omega)) rfl ?_
      rw [Nat.zero_add, Nat.zero_add]
      refine X_copyP (k := i + 1) (news := (l.map WaitV.segs).drop i) rfl rfl rfl rfl rfl F.elem24 rfl (by simp [hext]; omega) ho13 (by repeat first | exact Rem.here _ | exact Rem.two | apply Rem.skip | apply Rem.over) (by rw [List.length_drop]; exact hom.src (by repeat first | exact Rem.here _ | exact Rem.two | apply Rem.skip | apply Rem.over) (by intro u hu; exact Zfi WaitV.flat l u hu)) (by simp only [List.length_drop, List.length_map]; omega) rfl ?_; intro hs15 ho15
      have hn15 : ((l.map WaitV.segs) ++ ext).length = l.length + 1 := by simp [hext]
      rw [hn15] at ho15
      refine Ze ?_; refine Zc ?_; refine Y_pk [0, 8, 7, 6, 1, 2] ?_; refine Zj ?_; refine Za (l := [0, 1, 2, 3, 4]) rfl ?_
      iterate 2 refine Zf ?_
      refine Zdw rfl rfl rfl (.some (k := i) rfl (by rfl)) .none .none F.elem24 (by simp) (by simp only [Option.getD_some, Option.getD_none]; omega) (by simp only [Option.getD_some, Option.getD_none]; omega) (by simp) (show pieceV (some ⟨_, 0, none⟩) 28 (i) (l.length + 1) (c) = .slice (some ⟨_, 0 + (i) * 28, none⟩) (l.length + 1 - (i)) (c - (i)) from Zew (by omega)) rfl ?_; refine Zf ?_
      rw [Nat.zero_add]
      have hn16 : (((l.map WaitV.segs) ++ ext).take (i + 1) ++ (l.map WaitV.segs).drop i ++ ((l.map WaitV.segs) ++ ext).drop (i + 1 + ((l.map WaitV.segs).drop i).length)).length = l.length + 1 := by simp only [List.length_append, List.length_take, List.length_drop, List.length_map, hext]; omega
      refine X_copyP (k := i) (news := [WaitV.segs x]) rfl rfl rfl rfl rfl F.elem24 rfl (by rw [hn16]; omega) ho15 (by repeat first | exact Rem.here _ | exact Rem.two | apply Rem.skip | apply Rem.over) (OSl.srcAll hob (by repeat first | exact Rem.here _ | exact Rem.two | apply Rem.skip | apply Rem.over) (by intro u hu; exact Zfi WaitV.flat [x] u (by simpa using hu))) (by show 1 = min 1 (l.length + 1 - i); omega) rfl ?_; intro hs16 ho16
      rw [hn16] at ho16
      rw [show i + [WaitV.segs x].length = i + 1 from rfl, ins_room (by rw [List.length_map]; omega) hext] at ho16
      refine Ze ?_; refine Zc ?_; refine Y_pk [0, 8, 7, 6, 1, 2] ?_; refine Zj ?_; refine Za (l := [0, 1]) rfl ?_; refine Zf ?_; refine Zd ?_; refine Ze ?_; refine Zc ?_; refine Y_pk [6, 0, 8, 7, 1, 2] ?_; refine Zak ?_; refine Zba ?_
      refine Zaj (.inr rfl) (.tmp rfl .nil) (fun w hw => ?_)
      exact ⟨_, M, hs16, rfl, Mem.le.refl M, hw.c, rfl, by rw [insL_map]; exact ho16⟩
     ·skip
      (exfalso; simp [eqX] at hc7; done)
theorem InsertW_ok (M : Mem) (a : Option Addr) (c : Nat) (l : List WaitV) (hs : Hp) (i : Nat) (hi : i ≤ l.length) (x : WaitV) (bv : Nat) (hv : Hp) (hob : OSl 54 28 (.slice (some ⟨bv, 0, none⟩) 1 1) hv [WaitV.segs x]) (hb : l.length ≤ 1000000) (ho : OSl 54 28 (.slice a l.length c) hs (l.map WaitV.segs)) : Fh Tryz.prog 59 [.slice a l.length c, .int .i64 (i : Int), .slice (some ⟨bv, 0, none⟩) 1 1] M (hs ++ hv) (fun M' v Hout => M' = M ∧ OSl 54 28 v Hout ((insL l i x).map WaitV.segs)) := by
  cases a with
  |none =>
   obtain ⟨rfl, rfl, rfl⟩ := ho.noneAll
   obtain rfl : i = 0 := by simpa using hi
   exact InsertW_nil M x bv hv hob
  |some ad =>
   obtain ⟨b, rfl⟩ := ho.someAll
   exact InsertW_some M b c l hs i hi x bv hv hob hb ho
end Go.Proofs.YtpkeilhilpogiaaGreat
namespace Go.Esp
section
variable {P : Program} {ops : Array Oper} {cl : Nat → Cls} {Q : Exit → Act → World → Prop} {md : Region.Mode}
def okPairP (ops : Array Oper) (cl : Nat → Cls) (B : Array Nat) (x i : Nat) : Bool :=
  !(B.getD x 0).testBit i && (x != i) && ((B.getD i 0).testBit x || (match ops[x]?, ops[i]? with | some ox, some oi => ox.apart ops oi && mayPass (cl x) (cl i) | _, _ => false))
def okListP (ops : Array Oper) (cl : Nat → Cls) (B : Array Nat) : List Nat → Bool
  | [] => true
  | x :: r => r.all (fun i => okPairP ops cl B x i) && okListP ops cl B r
def okRegionP (ops : Array Oper) (cl : Nat → Cls) (B : Array Nat) (l0 : List Nat) : Bool :=
  Region.noSelect ops && okEdges ops B && okListP ops cl B l0 && (List.range ops.size).all (fun i => l0.contains i) && l0.length == ops.size && l0.all (fun i => decide (i < ops.size))
theorem okListP_spec {B : Array Nat} : ∀ {l : List Nat}, okListP ops cl B l = true → l.Pairwise (fun x i => okPairP ops cl B x i = true)
  | [], _ => .nil
  | x :: r, h => by
    simp only [okListP, Bool.and_eq_true, List.all_eq_true] at h
    exact .cons (fun i hi => h.1 i hi) (okListP_spec h.2)
theorem WD.frontP {B : Array Nat} (hsel : Region.noSelect ops = true) {i : Nat} {oi : Oper} (hi : ops[i]? = some oi) {J : World → Prop} {A : As} {a : Act} (hSJ : ∀ u, A.st u → J u) (hne : ∃ w, A.st w) :
    ∀ (pre post : List Nat), (∀ x ∈ pre, (B.getD i 0).testBit x = false ∧ okPairP ops cl B x i = true) → WD P ops cl Q (pre ++ i :: post) J A a → WD P ops cl Q (i :: (pre ++ post)) J A a := by
  intro pre
  induction pre generalizing J A a with
  | nil => intro post _ h; exact h
  | cons x pre ih =>
    intro post hpre h
    obtain ⟨hb, hp⟩ := hpre x (.head _)
    simp only [okPairP, hb, Bool.false_or, hi, Bool.and_eq_true] at hp
    obtain ⟨_, hp⟩ := hp
    cases hox : ops[x]? with
    | none => rw [hox] at hp; cases hp
    | some ox =>
    rw [hox] at hp
    simp only [Bool.and_eq_true] at hp
    refine WD.swap hox hi (fun cs b => Region.noSelect_spec hsel x ox cs b hox) (fun cs b => Region.noSelect_spec hsel i oi cs b hi) hp.1 hp.2 hSJ hne ?_
    rw [List.cons_append, Zfp hox] at h
    rw [Zfp hox]
    refine stepD.mono hSJ ?_ h
    intro J' A' v hs' hn' hJ' h'
    exact ih hs' (hn' hne) post (fun y hy => hpre y (.tail _ hy)) h'
theorem filter_splitP {R : Nat → Nat → Prop} {p : Nat → Bool} {i : Nat} (hR : ∀ x, R x i → x ≠ i) (hR2 : ∀ x, R i x → x ≠ i) : ∀ {l : List Nat}, i ∈ l → p i = true → l.Pairwise R →
    ∃ pre post, l.filter p = pre ++ i :: post ∧ (∀ x ∈ pre, R x i ∧ p x = true) ∧ l.filter (fun j => p j && j != i) = pre ++ post := by
  intro l
  induction l with
  | nil => intro h; cases h
  | cons x l ih =>
    intro hm hp hs
    rw [List.pairwise_cons] at hs
    by_cases hxi : x = i
    · subst hxi
      refine ⟨[], l.filter p, by simp [hp], by simp, ?_⟩
      have : l.filter (fun j => p j && j != x) = l.filter p := List.filter_congr fun j hj => by
        have hne : (j != x) = true := by simpa using hR2 j (hs.1 j hj)
        simp [hne]
      simp [this]
    · have hm' : i ∈ l := by simpa [Ne.symm hxi] using hm
      obtain ⟨pre, post, h1, h2, h3⟩ := ih hm' hp hs.2
      have hlt := hs.1 i hm'
      cases hpx : p x with
      | true =>
        refine ⟨x :: pre, post, by simp [hpx, h1], ?_, by simp [hpx, hxi, h3]⟩
        intro y hy
        rcases List.mem_cons.1 hy with rfl | hy
        · exact ⟨hlt, hpx⟩
        · exact h2 y hy
      | false => exact ⟨pre, post, by simp [hpx, h1], h2, by simp [hpx, h3]⟩
def leftP (l0 : List Nat) (listed : Array Bool) : List Nat := l0.filter fun i => !listed.getD i true
theorem leftP_set {l0 : List Nat} {n i : Nat} {listed : Array Bool} (hsz : listed.size = n) (hl : ∀ j ∈ l0, j < n) : leftP l0 (listed.setIfInBounds i true) = l0.filter fun j => !listed.getD j true && j != i := by
  refine List.filter_congr fun j hj => ?_
  have hj' := hl j hj
  by_cases hij : i = j
  · subst hij
    have : i < listed.size := by omega
    simp [this]
  · rw [getD_set_ne true hij]
    have : (j != i) = true := by simp; exact fun e => hij e.symm
    simp [this]
theorem WD.soundP {ro : Option Nat} {B : Array Nat} {l0 : List Nat} (hok : okRegionP ops cl B l0 = true) : ∀ (n : Nat) (listed : Array Bool), Closed ops listed → (leftP l0 listed).length = n → ∀ (J : World → Prop) (A : As) (a : Act) (w : World),
    (∀ u, A.st u → J u) → A.st w → WD P ops cl Q (leftP l0 listed) J A a → wpAnyIn (Fr ro) 0 P .any ops Q n listed a w := by
  have hok0 := hok
  simp only [okRegionP, Bool.and_eq_true, beq_iff_eq, List.all_eq_true, List.mem_range, List.contains_iff_mem, decide_eq_true_eq] at hok0
  obtain ⟨⟨⟨⟨⟨hsel, hedg⟩, hpr⟩, hall0⟩, hlen0⟩, hlt0⟩ := hok0
  have hpw := okListP_spec hpr
  have hnd : l0.Nodup := hpw.imp fun {x i} h => by
    simp only [okPairP, Bool.and_eq_true, bne_iff_ne, ne_eq] at h
    exact h.1.2
  intro n
  induction n with
  | zero =>
    intro listed hc hn J A a w hSJ hw h
    have e : leftP l0 listed = [] := List.eq_nil_of_length_eq_zero hn
    refine ⟨?_, by rw [e] at h; exact h w hw⟩
    refine List.eq_nil_iff_forall_not_mem.2 fun i hi => ?_
    have h0 := (mem_ready.1 hi).1
    obtain ⟨o, ho, _⟩ := (mem_ready.1 hi).2
    have : i ∈ leftP l0 listed := List.mem_filter.2 ⟨hall0 i (Array.getElem?_eq_some_iff.1 ho).1, by simp only [h0]; rfl⟩
    rw [e] at this; cases this
  | succ n ih =>
    intro listed hc hn J A a w hSJ hw h
    have hstep : ∀ i ∈ Region.ready .any ops listed, wpOpIn (Fr ro) 0 P ops Q i (wpAnyIn (Fr ro) 0 P .any ops Q n (listed.setIfInBounds i true)) a w := by
      intro i hi
      obtain ⟨h0, oi, hoi, hall⟩ := mem_ready.1 hi
      have hilt := (Array.getElem?_eq_some_iff.1 hoi).1
      obtain ⟨pre, post, e1, e2, e3⟩ := filter_splitP (R := fun x i => okPairP ops cl B x i = true) (p := fun i => !listed.getD i true) (i := i) (fun x hx => by
        simp only [okPairP, Bool.and_eq_true, bne_iff_ne, ne_eq] at hx; exact hx.1.2) (fun x hx => by
        simp only [okPairP, Bool.and_eq_true, bne_iff_ne, ne_eq] at hx; exact fun e => hx.1.2 e.symm) (hall0 i hilt) (by simp only [h0]; rfl) hpw
      have hpre : ∀ x ∈ pre, (B.getD i 0).testBit x = false ∧ okPairP ops cl B x i = true := by
        intro x hx
        refine ⟨?_, (e2 x hx).1⟩
        cases hb : (B.getD i 0).testBit x with
        | false => rfl
        | true =>
          have h1 := okEdges_spec hedg hc i i x (Nat.le_refl _) hb (.inr ⟨oi, hoi, hall⟩) hilt
          have h2 := (e2 x hx).2
          have hxm : x ∈ l0 := (List.mem_filter.1 (show x ∈ leftP l0 listed by rw [show leftP l0 listed = pre ++ i :: post from e1]; exact List.mem_append_left _ hx)).1
          have hxlt : x < listed.size := by rw [hc.size]; exact hlt0 x hxm
          simp [hxlt] at h1 h2
          rw [h1] at h2; cases h2
      have e0 : leftP l0 listed = pre ++ i :: post := e1
      rw [e0] at h
      have h' := WD.frontP hsel hoi hSJ ⟨w, hw⟩ pre post hpre h
      have el : leftP l0 (listed.setIfInBounds i true) = pre ++ post := by rw [leftP_set hc.size hlt0]; exact e3
      have hlen : (leftP l0 (listed.setIfInBounds i true)).length = n := by
        rw [el]; rw [e0] at hn; simp at hn ⊢; omega
      rw [Zfp hoi] at h'
      unfold wpOpIn
      simp only [hoi]
      rcases h' with ⟨hwt, hk⟩ | ⟨hwt, hk⟩
      · simp only [hwt, Bool.false_eq_true, if_false]
        exact ⟨fun _ _ => trivial, ih _ (hc.set hi) hlen J A _ w hSJ hw (by rw [el]; exact hk)⟩
      · simp only [hwt, if_true]
        cases hcl : cl i <;> simp only [hcl] at hk
        · obtain ⟨v, hv, hk⟩ := hk
          exact Runs.wpIn (hv w) (ih _ (hc.set hi) hlen J A _ w hSJ hw (by rw [el]; exact hk))
        · obtain ⟨v, hv, hk⟩ := hk
          exact Runs.wpIn (hv w (hSJ w hw)) (ih _ (hc.set hi) hlen J A _ w hSJ hw (by rw [el]; exact hk))
        · exact Oper.wpIn_of_does (Oper.does_mono (fun v w' ⟨A', s1, s2, hk⟩ => ih _ (hc.set hi) hlen J A' _ w' s2 s1 (by rw [el]; exact hk)) (hk [] w hw))
        · exact Oper.wpIn_of_does (Oper.does_mono (fun v w' ⟨J', A', s1, s2, hk⟩ => ih _ (hc.set hi) hlen J' A' _ w' s2 s1 (by rw [el]; exact hk)) (hk w hw))
        · obtain ⟨xo, gx, hxo, hk⟩ := hk
          have hn : St A.M ((w.heap.size, xo) :: A.H) (w.alloc xo) := St.alloc hw xo
          exact Oper.wpIn_of_does (hxo.does (ih _ (hc.set hi) hlen J ⟨A.M, (w.heap.size, xo) :: A.H⟩ _ _ (fun u hu => hSJ u (St.tail hu)) hn (by rw [el]; exact hk _ ⟨_, hn⟩)))
    refine ⟨fun h0 => ?_, hstep⟩
    -- something is left, so something is ready: the first one that is left
    exfalso
    obtain ⟨i, rest, e⟩ : ∃ i rest, leftP l0 listed = i :: rest := by
      cases hl : leftP l0 listed with
      | nil => rw [hl] at hn; cases hn
      | cons i rest => exact ⟨i, rest, rfl⟩
    have hmem : i ∈ leftP l0 listed := by rw [e]; exact .head _
    obtain ⟨hr, hun⟩ := List.mem_filter.1 hmem
    have hilt := hlt0 i hr
    have h1 := List.all_eq_true.1 hedg i (List.mem_range.2 hilt)
    obtain ⟨oi, hoi⟩ : ∃ oi, ops[i]? = some oi := ⟨ops[i], Array.getElem?_eq_getElem hilt⟩
    simp only [hoi, Bool.and_eq_true, beq_iff_eq] at h1
    have hsorted : (leftP l0 listed).Pairwise (fun x i => okPairP ops cl B x i = true) := List.Pairwise.filter _ hpw
    rw [e] at hsorted
    have : i ∈ Region.ready .any ops listed := mem_ready.2 ⟨by simpa using hun, oi, hoi, fun ed hed hbe => by
      cases hl : listed.getD ed.on false with
      | true => rfl
      | false =>
        exfalso
        have hlt : ed.on < i := by simpa [hbe] using (Array.all_eq_true_iff_forall_mem.1 h1.1) ed hed
        have hjs : ed.on < listed.size := by rw [hc.size]; omega
        have hjm : ed.on ∈ leftP l0 listed := List.mem_filter.2 ⟨hall0 _ (by omega), by simp [hjs] at hl ⊢; exact hl⟩
        rw [e] at hjm
        rcases List.mem_cons.1 hjm with he | hjm
        · omega
        · have h2 := (List.pairwise_cons.1 hsorted).1 _ hjm
          simp only [okPairP, Bool.and_eq_true, Bool.not_eq_true'] at h2
          have h3 := h2.1.1
          rw [h1.2, ← Array.foldl_toList] at h3
          have hin : ∀ (l : List Edge) (s : Nat), ed ∈ l → (l.foldl (fun s e => if Region.binds .any e then s ||| 2 ^ e.on ||| B.getD e.on 0 else s) s).testBit ed.on = true := by
            have hkeep : ∀ (l : List Edge) (s k : Nat), s.testBit k = true → (l.foldl (fun s e => if Region.binds .any e then s ||| 2 ^ e.on ||| B.getD e.on 0 else s) s).testBit k = true := by
              intro l
              induction l with
              | nil => intro s k h; exact h
              | cons y l ih2 =>
                intro s k h
                rw [List.foldl_cons]
                refine ih2 _ k ?_
                split
                · rw [Nat.testBit_or, Nat.testBit_or, h]; rfl
                · exact h
            intro l
            induction l with
            | nil => intro s h; cases h
            | cons y l ih2 =>
              intro s h
              rw [List.foldl_cons]
              rcases List.mem_cons.1 h with rfl | h
              · refine hkeep _ _ _ ?_
                rw [if_pos hbe, Nat.testBit_or, Nat.testBit_or, Nat.testBit_two_pow_self]
                simp
              · exact ih2 _ h
          rw [hin _ _ (Array.mem_toList_iff.2 hed)] at h3
          cases h3⟩
    rw [h0] at this; cases this
theorem wp_region_WDP {ro : Option Nat} {id : Nat} {a : Act} {w : World} {B : Array Nat} {l0 : List Nat} (hm : P.follows .mixedOrders = true) (hok : okRegionP ops cl B l0 = true) {J : World → Prop} {A : As} (hSJ : ∀ u, A.st u → J u)
    (hw : A.st { w with drawn := w.drawn + 1 }) (h : WD P ops cl Q l0 J A a) : (Code.region id ops true).wpIn (Fr ro) 0 P Q a w := by
  have hok0 := hok
  simp only [okRegionP, Bool.and_eq_true, beq_iff_eq] at hok0
  have hlt : ∀ (k : Nat), (Array.replicate ops.size false).getD k false = false := fun k => by
    rcases Nat.lt_or_ge k ops.size with h' | h' <;> simp [h']
  have h9 : ∀ j ∈ l0, j < ops.size := by
    have := hok0.2
    simp only [List.all_eq_true, decide_eq_true_eq] at this
    exact this
  have estart : leftP l0 (Array.replicate ops.size false) = l0 := List.filter_eq_self.2 fun i hi => by
    have := h9 i hi
    simp [this]
  refine wpIn_region_any hm (WD.soundP hok ops.size _ ⟨by simp, fun j oj hj hl => by rw [hlt] at hl; cases hl⟩ (by rw [estart]; exact hok0.1.2) J A a _ hSJ hw (by rw [estart]; exact h))
theorem C_region_anyP {M : Mem} {H : Hp} {e : Env} {m : Nat} {ds : List Deferred} {ro : Option Nat} {id : Nat} (l : List Nat) (ws : List Nat) (B : Array Nat) (J : World → Prop) (hm : P.follows .mixedOrders = true) (hok : okRegionP ops (clsOf P ws ops) B l = true)
    (hdr : ∀ w : World, St M H w → St M H { w with drawn := w.drawn + 1 }) (hJ : ∀ u, St M H u → J u) (h : XD P ⟨m, ds, ro, ws⟩ ops Q l J ⟨M, H⟩ e) : C P ⟨m, ds, ro, []⟩ (.region id ops true) Q (St M H) e :=
  fun a w ha hw => wp_region_WDP (A := ⟨M, H⟩) hm hok hJ (hdr w hw) (h hJ a ⟨ha.size, ha.defers, ha.slot⟩)
end
end Go.Esp
namespace Go.Esp
section
variable {P : Program} {ops : Array Oper} {Q : Exit → Act → World → Prop} {M M' : Mem} {H H' H0 : Hp} {e : Env}
theorem X_fhW2 {n : Sh} {rest : List Nat} {J : World → Prop} {i : Nat} {dst : Option Tmp} {ty : TypeId} {pos : String} {af : Array Edge} {gd : Option (Nat × Bool)} {f : FuncId} {xs : List Operand} {ats : Array TypeId} {vs : List Value} {Hin Hin2 H1 Hr : Hp} {R : Mem → Value → Hp → Prop} (hi : ops[i]? = some ⟨dst, .call ⟨.value (.func f), xs.toArray, ats⟩, ty, pos, af, gd⟩) (hws : n.wrs.contains i = true) (hg : want ops e gd = some true)
    (hf : okFn P f = true) (hx : evs e xs = some vs) (hc : Fh P f vs M (Hin ++ Hin2) R) (hH : Rem Hin H H1) (hH2 : Rem Hin2 H1 Hr)
    (hd : ∀ a v, Sat n e a → Sat n (putE dst v e) (a.put dst v))
    (hk : ∀ v M' Hout, M.le M' → R M' v Hout → XD P n ops Q rest (St M' (Hout ++ Hr)) ⟨M', Hout ++ Hr⟩ (putE dst v e)) : XD P n ops Q (i :: rest) J ⟨M, H⟩ e := by
  obtain ⟨fn, h1, h2, h3⟩ := Zft hf
  have hP : H.Perm ((Hin ++ Hin2) ++ Hr) := (hH.perm.trans (hH2.perm.append_left Hin)).trans (List.append_assoc _ _ _ ▸ List.Perm.refl _)
  refine X_mutW hi rfl hws hg (fun a w ha hw => does_call h1 h2 h3 (by simpa using ha.evs hx) ?_)
  exact (hc Hr w (hw.perm hP)).mono fun e' w' ⟨v, M', Hout, he, hm, hs, hr⟩ => ⟨v, he, ⟨M', Hout ++ Hr⟩, _, hs, hd a v ha, hk v M' Hout hm hr⟩
theorem C_region_anyPR {m : Nat} {ds : List Deferred} {ro : Option Nat} {Hin Hr : Hp} {id : Nat} (l : List Nat) (ws : List Nat) (B : Array Nat) (hR : Rem Hin H Hr) (hm : P.follows .mixedOrders = true) (hok : okRegionP ops (clsOf P ws ops) B l = true)
    (h : XD P ⟨m, ds, ro, ws⟩ ops Q l (St M Hr) ⟨M, H⟩ e) : C P ⟨m, ds, ro, []⟩ (.region id ops true) Q (St M H) e :=
  C_region_anyP l ws B (St M Hr) hm hok St.drawn (fun _ hw => (hw.perm hR.perm).suf (Suf.app Hin Hr)) h
theorem X_fhC {n : Sh} {rest : List Nat} {i : Nat} {dst : Option Tmp} {ty : TypeId} {pos : String} {af : Array Edge} {gd : Option (Nat × Bool)} {f : FuncId} {xs : List Operand} {ats : Array TypeId} {vs : List Value} {Hin : Hp} (Hr : Hp) {R : Mem → Value → Hp → Prop} {MJ : Mem} {HJ : Hp} (hi : ops[i]? = some ⟨dst, .call ⟨.value (.func f), xs.toArray, ats⟩, ty, pos, af, gd⟩) (hg : want ops e gd = some true)
    (hf : okFn P f = true) (hx : evs e xs = some vs) (hc : Fh P f vs M Hin R) (hH : ∀ x, cnt x (Hin ++ Hr) ≤ cnt x H) (hJ : ∀ v M' Hout w, M.le M' → R M' v Hout → St M' (Hout ++ Hr) w → St MJ HJ w)
    (hd : ∀ a v, Sat n e a → Sat n (putE dst v e) (a.put dst v))
    (hk : ∀ v M' Hout, M.le M' → R M' v Hout → XD P n ops Q rest (St MJ HJ) ⟨M', Hout ++ Hr⟩ (putE dst v e)) : XD P n ops Q (i :: rest) (St MJ HJ) ⟨M, H⟩ e := by
  obtain ⟨fn, h1, h2, h3⟩ := Zft hf
  refine X_effJ hi rfl hg (fun _ a F w ha hw => does_call h1 h2 h3 (by simpa using ha.evs hx) ?_)
  have hH2 : ∀ x, cnt x (Hin ++ (F ++ Hr)) ≤ cnt x (F ++ H) := fun x => by
    have := hH x
    simp only [cnt_app] at this ⊢
    omega
  exact (hc (F ++ Hr) w (St.cnt hw hH2)).mono fun e' w' ⟨v, M', Hout, he, hm, hs, hr⟩ => ⟨v, he, ⟨M', Hout ++ Hr⟩, _, hs.perm0 (swapF F Hout Hr).symm, fun u hu => hJ v M' Hout u hm hr hu, hd a v ha, hk v M' Hout hm hr⟩
end
end Go.Esp
namespace Go.Esp
def WkE (bw tw PO WA : Nat) (l : Sl PeerV) (r : Int) (M : Mem) (Hout : Hp) (X : Srv × List Pst) : Prop :=
  ∃ (s9 : ServerV) (o9 : Sl PostV) (ho9 hw9 : Hp), Hout = (bw, rowO (WorkerV.segs ⟨s9, l, r, o9⟩) tw) :: (ho9 ++ hw9) ∧ OSl PO 37 o9.val ho9 (o9.l.map PostV.segs) ∧ OSl WA 28 s9.waits.val hw9 (s9.waits.l.map WaitV.segs) ∧ s9.pl = X.1 ∧ pstl o9.l = X.2 ∧
    SlK M HeldV.segs 24 s9.store ∧ (∀ h ∈ s9.store.l, HeldV.ok M h) ∧ (∀ w ∈ s9.waits.l, WaitV.ok M w) ∧ ∀ y ∈ o9.l, PostV.ok M y
theorem findX_ok {M : Mem} {l : List HeldV} (h : ∀ y ∈ l, HeldV.ok M y) (k : Plc) : CellV.ok M (findX l k).1 := by
  cases e : (findX l k).2 with
  | true =>
    obtain ⟨y, h1, _, h3⟩ := findX_mem e
    rw [← h3]; exact (h y h1).h0
  | false =>
    have e1 : (findX l k).1 = CellV.zero := by
      unfold findX at e ⊢
      split at e
      · cases e
      · rfl
    rw [e1]; exact CellV.zero_ok M
theorem wk_copies {M : Mem} {ep ser addr v : Int} {key : Plc} {sl : List HeldV} {W : List Wt} {to : List Int} (h : ∀ y ∈ sl, HeldV.ok M y) {o : List PostV}
    (ho : o = to.map (fun t : Int => (⟨t, ⟨3, ep, key, OpV.zero, AnswerV.zero, ser, (findX sl key).1⟩⟩ : PostV))) :
    pstl o = copiesP ⟨addr, ep, pls sl, W, v⟩ key ser to ∧ ∀ y ∈ o, PostV.ok M y := by
  subst ho
  constructor
  · unfold pstl copiesP
    rw [List.map_map]
    refine List.map_congr_left fun t _ => ?_
    show Pst.mk t ⟨3, ep, key, OpV.zero, AnswerV.zero, ser, (findX sl key).1.pl⟩ = Pst.mk t ⟨3, ep, key, OpV.zero, AnswerV.zero, ser, (findP (pls sl) key).1⟩
    have := congrArg Prod.fst (findX_pl sl key)
    simp only at this
    rw [this]
  · intro y hy
    obtain ⟨t, _, rfl⟩ := List.mem_map.1 hy
    exact ⟨⟨findX_ok h key⟩⟩
theorem wait_ins {l : List WaitV} (h : WtsOk (wtl l)) {key : Plc} {k : Nat} (hk : bsAt (wtC key) l = k) {x : WaitV} (hx : x.key = key) : wtl (insL l k x) = waitR (wtl l) x.pl := by
  obtain ⟨h1, h2, h3, _, _⟩ := wt_find h key
  rw [hk] at h1 h2 h3
  have e : x.pl.key = key := hx
  rw [waitR_at (k := k) (by rw [Zcs]; exact h1) (fun j hj hjk => by rw [Zcs] at hj; rw [Zgi hj, e]; exact h2 j hj hjk) (fun hj => by rw [Zcs] at hj; rw [Zgi hj, e]; exact h3 hj)]
  unfold insL wtl
  rw [List.map_append, List.map_cons, List.map_take, List.map_drop]
theorem insL_mem {α : Type} {l : List α} {k : Nat} {x y : α} (h : y ∈ insL l k x) : y = x ∨ y ∈ l := by
  unfold insL at h
  rcases List.mem_append.1 h with h | h
  · exact .inr (List.mem_of_mem_take h)
  · rcases List.mem_cons.1 h with h | h
    · exact .inl h
    · exact .inr (List.mem_of_mem_drop h)
theorem fm_take {α β : Type} {f : α → Option β} {l : List α} {j : Nat} (hj : j < l.length) : (l.take (j + 1)).filterMap f = (l.take j).filterMap f ++ (f l[j]).toList := by
  rw [List.take_add_one, List.getElem?_eq_getElem hj, List.filterMap_append]
  have e : ∀ x : α, (some x).toList.filterMap f = (f x).toList := fun x => by cases h : f x <;> simp [h]
  rw [e]
def less9 (frm serial : Int) (w : Wt) : Wt := if w.serial = serial then { w with need := lessN w frm } else w
theorem turnW_step {W L : List WaitV} {f : Wt → Wt} {k : Nat} (hw : W.length = L.length) (hk : k < L.length) (h1 : (wtl W).take k = ((wtl L).take k).map f) (h2 : W.drop k = L.drop k) {x : WaitV} (hx : x.pl = f L[k].pl) :
    (W.set k x).length = L.length ∧ (wtl (W.set k x)).take (k + 1) = ((wtl L).take (k + 1)).map f ∧ (W.set k x).drop (k + 1) = L.drop (k + 1) := by
  have h3 : (wtl W).drop k = (wtl L).drop k := by unfold wtl; rw [← List.map_drop, ← List.map_drop, h2]
  have h4 := turn_step (w := wtl W) (l := wtl L) (f := f) (k := k) (by rw [Zcs, Zcs]; exact hw) (by rw [Zcs]; exact hk) h1 h3 (x := x.pl) (by rw [Zgi hk]; exact hx)
  refine ⟨by simpa using hw, ?_, ?_⟩
  · rw [← h4.2.1]; unfold wtl; rw [List.map_set]
  · rw [List.drop_set_of_lt (by omega)]
    have := congrArg (List.drop 1) h2
    simpa [List.drop_drop] using this
theorem turnW_stay {W L : List WaitV} {f : Wt → Wt} {k : Nat} (hw : W.length = L.length) (hk : k < L.length) (h1 : (wtl W).take k = ((wtl L).take k).map f) (h2 : W.drop k = L.drop k) (hx : L[k].pl = f L[k].pl) :
    (wtl W).take (k + 1) = ((wtl L).take (k + 1)).map f ∧ W.drop (k + 1) = L.drop (k + 1) := by
  have h3 : (wtl W).drop k = (wtl L).drop k := by unfold wtl; rw [← List.map_drop, ← List.map_drop, h2]
  have h4 := turn_stay (w := wtl W) (l := wtl L) (f := f) (k := k) (by rw [Zcs, Zcs]; exact hw) (by rw [Zcs]; exact hk) h1 h3 (by rw [Zgi hk]; exact hx)
  refine ⟨h4.1, ?_⟩
  have := congrArg (List.drop 1) h2
  simpa [List.drop_drop] using this
theorem less_kept {frm serial : Int} : ∀ {l : List WaitV}, (wtl (kept (goneW frm serial) l)).map (less9 frm serial) = (wtl l).filterMap (stays1 frm serial)
  | [] => rfl
  | w :: l => by
    have ih := less_kept (frm := frm) (serial := serial) (l := l)
    show _ = (w.pl :: wtl l).filterMap _
    rw [List.filterMap_cons, ← ih]
    unfold kept
    rw [List.filter_cons]
    by_cases h : w.serial = serial
    · by_cases h2 : lessN w.pl frm = []
      · have e1 : goneW frm serial w = true := decide_eq_true ⟨h, h2⟩
        have e2 : stays1 frm serial w.pl = none := by unfold stays1; rw [if_neg (fun e => e h), if_pos h2]
        rw [e1, e2]; rfl
      · have e1 : goneW frm serial w = false := decide_eq_false (fun e => h2 e.2)
        have e2 : stays1 frm serial w.pl = some { w.pl with need := lessN w.pl frm } := by unfold stays1; rw [if_neg (fun e => e h), if_neg h2]
        have e3 : less9 frm serial w.pl = { w.pl with need := lessN w.pl frm } := if_pos h
        rw [e1, e2]
        show less9 frm serial w.pl :: _ = _
        rw [e3]; rfl
    · have e1 : goneW frm serial w = false := decide_eq_false (fun e => h e.1)
      have e2 : stays1 frm serial w.pl = some w.pl := if_pos h
      have e3 : less9 frm serial w.pl = w.pl := if_neg h
      rw [e1, e2]
      show less9 frm serial w.pl :: _ = _
      rw [e3]; rfl
theorem kept_mem {α : Type} {p : α → Bool} {l : List α} {x : α} (h : x ∈ kept p l) : x ∈ l := (List.mem_filter.1 h).1
theorem kept_le {α : Type} {p : α → Bool} {l : List α} : (kept p l).length ≤ l.length := List.length_filter_le _ _
theorem doneV_ok {M : Mem} {ep frm serial : Int} {l : List WaitV} : ∀ y ∈ l.filterMap (doneV ep frm serial), PostV.ok M y := by
  intro y hy
  obtain ⟨w, _, h⟩ := List.mem_filterMap.1 hy
  unfold doneV at h
  split at h
  · cases h; exact ⟨⟨CellV.zero_ok _⟩⟩
  · cases h
end Go.Esp
