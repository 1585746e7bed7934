/-
  Texts of this claim, one behind the other: V21, V22, V23, SmallN, ServX, V24, ServN, V25, V26, V27, AnsL, V28, V29, V30.
-/
import Derived.Test.YtpkeilhilpogiaaGreatPe5
import Derived.KernelRfl
set_option linter.unusedSimpArgs false
set_option linter.unusedVariables false
set_option linter.unnecessarySimpa false
set_option maxRecDepth 8000
set_option maxHeartbeats 1000000
namespace Go.Proofs.YtpkeilhilpogiaaGreat
open Go.Esp
theorem F.ok52 : okFn Tryz.prog 52 = true := by kernel_rfl
theorem F.ok53 : okFn Tryz.prog 53 = true := by kernel_rfl
theorem F.ok55 : okFn Tryz.prog 55 = true := by kernel_rfl
theorem F.ok56 : okFn Tryz.prog 56 = true := by kernel_rfl
theorem F.ok57 : okFn Tryz.prog 57 = true := by kernel_rfl
theorem F.ok58 : okFn Tryz.prog 58 = true := by kernel_rfl
theorem F.ok59 : okFn Tryz.prog 59 = true := by kernel_rfl
theorem request_ok (M : Mem) (bw : Nat) (Zaf Zx Zw r : Int) (Zr Zp l_a : Option Addr) (Zq Zo l_c : Nat) (Zh : List HeldV) (Zg : List WaitV) (l_l : List PeerV) (hw0 : Hp) (hW : OSl 54 28 (.slice Zp Zg.length Zo) hw0 (Zg.map WaitV.segs)) (hLw : Zg.length ≤ 1000) (okw : ∀ x ∈ Zg, WaitV.ok M x) (k_st : SlK M HeldV.segs 24 ⟨Zr, Zq, Zh⟩) (hsto : ∀ y ∈ Zh, HeldV.ok M y) (k_l : SlK M PeerV.segs 21 ⟨l_a, l_c, l_l⟩) (hci : IsCircle l_l) (hr : 1 ≤ r ∧ r ≤ 8) (hsv : IsSrv (ServerV.pl ⟨Zaf, Zx, ⟨Zr, Zq, Zh⟩, ⟨Zp, Zo, Zg⟩, Zw⟩)) (p : ParcelV) (hop : IsOp p.op) : Fh Tryz.prog 25 [.pointer (some ⟨bw, 0, none⟩), aggV [idSeg p.key], p.op.enc] M ((bw, rowO (WorkerV.segs ⟨⟨Zaf, Zx, ⟨Zr, Zq, Zh⟩, ⟨Zp, Zo, Zg⟩, Zw⟩, ⟨l_a, l_c, l_l⟩, r, ⟨none, 0, []⟩⟩) 67) :: hw0) (fun M' v Hout => v = .tuple #[] ∧ WkE bw 67 51 54 ⟨l_a, l_c, l_l⟩ r M' Hout (requestR (ServerV.pl ⟨Zaf, Zx, ⟨Zr, Zq, Zh⟩, ⟨Zp, Zo, Zg⟩, Zw⟩) l_l r p.pl)) := by
  obtain ⟨Zbx, Zbm, Zbr, ⟨Zv, Zao, Zap, Zy, Zbc⟩, ⟨Zab, Zt, Zae, Zad⟩, Zbd, ⟨Zs, Zai, Zah, ⟨Zn, Zm, Zk⟩⟩⟩ := p
  simp only at hop
  obtain ⟨o9, hog⟩ : ∃ o, ownerI l_l Zbr = o := ⟨_, rfl⟩
  have ho9 : o9 < l_l.length := by rw [← hog]; exact ownerI_lt (by have := hci.1; omega)
  have hcl : 0 ≤ Zv ∧ Zv ≤ 63 := hop.1
  have s_l := k_l.h1
  simp only at s_l
  have n_l : (l_l.map PeerV.segs).length = l_l.length := List.length_map ..
  show Fh _ _ _ _ _ (fun M' v Hout => v = .tuple #[] ∧ WkE bw 67 51 54 ⟨l_a, l_c, l_l⟩ r M' Hout (requestR (ServerV.pl ⟨Zaf, Zx, ⟨Zr, Zq, Zh⟩, ⟨Zp, Zo, Zg⟩, Zw⟩) l_l r (ParcelV.pl ⟨Zbx, Zbm, Zbr, ⟨Zv, Zao, Zap, Zy, Zbc⟩, ⟨Zab, Zt, Zae, Zad⟩, Zbd, ⟨Zs, Zai, Zah, ⟨Zn, Zm, Zk⟩⟩⟩)))
  refine Zex (fun H => (bw, rowO (WorkerV.segs ⟨⟨Zaf, Zx, ⟨Zr, Zq, Zh⟩, ⟨Zp, Zo, Zg⟩, Zw⟩, ⟨l_a, l_c, l_l⟩, r, ⟨none, 0, []⟩⟩) 67) :: (hw0 ++ H)) (fun _ => by simp only [List.append_assoc, List.cons_append, List.nil_append]) Tryz.func25 rfl Tryz.ntmps25 rfl ?_; intro H
  refine Zj ?_; refine Za (l := [0, 1]) rfl ?_
  refine Zcz ?_; intro b1
  refine Zcz ?_; intro b2
  refine Ze ?_; refine Zc ?_; refine Y_pk [5, 4, 0] ?_; refine Zj ?_; refine Zar (l := [0, 1, 2, 3, 4, 5, 6, 7, 8, 9, 10]) #[0, 1, 3, 7, 0, 31, 63, 127, 127, 255, 1023] _ rfl (by kernel_rfl) (by kernel_rfl) St.drawn (fun _ h => h) ?_; refine Zf ?_; refine Zco ?_; refine Zb F.foff67_1 ?_; refine Zi F.lay27 ?_; refine Zi F.lay29 ?_; refine X_fs rfl rfl F.ok52 rfl (Owner_ok _ ⟨l_a, l_c, l_l⟩ Zbr k_l) rfl ?_
  rintro _ hv
  replace hv : _ = ofII (ownerR l_l Zbr) := hv
  rw [show ownerR l_l Zbr = (((o9 : Nat) : Int), 0) from by unfold ownerR; rw [if_pos hci, hog]] at hv
  subst hv
  refine Zf ?_
  iterate 2 refine Zcf ?_
  iterate 2 refine Zd ?_
  refine Ze ?_; refine Zc ?_; refine Y_pk [6, 5, 4, 0] ?_; refine Zj ?_; refine Za (l := [0, 1, 2, 3, 4, 5, 6, 7]) rfl ?_; refine Zf ?_; refine Zi F.lay29 ?_; refine X_fo rfl rfl F.ok53 rfl (find_ok9 M bw Zaf Zx Zw r Zr Zp l_a none Zq Zo l_c 0 Zh Zg l_l [] hw0 hW (by omega) okw hsv.1 Zbr) (by repeat first | exact Rem.here _ | exact Rem.two | apply Rem.skip | apply Rem.over) (Zbq rfl) ?_
  rintro _ MX hmX ⟨hMX, rfl⟩
  subst MX
  clear hmX
  obtain ⟨kk, hkk⟩ : ∃ k, bsAt (wtC Zbr) Zg = k := ⟨_, rfl⟩
  obtain ⟨bi, hbi⟩ : ∃ b, bsIs (wtC Zbr) Zg = b := ⟨_, rfl⟩
  have hfw := wt_find (l := Zg) hsv.1 Zbr
  rw [hkk, hbi] at hfw
  rw [hkk, hbi]
  obtain ⟨hf1, hf2, hf3, hf4, hf5⟩ := hfw
  refine Zf ?_
  iterate 2 refine Zcf ?_
  iterate 2 refine Zd ?_
  refine Ze ?_; refine Zc ?_; refine Y_pk [9, 8, 6, 5, 4, 0] ?_; refine Zj ?_; refine Zbe ?_; refine Zj ?_; refine Zar (l := [0, 1, 2, 3, 4, 5, 6, 7, 8, 9, 10, 11, 12, 13, 14]) #[0, 1, 3, 7, 0, 31, 63, 127, 0, 256, 768, 1792, 3840, 8191, 16383] _ rfl (by kernel_rfl) (by kernel_rfl) St.drawn (fun _ h => h) ?_; refine Zf ?_; refine Zco ?_; refine Zb F.foff67_1 ?_; refine Zi F.lay27 ?_; refine Zf ?_; refine Zaa rfl rfl rfl rfl F.elem27 (by rfl) (by omega) (by exact SlM.plain (by assumption) (by (simp; omega))) rfl ?_; refine Zaq rfl rfl rfl (by exact SlM.plain (by assumption) (by (simp; omega))) F.foff80_0 rfl ?_; refine Zay rfl rfl rfl (by assumption) (by exact Zbl (by omega)) F.lay3 rfl rfl rfl ?_; refine Zf ?_; refine Zco ?_; refine Zb F.foff67_0 ?_; refine Zb F.foff26_0 ?_; refine Zi F.lay3 ?_
  refine Zav ?_; refine Zd ?_; refine Ze ?_; refine Zc ?_; refine Y_pk [32, 9, 8, 5, 4, 0] ?_
  refine Zau rfl (fun hc3 => ?_) (fun hc3 => ?_)
  ·replace hc3 := nT hc3
   simp only [List.get_eq_getElem] at hc3
   refine Zj ?_; refine Zdg (l := [0, 1, 2, 3, 4, 5, 6]) [6] rfl ?_; refine Zf ?_; refine Zb F.foff31_0 ?_; refine Zi F.lay3 ?_; refine Zb F.foff31_1 ?_; refine Zi F.lay22 ?_; refine Zbv rfl rfl F.bld34 (.cons rfl (by constructor) .nil) rfl rfl ?_; refine Zgm rfl rfl rfl F.ok54 rfl (reply_ok M bw Zaf Zx Zw r Zr Zp l_a none Zq Zo l_c 0 Zh Zg l_l [] [] OSl.nil (by show 0 ≤ 90000; omega) Zv Zao ⟨7, 0, false, ⟨#[]⟩⟩ hcl) (by repeat first | exact Rem.here _ | exact Rem.two | apply Rem.skip | apply Rem.over) (Zbq rfl) ?_
   rintro _ MX hsX hmX ⟨hMX, rfl, ⟨o2_a, o2_c, o2_l⟩, ho2, rfl, hO2, ho2l⟩
   subst MX
   clear hmX
   simp only at ho2l hO2
   rw [List.nil_append] at ho2l
   simp only [List.append_assoc, List.cons_append, List.nil_append]
   refine Ze ?_; refine Zen ?_; refine Zc ?_; refine Y_pk [8, 5, 4, 0] ?_; refine Zak ?_; refine Zbj ?_; refine Zba ?_
   refine Zaj (.inr rfl) (.nil) (fun w hw => ?_)
   have hreq : requestR (ServerV.pl ⟨Zaf, Zx, ⟨Zr, Zq, Zh⟩, ⟨Zp, Zo, Zg⟩, Zw⟩) l_l r (ParcelV.pl ⟨Zbx, Zbm, Zbr, ⟨Zv, Zao, Zap, Zy, Zbc⟩, ⟨Zab, Zt, Zae, Zad⟩, Zbd, ⟨Zs, Zai, Zah, ⟨Zn, Zm, Zk⟩⟩⟩) = ((ServerV.pl ⟨Zaf, Zx, ⟨Zr, Zq, Zh⟩, ⟨Zp, Zo, Zg⟩, Zw⟩), [replyR (ServerV.pl ⟨Zaf, Zx, ⟨Zr, Zq, Zh⟩, ⟨Zp, Zo, Zg⟩, Zw⟩) Zv Zao ⟨7, 0, false, ⟨#[]⟩⟩]) := req_none (s := ServerV.pl ⟨Zaf, Zx, ⟨Zr, Zq, Zh⟩, ⟨Zp, Zo, Zg⟩, Zw⟩) (l := l_l) (r := r) (p := ParcelV.pl ⟨Zbx, Zbm, Zbr, ⟨Zv, Zao, Zap, Zy, Zbc⟩, ⟨Zab, Zt, Zae, Zad⟩, Zbd, ⟨Zs, Zai, Zah, ⟨Zn, Zm, Zk⟩⟩⟩) (by show (l_l.getD (ownerI l_l Zbr) ⟨0, 0⟩).addr ≠ Zaf; rw [hog, List.getD_eq_getElem?_getD, List.getElem?_eq_getElem ho9]; show l_l[o9].addr ≠ Zaf; first | assumption | omega)
   refine ⟨_, M, (bw, rowO (WorkerV.segs ⟨⟨Zaf, Zx, ⟨Zr, Zq, Zh⟩, ⟨Zp, Zo, Zg⟩, Zw⟩, ⟨l_a, l_c, l_l⟩, r, ⟨o2_a, o2_c, o2_l⟩⟩) 67) :: (ho2 ++ hw0), rfl, (Mem.le.refl M), ?_, rfl, ⟨⟨Zaf, Zx, ⟨Zr, Zq, Zh⟩, ⟨Zp, Zo, Zg⟩, Zw⟩, ⟨o2_a, o2_c, o2_l⟩, ho2, hw0, rfl, hO2, hW, (by rw [hreq]), (by rw [ho2l, hreq]; rfl), k_st, hsto, okw, (fun y hy => by rw [ho2l] at hy; obtain rfl := List.mem_singleton.1 hy; exact ⟨⟨CellV.zero_ok _⟩⟩)⟩⟩
   ·simp only [WorkerV.segs, Sl.val] at hw ⊢
    exact hw.c
  ·replace hc3 := nF hc3
   simp only [List.get_eq_getElem] at hc3
   refine Zj ?_; refine Za (l := [0, 1]) rfl ?_; refine Zf ?_; refine Zd ?_; refine Ze ?_; refine Zc ?_; refine Y_pk [54, 8, 5, 4, 0] ?_
   refine Zau rfl (fun hc4 => ?_) (fun hc4 => ?_)
   ·skip
    refine Zj ?_
    have hbt : bi = true := by first | assumption | (simp_all; done)
    obtain ⟨hjk, hwkey, hff⟩ := hf4 hbt
    have hWm : OSl 54 28 (.slice Zp (Zg.map WaitV.segs).length Zo) hw0 (Zg.map WaitV.segs) := by rw [List.length_map]; exact hW
    refine Zdg (l := [0, 1, 2, 3, 4, 5, 6, 7, 8, 9]) [9] rfl ?_
    iterate 2 refine Zf ?_
    refine Zco ?_; refine Zb F.foff67_0 ?_; refine Zb F.foff26_3 ?_; refine Zi F.lay24 ?_; refine Zf ?_; refine Zaa rfl rfl rfl rfl F.elem24 (by rfl) (by omega) (by exact OSl.plain (by assumption) (by (simp; omega))) rfl ?_; refine X_load_osl rfl rfl rfl (by assumption) (by repeat first | exact Rem.here _ | exact Rem.two | apply Rem.skip | apply Rem.over) (by exact Zbl (by omega)) F.lay54 rfl rfl rfl ?_
    obtain ⟨⟨Zev, Zbo, Zfh, ⟨Zat, Zaw, Zbn, Zaz⟩, Zcn, ⟨Zcl, Zck, Zac⟩⟩, hwk⟩ : ∃ w, Zg[kk]'hjk = w := ⟨_, rfl⟩
    refine Zgq 64 rfl (show _ = aggV (WaitV.segs ⟨Zev, Zbo, Zfh, ⟨Zat, Zaw, Zbn, Zaz⟩, Zcn, ⟨Zcl, Zck, Zac⟩⟩) from by rw [← hwk]; rfl) ?_
    have okw9 := okw _ (List.getElem_mem hjk)
    rw [hwk] at okw9 hwkey hff
    have hwo : WtOk (WaitV.pl ⟨Zev, Zbo, Zfh, ⟨Zat, Zaw, Zbn, Zaz⟩, Zcn, ⟨Zcl, Zck, Zac⟩⟩) := by
     have h9 := hsv.1.1 _ (List.mem_map_of_mem (f := WaitV.pl) (List.getElem_mem hjk))
     rw [hwk] at h9; exact h9
    have hnl : Zac.length ≤ 1000 := by have h9 := hwo.2.1.2; simp only [WaitV.pl] at h9; omega
    refine Zgm rfl rfl rfl F.ok55 rfl (copies_ok M bw Zaf Zx Zw r Zr Zp l_a none Zq Zo l_c 0 Zh Zg l_l [] [] OSl.nil (by show 0 ≤ 90000; omega) ⟨Zev, Zbo, Zfh, ⟨Zat, Zaw, Zbn, Zaz⟩, Zcn, ⟨Zcl, Zck, Zac⟩⟩ hnl okw9.h0 k_st hsto) (by repeat first | exact Rem.here _ | exact Rem.two | apply Rem.skip | apply Rem.over) (Zbq rfl) ?_
    rintro _ MX hsX hmX ⟨hMX, rfl, ⟨o2_a, o2_c, o2_l⟩, ho2, rfl, hO2, ho2l⟩
    subst MX
    clear hmX
    simp only at ho2l hO2
    rw [List.nil_append] at ho2l
    simp only [List.append_assoc, List.cons_append, List.nil_append]
    refine Ze ?_; refine Zen ?_; refine Zc ?_; refine Y_pk [8, 5, 4, 0] ?_; refine Zak ?_; refine Zbj ?_; refine Zba ?_
    refine Zaj (.inr rfl) (.nil) (fun w hw => ?_)
    have hcp := wk_copies (ep := Zx) (ser := Zcn) (addr := Zaf) (v := Zw) (key := Zev) (W := wtl Zg) hsto ho2l
    have hwk8 : Zev = Zbr := hwkey
    have hreq : requestR (ServerV.pl ⟨Zaf, Zx, ⟨Zr, Zq, Zh⟩, ⟨Zp, Zo, Zg⟩, Zw⟩) l_l r (ParcelV.pl ⟨Zbx, Zbm, Zbr, ⟨Zv, Zao, Zap, Zy, Zbc⟩, ⟨Zab, Zt, Zae, Zad⟩, Zbd, ⟨Zs, Zai, Zah, ⟨Zn, Zm, Zk⟩⟩⟩) = ((ServerV.pl ⟨Zaf, Zx, ⟨Zr, Zq, Zh⟩, ⟨Zp, Zo, Zg⟩, Zw⟩), copiesP (ServerV.pl ⟨Zaf, Zx, ⟨Zr, Zq, Zh⟩, ⟨Zp, Zo, Zg⟩, Zw⟩) Zbr Zcn Zac) := req_wait (s := ServerV.pl ⟨Zaf, Zx, ⟨Zr, Zq, Zh⟩, ⟨Zp, Zo, Zg⟩, Zw⟩) (l := l_l) (r := r) (p := ParcelV.pl ⟨Zbx, Zbm, Zbr, ⟨Zv, Zao, Zap, Zy, Zbc⟩, ⟨Zab, Zt, Zae, Zad⟩, Zbd, ⟨Zs, Zai, Zah, ⟨Zn, Zm, Zk⟩⟩⟩) (by show (l_l.getD (ownerI l_l Zbr) ⟨0, 0⟩).addr = Zaf; rw [hog, List.getD_eq_getElem?_getD, List.getElem?_eq_getElem ho9]; show l_l[o9].addr = Zaf; first | assumption | omega) hff
    refine ⟨_, M, (bw, rowO (WorkerV.segs ⟨⟨Zaf, Zx, ⟨Zr, Zq, Zh⟩, ⟨Zp, Zo, Zg⟩, Zw⟩, ⟨l_a, l_c, l_l⟩, r, ⟨o2_a, o2_c, o2_l⟩⟩) 67) :: (ho2 ++ hw0), rfl, (Mem.le.refl M), ?_, rfl, ⟨⟨Zaf, Zx, ⟨Zr, Zq, Zh⟩, ⟨Zp, Zo, Zg⟩, Zw⟩, ⟨o2_a, o2_c, o2_l⟩, ho2, hw0, rfl, hO2, hW, (by rw [hreq]), (by rw [hreq, ← hwk8]; exact hcp.1), k_st, hsto, okw, hcp.2⟩⟩
    ·simp only [WorkerV.segs, Sl.val] at hw ⊢
     exact hw.c
   ·skip
    refine Zax ?_; refine Zde ?_; refine Zc ?_; refine Y_pk [8, 5, 4, 0] ?_; refine Zj ?_
    have hbi9 : bi = false := by first | assumption | (simp_all; done)
    refine Zar (l := [0, 1, 2, 3, 4, 5, 6, 7, 8, 9, 10, 11, 12]) #[0, 1, 3, 7, 15, 0, 63, 127, 255, 255, 0, 1535, 4095] _ rfl (by kernel_rfl) (by kernel_rfl) St.drawn (fun _ h => h) ?_; refine Zf ?_; refine Zco ?_; refine Zb F.foff67_0 ?_; refine Zb F.foff26_2 ?_; refine Zi F.lay23 ?_; refine Zi F.lay29 ?_; refine X_fs rfl rfl F.ok19 rfl (Find_ok _ ⟨Zr, Zq, Zh⟩ Zbr k_st hsto) rfl ?_
    rintro _ hv
    obtain ⟨⟨xc, xb⟩, hx⟩ : ∃ r, findX Zh Zbr = r := ⟨_, rfl⟩
    replace hv : _ = findXv (findX Zh Zbr) := hv
    rw [hx] at hv
    subst hv
    have hpl := findX_pl Zh Zbr
    rw [hx] at hpl
    have okx : CellV.ok M xc := by have h9 := findX_ok hsto Zbr; rw [hx] at h9; exact h9
    obtain ⟨⟨D1, da, db, de⟩, hD⟩ : ∃ x, doC (findP (pls Zh) Zbr).1 (⟨Zv, Zao, Zap, Zy, Zbc⟩ : OpV) = x := ⟨_, rfl⟩
    have hpl1 : xc.pl = (findP (pls Zh) Zbr).1 := congrArg Prod.fst hpl
    obtain ⟨x_v, x_h, x_s, ⟨x_a, x_c, x_l⟩⟩ := xc
    refine Zf ?_
    iterate 2 refine Zcf ?_
    refine Zby F.zero37 ?_; intro b5
    refine Zas F.lay37 ?_; refine Zd ?_; refine Ze ?_; refine Zc ?_; refine Y_pk [10, 8, 5, 4, 0] ?_; refine Zj ?_; refine Za (l := [0, 1, 2, 3, 4, 5, 6, 7, 8, 9, 10, 11, 12]) rfl ?_; refine Zi F.lay37 ?_; refine Zi F.lay31 ?_; refine X_fn rfl rfl F.ok56 rfl (Do_ok _ ⟨x_v, x_h, x_s, ⟨x_a, x_c, x_l⟩⟩ (⟨Zv, Zao, Zap, Zy, Zbc⟩ : OpV) okx) rfl ?_
    rintro _ M1 hm1 hv
    replace hv : DoE _ _ (doC (CellV.pl ⟨x_v, x_h, x_s, ⟨x_a, x_c, x_l⟩⟩) (⟨Zv, Zao, Zap, Zy, Zbc⟩ : OpV)) := hv
    rw [hpl1, hD] at hv
    obtain ⟨⟨d_v, d_h, d_s, ⟨d_a, d_c, d_l⟩⟩, rfl, hdp, okd⟩ := hv
    obtain ⟨da1, da2, da3, da4⟩ := da
    simp only at hdp
    refine Zf ?_
    iterate 4 refine Zcf ?_
    refine Zby F.zero34 ?_; intro b6
    refine Zas F.lay37 ?_; refine Zas F.lay34 ?_
    iterate 2 refine Zd ?_
    refine Ze ?_; refine Zc ?_; refine Y_pk [13, 12, 10, 8, 5, 4, 0] ?_
    iterate 2 refine Zj ?_
    refine Zdg (l := [0, 1, 2, 3, 4, 5, 6, 7, 8, 9]) [7] rfl ?_; refine Zb F.foff31_2 ?_; refine Zi F.lay3 ?_; refine Zav ?_; refine Zf ?_
    refine Zag 87 rfl (fun hc7 => ?_) (fun hc7 => ?_)
    ·replace hc7 := nT hc7
     have hkind : ¬ Zap = 1 := by omega
     refine Zf ?_; refine Zi F.lay29 ?_; refine Zi F.lay37 ?_; refine Zgm rfl rfl rfl F.ok57 rfl (put_ok9 M1 bw Zaf Zx Zw r Zr Zp l_a none Zq Zo l_c 0 Zh Zg l_l [] (k_st.mono hm1) (fun h hh => (hsto h hh).mono hm1) Zbr ⟨d_v, d_h, d_s, ⟨d_a, d_c, d_l⟩⟩ okd) (by repeat first | exact Rem.here _ | exact Rem.two | apply Rem.skip | apply Rem.over) (Zbq rfl) ?_
     rintro _ M2 hs2 hm2 ⟨⟨u_a, u_c, u_l⟩, rfl, rfl, k_u, l_u, hu⟩
     rw [hdp] at hu ⊢
     obtain ⟨⟨Q1, qe⟩, hQ⟩ : ∃ x, putR (pls Zh) Zbr D1 = x := ⟨_, rfl⟩
     rw [hQ] at hu ⊢
     simp only at hu l_u ⊢
     simp only [List.append_assoc, List.cons_append, List.nil_append]
     refine Zel ?_; refine Zl ?_; refine Ze ?_; refine Zen ?_; refine Zc ?_; refine Y_pk [93, 13, 12, 8, 5, 4, 0] ?_
     refine Zau rfl (fun hc8 => ?_) (fun hc8 => ?_)
     ·replace hc8 := nT hc8
      refine Zak ?_; refine Zba ?_
      refine Zaj (.inr rfl) (.nil) (fun w hw => ?_)
      have hqe : ¬ qe = 0 := by first | assumption | (intro h9; simp_all; done)
      rw [if_neg hqe] at hu
      have hreq : requestR (ServerV.pl ⟨Zaf, Zx, ⟨Zr, Zq, Zh⟩, ⟨Zp, Zo, Zg⟩, Zw⟩) l_l r (ParcelV.pl ⟨Zbx, Zbm, Zbr, ⟨Zv, Zao, Zap, Zy, Zbc⟩, ⟨Zab, Zt, Zae, Zad⟩, Zbd, ⟨Zs, Zai, Zah, ⟨Zn, Zm, Zk⟩⟩⟩) = ((ServerV.pl ⟨Zaf, Zx, ⟨Zr, Zq, Zh⟩, ⟨Zp, Zo, Zg⟩, Zw⟩), []) := req_full (s := ServerV.pl ⟨Zaf, Zx, ⟨Zr, Zq, Zh⟩, ⟨Zp, Zo, Zg⟩, Zw⟩) (l := l_l) (r := r) (p := ParcelV.pl ⟨Zbx, Zbm, Zbr, ⟨Zv, Zao, Zap, Zy, Zbc⟩, ⟨Zab, Zt, Zae, Zad⟩, Zbd, ⟨Zs, Zai, Zah, ⟨Zn, Zm, Zk⟩⟩⟩) (by show (l_l.getD (ownerI l_l Zbr) ⟨0, 0⟩).addr = Zaf; rw [hog, List.getD_eq_getElem?_getD, List.getElem?_eq_getElem ho9]; show l_l[o9].addr = Zaf; first | assumption | omega) (hf5 hbi9) hkind (show (doC (findP (pls Zh) Zbr).1 (⟨Zv, Zao, Zap, Zy, Zbc⟩ : OpV)) = _ from hD) hQ hqe
      refine ⟨_, M2, (bw, rowO (WorkerV.segs ⟨⟨Zaf, Zx, ⟨u_a, u_c, u_l⟩, ⟨Zp, Zo, Zg⟩, Zw⟩, ⟨l_a, l_c, l_l⟩, r, ⟨none, 0, []⟩⟩) 67) :: ([] ++ hw0), rfl, (hm1.trans hm2), ?_, rfl, ⟨⟨Zaf, Zx, ⟨u_a, u_c, u_l⟩, ⟨Zp, Zo, Zg⟩, Zw⟩, ⟨none, 0, []⟩, [], hw0, rfl, OSl.nil, hW, (by rw [hreq]; show Srv.mk _ _ (pls u_l) _ _ = Srv.mk _ _ (pls Zh) _ _; rw [hu]), (by rw [hreq]; rfl), k_u, l_u, (fun h hh => (okw h hh).mono (hm1.trans hm2)), (fun y hy => by cases hy)⟩⟩
      ·simp only [WorkerV.segs, Sl.val] at hw ⊢
       exact hw.c
     ·replace hc8 := nF hc8
      refine Zax ?_; refine Zc ?_; refine Y_pk [13, 12, 8, 5, 4, 0] ?_; refine Zj ?_; refine Zdg (l := [0, 1, 2, 3]) [2] rfl ?_; refine Zf ?_; refine Zi F.lay29 ?_; refine Zgm rfl rfl rfl F.ok58 rfl (others_ok9 M2 bw Zaf Zx Zw r u_a Zp l_a none u_c Zo l_c 0 u_l Zg l_l [] (k_l.mono (hm1.trans hm2)) hci hr Zbr) (by repeat first | exact Rem.here _ | exact Rem.two | apply Rem.skip | apply Rem.over) (Zbq rfl) ?_
      rintro _ M3 hs3 hm3 ⟨rfl, ⟨t_a, t_c, t_l⟩, rfl, ht, k_t⟩
      simp only at ht
      have htl : t_l.length ≤ 1000 := by rw [ht]; exact upto_len
      replace ht : Hid (t_l = othersR l_l r Zbr) := ht
      simp only [List.append_assoc, List.cons_append, List.nil_append]
      refine Zd ?_; refine Ze ?_; refine Zen ?_; refine Zc ?_; refine Y_pk [15, 13, 12, 8, 5, 4, 0] ?_
      iterate 2 refine Zj ?_
      refine Za (l := [0, 1, 2, 3, 4, 5, 6]) rfl ?_; refine Zf ?_; refine Zel ?_; refine Zf ?_
      refine Zag 99 rfl (fun hc9 => ?_) (fun hc9 => ?_)
      ·skip
       iterate 3 refine Zz ?_
       refine Zl ?_; refine Ze ?_; refine Zc ?_; refine Y_pk [103, 15, 12, 8, 5, 4, 0] ?_; refine Zcy rfl ?_; refine Zj ?_; refine Zdg (l := [0, 1, 2, 3, 4, 5, 6]) [6] rfl ?_; refine Zf ?_; refine Zb F.foff31_0 ?_; refine Zi F.lay3 ?_; refine Zb F.foff31_1 ?_; refine Zi F.lay22 ?_; refine Zi F.lay34 ?_; refine Zgm rfl rfl rfl F.ok54 rfl (reply_ok M3 bw Zaf Zx Zw r u_a Zp l_a none u_c Zo l_c 0 u_l Zg l_l [] [] OSl.nil (by show 0 ≤ 90000; omega) Zv Zao ⟨da1, da2, da3, da4⟩ hcl) (by repeat first | exact Rem.here _ | exact Rem.two | apply Rem.skip | apply Rem.over) (Zbq rfl) ?_
       rintro _ MX hsX hmX ⟨hMX, rfl, ⟨o2_a, o2_c, o2_l⟩, ho2, rfl, hO2, ho2l⟩
       subst MX
       clear hmX
       simp only at ho2l hO2
       rw [List.nil_append] at ho2l
       simp only [List.append_assoc, List.cons_append, List.nil_append]
       refine Ze ?_; refine Zen ?_; refine Zc ?_; refine Y_pk [15, 12, 8, 5, 4, 0] ?_; refine Zak ?_; refine Zba ?_
       refine Zaj (.inr rfl) (.nil) (fun w hw => ?_)
       have hqe : qe = 0 := by first | assumption | (simp_all; done)
       rw [if_pos hqe] at hu
       have hdn : db = false ∨ t_l = [] := by first | exact .inl (by assumption) | exact .inl (by have h9 : (!db) = true := (by assumption); simpa using h9) | exact .inr (List.eq_nil_of_length_eq_zero (by omega))
       have hreq : requestR (ServerV.pl ⟨Zaf, Zx, ⟨Zr, Zq, Zh⟩, ⟨Zp, Zo, Zg⟩, Zw⟩) l_l r (ParcelV.pl ⟨Zbx, Zbm, Zbr, ⟨Zv, Zao, Zap, Zy, Zbc⟩, ⟨Zab, Zt, Zae, Zad⟩, Zbd, ⟨Zs, Zai, Zah, ⟨Zn, Zm, Zk⟩⟩⟩) = (⟨Zaf, Zx, Q1, wtl Zg, Zw⟩, [replyR (ServerV.pl ⟨Zaf, Zx, ⟨Zr, Zq, Zh⟩, ⟨Zp, Zo, Zg⟩, Zw⟩) Zv Zao ⟨da1, da2, da3, da4⟩]) := req_done (s := ServerV.pl ⟨Zaf, Zx, ⟨Zr, Zq, Zh⟩, ⟨Zp, Zo, Zg⟩, Zw⟩) (l := l_l) (r := r) (p := ParcelV.pl ⟨Zbx, Zbm, Zbr, ⟨Zv, Zao, Zap, Zy, Zbc⟩, ⟨Zab, Zt, Zae, Zad⟩, Zbd, ⟨Zs, Zai, Zah, ⟨Zn, Zm, Zk⟩⟩⟩) (by show (l_l.getD (ownerI l_l Zbr) ⟨0, 0⟩).addr = Zaf; rw [hog, List.getD_eq_getElem?_getD, List.getElem?_eq_getElem ho9]; show l_l[o9].addr = Zaf; first | assumption | omega) (hf5 hbi9) hkind (show (doC (findP (pls Zh) Zbr).1 (⟨Zv, Zao, Zap, Zy, Zbc⟩ : OpV)) = _ from hD) hQ hqe ht hdn
       refine ⟨_, M3, (bw, rowO (WorkerV.segs ⟨⟨Zaf, Zx, ⟨u_a, u_c, u_l⟩, ⟨Zp, Zo, Zg⟩, Zw⟩, ⟨l_a, l_c, l_l⟩, r, ⟨o2_a, o2_c, o2_l⟩⟩) 67) :: (ho2 ++ hw0), rfl, (hm1.trans (hm2.trans hm3)), ?_, rfl, ⟨⟨Zaf, Zx, ⟨u_a, u_c, u_l⟩, ⟨Zp, Zo, Zg⟩, Zw⟩, ⟨o2_a, o2_c, o2_l⟩, ho2, hw0, rfl, hO2, hW, (by rw [hreq]; show Srv.mk _ _ (pls u_l) _ _ = Srv.mk _ _ Q1 _ _; rw [hu]), (by rw [ho2l, hreq]; rfl), (k_u.mono hm3), (fun h hh => (l_u h hh).mono hm3), (fun h hh => (okw h hh).mono (hm1.trans (hm2.trans hm3))), (fun y hy => by rw [ho2l] at hy; obtain rfl := List.mem_singleton.1 hy; exact ⟨⟨CellV.zero_ok _⟩⟩)⟩⟩
       ·simp only [WorkerV.segs, Sl.val] at hw ⊢
        exact hw.c
      ·skip
       refine Zf ?_; refine Zbb F.elem52 ?_; refine Zav ?_; refine Zl ?_; refine Ze ?_; refine Zc ?_; refine Y_pk [103, 15, 12, 8, 5, 4, 0] ?_
       refine Zau rfl (fun hc10 => ?_) (fun hc10 => ?_)
       ·replace hc10 := dT hc10
        refine Zj ?_; refine Zdg (l := [0, 1, 2, 3, 4, 5, 6]) [6] rfl ?_; refine Zf ?_; refine Zb F.foff31_0 ?_; refine Zi F.lay3 ?_; refine Zb F.foff31_1 ?_; refine Zi F.lay22 ?_; refine Zi F.lay34 ?_; refine Zgm rfl rfl rfl F.ok54 rfl (reply_ok M3 bw Zaf Zx Zw r u_a Zp l_a none u_c Zo l_c 0 u_l Zg l_l [] [] OSl.nil (by show 0 ≤ 90000; omega) Zv Zao ⟨da1, da2, da3, da4⟩ hcl) (by repeat first | exact Rem.here _ | exact Rem.two | apply Rem.skip | apply Rem.over) (Zbq rfl) ?_
        rintro _ MX hsX hmX ⟨hMX, rfl, ⟨o2_a, o2_c, o2_l⟩, ho2, rfl, hO2, ho2l⟩
        subst MX
        clear hmX
        simp only at ho2l hO2
        rw [List.nil_append] at ho2l
        simp only [List.append_assoc, List.cons_append, List.nil_append]
        refine Ze ?_; refine Zen ?_; refine Zc ?_; refine Y_pk [15, 12, 8, 5, 4, 0] ?_; refine Zak ?_; refine Zba ?_
        refine Zaj (.inr rfl) (.nil) (fun w hw => ?_)
        have hqe : qe = 0 := by first | assumption | (simp_all; done)
        rw [if_pos hqe] at hu
        have hdn : db = false ∨ t_l = [] := by first | exact .inl (by assumption) | exact .inl (by have h9 : (!db) = true := (by assumption); simpa using h9) | exact .inr (List.eq_nil_of_length_eq_zero (by omega))
        have hreq : requestR (ServerV.pl ⟨Zaf, Zx, ⟨Zr, Zq, Zh⟩, ⟨Zp, Zo, Zg⟩, Zw⟩) l_l r (ParcelV.pl ⟨Zbx, Zbm, Zbr, ⟨Zv, Zao, Zap, Zy, Zbc⟩, ⟨Zab, Zt, Zae, Zad⟩, Zbd, ⟨Zs, Zai, Zah, ⟨Zn, Zm, Zk⟩⟩⟩) = (⟨Zaf, Zx, Q1, wtl Zg, Zw⟩, [replyR (ServerV.pl ⟨Zaf, Zx, ⟨Zr, Zq, Zh⟩, ⟨Zp, Zo, Zg⟩, Zw⟩) Zv Zao ⟨da1, da2, da3, da4⟩]) := req_done (s := ServerV.pl ⟨Zaf, Zx, ⟨Zr, Zq, Zh⟩, ⟨Zp, Zo, Zg⟩, Zw⟩) (l := l_l) (r := r) (p := ParcelV.pl ⟨Zbx, Zbm, Zbr, ⟨Zv, Zao, Zap, Zy, Zbc⟩, ⟨Zab, Zt, Zae, Zad⟩, Zbd, ⟨Zs, Zai, Zah, ⟨Zn, Zm, Zk⟩⟩⟩) (by show (l_l.getD (ownerI l_l Zbr) ⟨0, 0⟩).addr = Zaf; rw [hog, List.getD_eq_getElem?_getD, List.getElem?_eq_getElem ho9]; show l_l[o9].addr = Zaf; first | assumption | omega) (hf5 hbi9) hkind (show (doC (findP (pls Zh) Zbr).1 (⟨Zv, Zao, Zap, Zy, Zbc⟩ : OpV)) = _ from hD) hQ hqe ht hdn
        refine ⟨_, M3, (bw, rowO (WorkerV.segs ⟨⟨Zaf, Zx, ⟨u_a, u_c, u_l⟩, ⟨Zp, Zo, Zg⟩, Zw⟩, ⟨l_a, l_c, l_l⟩, r, ⟨o2_a, o2_c, o2_l⟩⟩) 67) :: (ho2 ++ hw0), rfl, (hm1.trans (hm2.trans hm3)), ?_, rfl, ⟨⟨Zaf, Zx, ⟨u_a, u_c, u_l⟩, ⟨Zp, Zo, Zg⟩, Zw⟩, ⟨o2_a, o2_c, o2_l⟩, ho2, hw0, rfl, hO2, hW, (by rw [hreq]; show Srv.mk _ _ (pls u_l) _ _ = Srv.mk _ _ Q1 _ _; rw [hu]), (by rw [ho2l, hreq]; rfl), (k_u.mono hm3), (fun h hh => (l_u h hh).mono hm3), (fun h hh => (okw h hh).mono (hm1.trans (hm2.trans hm3))), (fun y hy => by rw [ho2l] at hy; obtain rfl := List.mem_singleton.1 hy; exact ⟨⟨CellV.zero_ok _⟩⟩)⟩⟩
        ·simp only [WorkerV.segs, Sl.val] at hw ⊢
         exact hw.c
       ·replace hc10 := dF hc10
        refine Zax ?_; refine Zc ?_; refine Y_pk [15, 12, 8, 5, 4, 0] ?_; refine Zj ?_; refine Za (l := [0, 1, 2, 3, 4, 5, 6, 7, 8, 9]) rfl ?_; refine Zf ?_; refine Zco ?_; refine Zb F.foff67_0 ?_; refine Zb F.foff26_4 ?_; refine Zi F.lay22 ?_; refine Zcc rfl rfl rfl rfl rfl (by exact wrap_u64 _) rfl ?_
        obtain ⟨v9, hv9⟩ : ∃ v, w64 (Zw + 1) = v := ⟨_, rfl⟩
        refine Zgq 116 rfl (show _ = Value.int .u64 v9 from congrArg (Value.int .u64) hv9) ?_; refine Zco ?_; refine Zb F.foff67_0 ?_; refine Zb F.foff26_4 ?_; refine Zas F.lay22 ?_; refine Ze ?_; refine Zc ?_; refine Y_pk [15, 12, 8, 5, 4, 0] ?_; refine Zj ?_; refine Zar (l := [0, 1, 2, 3, 4, 5, 6, 7, 8, 9, 10, 11, 12, 13, 14]) #[0, 0, 2, 0, 8, 0, 0, 64, 192, 448, 960, 0, 4095, 0, 16383] _ rfl (by kernel_rfl) (by kernel_rfl) St.drawn (fun _ h => h) ?_; refine Zi F.lay29 ?_; refine Zb F.foff31_0 ?_; refine Zi F.lay3 ?_; refine Zb F.foff31_1 ?_; refine Zi F.lay22 ?_; refine Zi F.lay34 ?_; refine Zf ?_; refine Zco ?_; refine Zb F.foff67_0 ?_; refine Zb F.foff26_4 ?_; refine Zi F.lay22 ?_; refine Zf ?_; refine Zbv rfl rfl F.bld54 (.cons rfl (by constructor) (.cons rfl (by constructor) (.cons rfl (by constructor) (.cons rfl (by constructor) (.cons rfl (by constructor) (.cons rfl (by constructor) .nil)))))) rfl rfl ?_
        refine Zby F.zero54 ?_; intro b11
        refine Zas F.lay54 ?_; refine Ze ?_; refine Zc ?_; refine Y_pk [16, 8, 0] ?_; refine Zj ?_; refine C_region_anyW (l := [0, 1, 2, 3, 4, 5, 6, 7, 8, 9, 10, 11, 12, 13]) [9] #[0, 0, 2, 6, 14, 30, 0, 0, 128, 510, 1023, 2047, 4095, 8191] _ rfl (by kernel_rfl) (by kernel_rfl) St.drawn (fun _ h => h) ?_
        iterate 2 refine Zf ?_
        refine Zco ?_; refine Zb F.foff67_0 ?_; refine Zb F.foff26_3 ?_; refine Zi F.lay24 ?_; refine Zf ?_; refine Zi F.lay54 ?_
        refine Zbt rfl rfl F.elem24 F.zero54 rfl rfl (.cons rfl (by constructor) .nil) rfl rfl (by simp only [List.map_cons, List.map_nil] <;> rfl) rfl ?_; intro b12 hob13
        refine X_fhW2 rfl rfl rfl F.ok59 rfl (InsertW_ok M3 Zp Zo Zg hw0 kk hf1 (⟨Zbr, Zv, Zao, ⟨da1, da2, da3, da4⟩, v9, ⟨t_a, t_c, t_l⟩⟩ : WaitV) _ _ hob13 (by omega) hW) (by repeat first | exact Rem.here _ | exact Rem.two | apply Rem.skip | apply Rem.over) (by repeat first | exact Rem.here _ | exact Rem.two | apply Rem.skip | apply Rem.over) (Zbq rfl) ?_
        rintro v7 MX hs7 hmX ⟨hMX, ho7⟩
        subst MX
        clear hmX
        obtain ⟨ad7, cp7, rfl⟩ := ho7.valL
        simp only [List.append_assoc, List.cons_append, List.nil_append]
        refine Zco ?_; refine Zb F.foff67_0 ?_; refine Zb F.foff26_3 ?_; refine Zas F.lay24 ?_; refine Ze ?_; refine Zen ?_; refine Zc ?_; refine Y_pk [16, 0] ?_; refine Zdg (l := [0, 1, 2]) [2] rfl ?_; refine Zf ?_; refine Zi F.lay54 ?_; refine Zgm rfl rfl rfl F.ok55 rfl (copies_ok M3 bw Zaf Zx v9 r u_a ad7 l_a none u_c cp7 l_c 0 u_l (insL Zg kk (⟨Zbr, Zv, Zao, ⟨da1, da2, da3, da4⟩, v9, ⟨t_a, t_c, t_l⟩⟩ : WaitV)) l_l [] [] OSl.nil (by show 0 ≤ 90000; omega) (⟨Zbr, Zv, Zao, ⟨da1, da2, da3, da4⟩, v9, ⟨t_a, t_c, t_l⟩⟩ : WaitV) (by show t_l.length ≤ 1000; omega) k_t (k_u.mono hm3) (fun h hh => (l_u h hh).mono hm3)) (by repeat first | exact Rem.here _ | exact Rem.two | apply Rem.skip | apply Rem.over) (Zbq rfl) ?_
        rintro _ MX hsX hmX ⟨hMX, rfl, ⟨o2_a, o2_c, o2_l⟩, ho2, rfl, hO2, ho2l⟩
        subst MX
        clear hmX
        simp only at ho2l hO2
        rw [List.nil_append] at ho2l
        simp only [List.append_assoc, List.cons_append, List.nil_append]
        refine Ze ?_; refine Zen ?_
        refine Zaj (.inl rfl) (.nil) (fun w hw => ?_)
        have hqe : qe = 0 := by first | assumption | (simp_all; done)
        rw [if_pos hqe] at hu
        have hdn : ¬ (db = false ∨ t_l = []) := by
         rintro (h9 | h9)
         ·(have h8 : (!db) = false := (by assumption); rw [h9] at h8; cases h8)
         ·have h7 := congrArg List.length h9
          simp only [List.length_nil] at h7
          omega
        have hwi := wait_ins (l := Zg) hsv.1 hkk (x := (⟨Zbr, Zv, Zao, ⟨da1, da2, da3, da4⟩, v9, ⟨t_a, t_c, t_l⟩⟩ : WaitV)) rfl
        have hcp := wk_copies (ep := Zx) (ser := v9) (addr := Zaf) (v := v9) (key := Zbr) (W := wtl (insL Zg kk (⟨Zbr, Zv, Zao, ⟨da1, da2, da3, da4⟩, v9, ⟨t_a, t_c, t_l⟩⟩ : WaitV))) (fun h hh => (l_u h hh).mono hm3) ho2l
        have hreq : requestR (ServerV.pl ⟨Zaf, Zx, ⟨Zr, Zq, Zh⟩, ⟨Zp, Zo, Zg⟩, Zw⟩) l_l r (ParcelV.pl ⟨Zbx, Zbm, Zbr, ⟨Zv, Zao, Zap, Zy, Zbc⟩, ⟨Zab, Zt, Zae, Zad⟩, Zbd, ⟨Zs, Zai, Zah, ⟨Zn, Zm, Zk⟩⟩⟩) = (⟨Zaf, Zx, Q1, wtl (insL Zg kk (⟨Zbr, Zv, Zao, ⟨da1, da2, da3, da4⟩, v9, ⟨t_a, t_c, t_l⟩⟩ : WaitV)), v9⟩, copiesP ⟨Zaf, Zx, Q1, wtl (insL Zg kk (⟨Zbr, Zv, Zao, ⟨da1, da2, da3, da4⟩, v9, ⟨t_a, t_c, t_l⟩⟩ : WaitV)), v9⟩ Zbr v9 t_l) := req_more (s := ServerV.pl ⟨Zaf, Zx, ⟨Zr, Zq, Zh⟩, ⟨Zp, Zo, Zg⟩, Zw⟩) (l := l_l) (r := r) (p := ParcelV.pl ⟨Zbx, Zbm, Zbr, ⟨Zv, Zao, Zap, Zy, Zbc⟩, ⟨Zab, Zt, Zae, Zad⟩, Zbd, ⟨Zs, Zai, Zah, ⟨Zn, Zm, Zk⟩⟩⟩) (by show (l_l.getD (ownerI l_l Zbr) ⟨0, 0⟩).addr = Zaf; rw [hog, List.getD_eq_getElem?_getD, List.getElem?_eq_getElem ho9]; show l_l[o9].addr = Zaf; first | assumption | omega) (hf5 hbi9) hkind (show (doC (findP (pls Zh) Zbr).1 (⟨Zv, Zao, Zap, Zy, Zbc⟩ : OpV)) = _ from hD) hQ hqe ht hdn hv9 hwi
        refine ⟨_, M3, (bw, rowO (WorkerV.segs ⟨⟨Zaf, Zx, ⟨u_a, u_c, u_l⟩, ⟨ad7, cp7, insL Zg kk (⟨Zbr, Zv, Zao, ⟨da1, da2, da3, da4⟩, v9, ⟨t_a, t_c, t_l⟩⟩ : WaitV)⟩, v9⟩, ⟨l_a, l_c, l_l⟩, r, ⟨o2_a, o2_c, o2_l⟩⟩) 67) :: (ho2 ++ hs7), rfl, (hm1.trans (hm2.trans hm3)), ?_, rfl, ⟨⟨Zaf, Zx, ⟨u_a, u_c, u_l⟩, ⟨ad7, cp7, insL Zg kk (⟨Zbr, Zv, Zao, ⟨da1, da2, da3, da4⟩, v9, ⟨t_a, t_c, t_l⟩⟩ : WaitV)⟩, v9⟩, ⟨o2_a, o2_c, o2_l⟩, ho2, hs7, rfl, hO2, ho7, (by rw [hreq]; show Srv.mk _ _ (pls u_l) _ _ = Srv.mk _ _ Q1 _ _; rw [hu]), (by rw [hreq, ← hu]; exact hcp.1), (k_u.mono hm3), (fun h hh => (l_u h hh).mono hm3), (fun h hh => by rcases insL_mem hh with rfl | hh; exact ⟨k_t⟩; exact (okw h hh).mono (hm1.trans (hm2.trans hm3))), hcp.2⟩⟩
        ·simp only [WorkerV.segs, Sl.val] at hw ⊢
         exact hw.c
    ·replace hc7 := nF hc7
     iterate 5 refine Zz ?_
     refine Zl ?_; refine Ze ?_; refine Zen ?_; refine Zc ?_; refine Y_pk [93, 13, 12, 8, 5, 4, 0] ?_; refine Zeu rfl ?_; refine Zax ?_; refine Zc ?_; refine Y_pk [13, 12, 8, 5, 4, 0] ?_; refine Zj ?_
     have hkind : Zap = 1 := by omega
     have hdb : db = false := by
      have h9 := doC_get (c := (findP (pls Zh) Zbr).1) (o := (⟨Zv, Zao, Zap, Zy, Zbc⟩ : OpV)) (findP_ok hsv.2.2.2 Zbr) hop hkind
      rw [hD] at h9
      exact congrArg (fun x : Cel × AnswerV × Bool × Int => x.2.2.1) h9
     subst hdb
     refine Zdg (l := [0, 1, 2, 3]) [2] rfl ?_; refine Zf ?_; refine Zi F.lay29 ?_; refine Zgm rfl rfl rfl F.ok58 rfl (others_ok9 M1 bw Zaf Zx Zw r Zr Zp l_a none Zq Zo l_c 0 Zh Zg l_l [] (k_l.mono hm1) hci hr Zbr) (by repeat first | exact Rem.here _ | exact Rem.two | apply Rem.skip | apply Rem.over) (Zbq rfl) ?_
     rintro _ M3 hs3 hm3 ⟨rfl, ⟨t_a, t_c, t_l⟩, rfl, ht, k_t⟩
     simp only at ht
     have htl : t_l.length ≤ 1000 := by rw [ht]; exact upto_len
     replace ht : Hid (t_l = othersR l_l r Zbr) := ht
     simp only [List.append_assoc, List.cons_append, List.nil_append]
     refine Zd ?_; refine Ze ?_; refine Zen ?_; refine Zc ?_; refine Y_pk [15, 13, 12, 8, 5, 4, 0] ?_
     iterate 2 refine Zj ?_
     refine Za (l := [0, 1, 2, 3, 4, 5, 6]) rfl ?_; refine Zf ?_; refine Zel ?_; refine Zf ?_
     refine Zag 99 rfl (fun hc14 => ?_) (fun hc14 => ?_)
     ·skip
      iterate 3 refine Zz ?_
      refine Zl ?_; refine Ze ?_; refine Zc ?_; refine Y_pk [103, 15, 12, 8, 5, 4, 0] ?_; refine Zcy rfl ?_; refine Zj ?_; refine Zdg (l := [0, 1, 2, 3, 4, 5, 6]) [6] rfl ?_; refine Zf ?_; refine Zb F.foff31_0 ?_; refine Zi F.lay3 ?_; refine Zb F.foff31_1 ?_; refine Zi F.lay22 ?_; refine Zi F.lay34 ?_; refine Zgm rfl rfl rfl F.ok54 rfl (reply_ok M3 bw Zaf Zx Zw r Zr Zp l_a none Zq Zo l_c 0 Zh Zg l_l [] [] OSl.nil (by show 0 ≤ 90000; omega) Zv Zao ⟨da1, da2, da3, da4⟩ hcl) (by repeat first | exact Rem.here _ | exact Rem.two | apply Rem.skip | apply Rem.over) (Zbq rfl) ?_
      rintro _ MX hsX hmX ⟨hMX, rfl, ⟨o2_a, o2_c, o2_l⟩, ho2, rfl, hO2, ho2l⟩
      subst MX
      clear hmX
      simp only at ho2l hO2
      rw [List.nil_append] at ho2l
      simp only [List.append_assoc, List.cons_append, List.nil_append]
      refine Ze ?_; refine Zen ?_; refine Zc ?_; refine Y_pk [15, 12, 8, 5, 4, 0] ?_; refine Zak ?_; refine Zba ?_
      refine Zaj (.inr rfl) (.nil) (fun w hw => ?_)
      have hreq : requestR (ServerV.pl ⟨Zaf, Zx, ⟨Zr, Zq, Zh⟩, ⟨Zp, Zo, Zg⟩, Zw⟩) l_l r (ParcelV.pl ⟨Zbx, Zbm, Zbr, ⟨Zv, Zao, Zap, Zy, Zbc⟩, ⟨Zab, Zt, Zae, Zad⟩, Zbd, ⟨Zs, Zai, Zah, ⟨Zn, Zm, Zk⟩⟩⟩) = ((ServerV.pl ⟨Zaf, Zx, ⟨Zr, Zq, Zh⟩, ⟨Zp, Zo, Zg⟩, Zw⟩), [replyR (ServerV.pl ⟨Zaf, Zx, ⟨Zr, Zq, Zh⟩, ⟨Zp, Zo, Zg⟩, Zw⟩) Zv Zao ⟨da1, da2, da3, da4⟩]) := req_get (s := ServerV.pl ⟨Zaf, Zx, ⟨Zr, Zq, Zh⟩, ⟨Zp, Zo, Zg⟩, Zw⟩) (l := l_l) (r := r) (p := ParcelV.pl ⟨Zbx, Zbm, Zbr, ⟨Zv, Zao, Zap, Zy, Zbc⟩, ⟨Zab, Zt, Zae, Zad⟩, Zbd, ⟨Zs, Zai, Zah, ⟨Zn, Zm, Zk⟩⟩⟩) (by show (l_l.getD (ownerI l_l Zbr) ⟨0, 0⟩).addr = Zaf; rw [hog, List.getD_eq_getElem?_getD, List.getElem?_eq_getElem ho9]; show l_l[o9].addr = Zaf; first | assumption | omega) (hf5 hbi9) hkind (show (doC (findP (pls Zh) Zbr).1 (⟨Zv, Zao, Zap, Zy, Zbc⟩ : OpV)) = _ from hD)
      refine ⟨_, M3, (bw, rowO (WorkerV.segs ⟨⟨Zaf, Zx, ⟨Zr, Zq, Zh⟩, ⟨Zp, Zo, Zg⟩, Zw⟩, ⟨l_a, l_c, l_l⟩, r, ⟨o2_a, o2_c, o2_l⟩⟩) 67) :: (ho2 ++ hw0), rfl, (hm1.trans hm3), ?_, rfl, ⟨⟨Zaf, Zx, ⟨Zr, Zq, Zh⟩, ⟨Zp, Zo, Zg⟩, Zw⟩, ⟨o2_a, o2_c, o2_l⟩, ho2, hw0, rfl, hO2, hW, (by rw [hreq]), (by rw [ho2l, hreq]; rfl), (k_st.mono (hm1.trans hm3)), (fun h hh => (hsto h hh).mono (hm1.trans hm3)), (fun h hh => (okw h hh).mono (hm1.trans hm3)), (fun y hy => by rw [ho2l] at hy; obtain rfl := List.mem_singleton.1 hy; exact ⟨⟨CellV.zero_ok _⟩⟩)⟩⟩
      ·simp only [WorkerV.segs, Sl.val] at hw ⊢
       exact hw.c
     ·skip
      (exfalso; simp [eqX] at hc14; done)
end Go.Proofs.YtpkeilhilpogiaaGreat
namespace Go.Proofs.YtpkeilhilpogiaaGreat
open Go.Esp
theorem F.ok60 : okFn Tryz.prog 60 = true := by kernel_rfl
theorem F.ok62 : okFn Tryz.prog 62 = true := by kernel_rfl
theorem F.ok63 : okFn Tryz.prog 63 = true := by kernel_rfl
theorem copy_ok9 (M : Mem) (bw : Nat) (Zaf Zx Zw r : Int) (Zr Zp l_a : Option Addr) (Zq Zo l_c : Nat) (Zh : List HeldV) (Zg : List WaitV) (l_l : List PeerV) (hw0 : Hp) (hW : OSl 54 28 (.slice Zp Zg.length Zo) hw0 (Zg.map WaitV.segs)) (hLw : Zg.length ≤ 1000) (okw : ∀ x ∈ Zg, WaitV.ok M x) (k_st : SlK M HeldV.segs 24 ⟨Zr, Zq, Zh⟩) (hsto : ∀ y ∈ Zh, HeldV.ok M y) (frm : Int) (p : ParcelV) (okp : CellV.ok M p.cell) : Fh Tryz.prog 26 [.pointer (some ⟨bw, 0, none⟩), .int .i64 frm, p.enc] M ((bw, rowO (WorkerV.segs ⟨⟨Zaf, Zx, ⟨Zr, Zq, Zh⟩, ⟨Zp, Zo, Zg⟩, Zw⟩, ⟨l_a, l_c, l_l⟩, r, ⟨none, 0, []⟩⟩) 67) :: hw0) (fun M' v Hout => v = .tuple #[] ∧ WkE bw 67 51 54 ⟨l_a, l_c, l_l⟩ r M' Hout (copyR (ServerV.pl ⟨Zaf, Zx, ⟨Zr, Zq, Zh⟩, ⟨Zp, Zo, Zg⟩, Zw⟩) frm p.pl)) := by
  obtain ⟨Zbx, Zbm, Zbr, ⟨Zv, Zao, Zap, Zy, Zbc⟩, ⟨Zab, Zt, Zae, Zad⟩, Zbd, ⟨Zs, Zai, Zah, ⟨Zn, Zm, Zk⟩⟩⟩ := p
  simp only at okp
  show Fh _ _ _ _ _ (fun M' v Hout => v = .tuple #[] ∧ WkE bw 67 51 54 ⟨l_a, l_c, l_l⟩ r M' Hout (copyR (ServerV.pl ⟨Zaf, Zx, ⟨Zr, Zq, Zh⟩, ⟨Zp, Zo, Zg⟩, Zw⟩) frm (ParcelV.pl ⟨Zbx, Zbm, Zbr, ⟨Zv, Zao, Zap, Zy, Zbc⟩, ⟨Zab, Zt, Zae, Zad⟩, Zbd, ⟨Zs, Zai, Zah, ⟨Zn, Zm, Zk⟩⟩⟩)))
  refine Zex (fun H => (bw, rowO (WorkerV.segs ⟨⟨Zaf, Zx, ⟨Zr, Zq, Zh⟩, ⟨Zp, Zo, Zg⟩, Zw⟩, ⟨l_a, l_c, l_l⟩, r, ⟨none, 0, []⟩⟩) 67) :: (hw0 ++ H)) (fun _ => by simp only [List.append_assoc, List.cons_append, List.nil_append]) Tryz.func26 rfl Tryz.ntmps26 rfl ?_; intro H
  refine Zj ?_; refine Za (l := [0]) rfl ?_
  refine Zcz ?_; intro b1
  refine Ze ?_; refine Zc ?_; refine Y_pk [5, 0, 1] ?_; refine Zj ?_; refine Za (l := [0, 1, 2, 3]) rfl ?_; refine Zb F.foff39_6 ?_; refine Zi F.lay37 ?_
  refine Zby F.zero37 ?_; intro b2
  refine Zas F.lay37 ?_; refine Ze ?_; refine Zc ?_; refine Y_pk [6, 5, 0, 1] ?_
  iterate 2 refine Zj ?_
  refine Zar (l := [0, 1, 2, 3, 4, 5, 6, 7, 8, 9, 10, 11, 12, 13]) #[0, 1, 3, 7, 15, 0, 32, 127, 255, 511, 511, 0, 3071, 8191] _ rfl (by kernel_rfl) (by kernel_rfl) St.drawn (fun _ h => h) ?_; refine Zf ?_; refine Zco ?_; refine Zb F.foff67_0 ?_; refine Zb F.foff26_2 ?_; refine Zi F.lay23 ?_; refine Zb F.foff39_2 ?_; refine Zi F.lay29 ?_; refine X_fs rfl rfl F.ok19 rfl (Find_ok _ ⟨Zr, Zq, Zh⟩ Zbr k_st hsto) rfl ?_
  rintro _ hv
  obtain ⟨⟨xc, xb⟩, hx⟩ : ∃ r, findX Zh Zbr = r := ⟨_, rfl⟩
  replace hv : _ = findXv (findX Zh Zbr) := hv
  rw [hx] at hv
  subst hv
  have hfs := findX_S hx
  have okx : CellV.ok M xc := by have h9 := findX_ok hsto Zbr; rw [hx] at h9; exact h9
  obtain ⟨x_v, x_h, x_s, ⟨x_a, x_c, x_l⟩⟩ := xc
  refine Zf ?_
  iterate 2 refine Zcf ?_
  refine Zby F.zero37 ?_; intro b3
  refine Zas F.lay37 ?_; refine Zd ?_; refine Ze ?_; refine Zc ?_; refine Y_pk [8, 7, 6, 5, 0, 1] ?_; refine Zj ?_; refine Za (l := [0]) rfl ?_; refine Zf ?_; refine Ze ?_; refine Zc ?_; refine Y_pk [22, 7, 6, 5, 0, 1] ?_
  refine Zau rfl (fun hc4 => ?_) (fun hc4 => ?_)
  ·skip
   simp only [AnswerV.eta, MarkV.eta, CellV.eta, HeldV.eta, WaitV.eta, ServerV.eta, PeerV.eta, OpV.eta, ParcelV.eta, PostV.eta, WorkerV.eta] at hc4
   refine Za (l := [0, 1, 2, 3, 4, 5, 6]) rfl ?_
   iterate 2 refine Zi F.lay37 ?_
   refine X_fn rfl rfl F.ok60 rfl (Merge_ok _ ⟨x_v, x_h, x_s, ⟨x_a, x_c, x_l⟩⟩ ⟨Zs, Zai, Zah, ⟨Zn, Zm, Zk⟩⟩ okx okp) rfl ?_
   rintro _ M1 hm1 ⟨⟨y_v, y_h, y_s, ⟨y_a, y_c, y_l⟩⟩, rfl, hy, oky⟩
   refine Zf ?_
   iterate 2 refine Zcf ?_
   refine Zas F.lay37 ?_; refine Ze ?_; refine Zc ?_; refine Y_pk [6, 5, 0, 1] ?_; refine Zj ?_; refine Zdg (l := [0, 1, 2, 3, 4]) [4] rfl ?_; refine Zf ?_; refine Zb F.foff39_2 ?_; refine Zi F.lay29 ?_; refine Zi F.lay37 ?_; refine Zgm rfl rfl rfl F.ok57 rfl (put_ok9 M1 bw Zaf Zx Zw r Zr Zp l_a none Zq Zo l_c 0 Zh Zg l_l [] (k_st.mono hm1) (fun h hh => (hsto h hh).mono hm1) Zbr ⟨y_v, y_h, y_s, ⟨y_a, y_c, y_l⟩⟩ oky) (by repeat first | exact Rem.here _ | exact Rem.two | apply Rem.skip | apply Rem.over) (Zbq rfl) ?_
   rintro _ M2 hs2 hm2 ⟨⟨u_a, u_c, u_l⟩, rfl, rfl, k_u, l_u, hu⟩
   obtain ⟨⟨Q1, qe⟩, hQ⟩ : ∃ x, putR (pls Zh) Zbr (CellV.pl ⟨y_v, y_h, y_s, ⟨y_a, y_c, y_l⟩⟩) = x := ⟨_, rfl⟩
   rw [hQ] at hu ⊢
   simp only at hu l_u ⊢
   simp only [List.append_assoc, List.cons_append, List.nil_append]
   refine Ze ?_; refine Zen ?_; refine Zc ?_; refine Y_pk [33, 5, 0, 1] ?_
   refine Zau rfl (fun hc5 => ?_) (fun hc5 => ?_)
   ·replace hc5 := dT hc5
    refine Zdg (l := [0, 1, 2, 3, 4, 5]) [5] rfl ?_
    iterate 2 refine Zf ?_
    refine Zb F.foff39_5 ?_; refine Zi F.lay22 ?_; refine Zbv rfl rfl F.bld39 (.cons rfl (by constructor) (.cons rfl (by constructor) .nil)) rfl rfl ?_; refine Zgm rfl rfl rfl F.ok61 rfl (send_ok M2 bw Zaf Zx Zw r u_a Zp l_a none u_c Zo l_c 0 u_l Zg l_l [] [] OSl.nil (by show 0 ≤ 100000; omega) frm ⟨4, 0, 0, OpV.zero, AnswerV.zero, Zbd, CellV.zero⟩) (by repeat first | exact Rem.here _ | exact Rem.two | apply Rem.skip | apply Rem.over) (Zbq rfl) ?_
    rintro _ MX hsX hmX ⟨hMX, rfl, ⟨o2_a, o2_c, o2_l⟩, ho2, rfl, hO2, ho2l⟩
    subst MX
    clear hmX
    simp only at ho2l hO2
    rw [List.nil_append] at ho2l
    simp only [List.append_assoc, List.cons_append, List.nil_append]
    refine Ze ?_; refine Zen ?_
    refine Zaj (.inl rfl) (.nil) (fun w hw => ?_)
    have hxb : xb = true := by first | assumption | (simp_all; done)
    subst hxb
    replace hfs := hfs.trans (if_pos rfl)
    have hcm : copyM (ServerV.pl ⟨Zaf, Zx, ⟨Zr, Zq, Zh⟩, ⟨Zp, Zo, Zg⟩, Zw⟩) (ParcelV.pl ⟨Zbx, Zbm, Zbr, ⟨Zv, Zao, Zap, Zy, Zbc⟩, ⟨Zab, Zt, Zae, Zad⟩, Zbd, ⟨Zs, Zai, Zah, ⟨Zn, Zm, Zk⟩⟩⟩) = CellV.pl ⟨y_v, y_h, y_s, ⟨y_a, y_c, y_l⟩⟩ := (copyM_some (s := ServerV.pl ⟨Zaf, Zx, ⟨Zr, Zq, Zh⟩, ⟨Zp, Zo, Zg⟩, Zw⟩) (p := ParcelV.pl ⟨Zbx, Zbm, Zbr, ⟨Zv, Zao, Zap, Zy, Zbc⟩, ⟨Zab, Zt, Zae, Zad⟩, Zbd, ⟨Zs, Zai, Zah, ⟨Zn, Zm, Zk⟩⟩⟩) hfs).trans hy.symm
    have hqe : qe = 0 := by first | assumption | (simp_all; done)
    rw [if_pos hqe] at hu
    have hcy := copyR_yes (s := ServerV.pl ⟨Zaf, Zx, ⟨Zr, Zq, Zh⟩, ⟨Zp, Zo, Zg⟩, Zw⟩) (f := frm) (p := ParcelV.pl ⟨Zbx, Zbm, Zbr, ⟨Zv, Zao, Zap, Zy, Zbc⟩, ⟨Zab, Zt, Zae, Zad⟩, Zbd, ⟨Zs, Zai, Zah, ⟨Zn, Zm, Zk⟩⟩⟩) hcm hQ hqe
    refine ⟨_, M2, (bw, rowO (WorkerV.segs ⟨⟨Zaf, Zx, ⟨u_a, u_c, u_l⟩, ⟨Zp, Zo, Zg⟩, Zw⟩, ⟨l_a, l_c, l_l⟩, r, ⟨o2_a, o2_c, o2_l⟩⟩) 67) :: (ho2 ++ hw0), rfl, (hm1.trans hm2), ?_, rfl, ⟨⟨Zaf, Zx, ⟨u_a, u_c, u_l⟩, ⟨Zp, Zo, Zg⟩, Zw⟩, ⟨o2_a, o2_c, o2_l⟩, ho2, hw0, rfl, hO2, hW, (by rw [hcy]; show Srv.mk _ _ (pls u_l) _ _ = Srv.mk _ _ Q1 _ _; rw [hu] <;> rfl), (by rw [hcy, ho2l]; rfl), k_u, l_u, (fun h hh => (okw h hh).mono (hm1.trans hm2)), (fun y hy => by rw [ho2l] at hy; obtain rfl := List.mem_singleton.1 hy; exact ⟨⟨CellV.zero_ok _⟩⟩)⟩⟩
    ·simp only [WorkerV.segs, Sl.val] at hw ⊢
     exact hw.c
   ·replace hc5 := dF hc5
    refine Zax ?_
    refine Zaj (.inl rfl) (.nil) (fun w hw => ?_)
    have hxb : xb = true := by first | assumption | (simp_all; done)
    subst hxb
    replace hfs := hfs.trans (if_pos rfl)
    have hcm : copyM (ServerV.pl ⟨Zaf, Zx, ⟨Zr, Zq, Zh⟩, ⟨Zp, Zo, Zg⟩, Zw⟩) (ParcelV.pl ⟨Zbx, Zbm, Zbr, ⟨Zv, Zao, Zap, Zy, Zbc⟩, ⟨Zab, Zt, Zae, Zad⟩, Zbd, ⟨Zs, Zai, Zah, ⟨Zn, Zm, Zk⟩⟩⟩) = CellV.pl ⟨y_v, y_h, y_s, ⟨y_a, y_c, y_l⟩⟩ := (copyM_some (s := ServerV.pl ⟨Zaf, Zx, ⟨Zr, Zq, Zh⟩, ⟨Zp, Zo, Zg⟩, Zw⟩) (p := ParcelV.pl ⟨Zbx, Zbm, Zbr, ⟨Zv, Zao, Zap, Zy, Zbc⟩, ⟨Zab, Zt, Zae, Zad⟩, Zbd, ⟨Zs, Zai, Zah, ⟨Zn, Zm, Zk⟩⟩⟩) hfs).trans hy.symm
    have hqe : ¬ qe = 0 := by first | assumption | (simp_all; done)
    rw [if_neg hqe] at hu
    have hcy := copyR_no (s := ServerV.pl ⟨Zaf, Zx, ⟨Zr, Zq, Zh⟩, ⟨Zp, Zo, Zg⟩, Zw⟩) (f := frm) (p := ParcelV.pl ⟨Zbx, Zbm, Zbr, ⟨Zv, Zao, Zap, Zy, Zbc⟩, ⟨Zab, Zt, Zae, Zad⟩, Zbd, ⟨Zs, Zai, Zah, ⟨Zn, Zm, Zk⟩⟩⟩) hcm hQ hqe
    refine ⟨_, M2, (bw, rowO (WorkerV.segs ⟨⟨Zaf, Zx, ⟨u_a, u_c, u_l⟩, ⟨Zp, Zo, Zg⟩, Zw⟩, ⟨l_a, l_c, l_l⟩, r, ⟨none, 0, []⟩⟩) 67) :: ([] ++ hw0), rfl, (hm1.trans hm2), ?_, rfl, ⟨⟨Zaf, Zx, ⟨u_a, u_c, u_l⟩, ⟨Zp, Zo, Zg⟩, Zw⟩, ⟨none, 0, []⟩, [], hw0, rfl, OSl.nil, hW, (by rw [hcy]; show Srv.mk _ _ (pls u_l) _ _ = Srv.mk _ _ (pls Zh) _ _; rw [hu] <;> rfl), (by rw [hcy]; rfl), k_u, l_u, (fun h hh => (okw h hh).mono (hm1.trans hm2)), (fun y hy => by cases hy)⟩⟩
    ·simp only [WorkerV.segs, Sl.val] at hw ⊢
     exact hw.c
  ·skip
   simp only [AnswerV.eta, MarkV.eta, CellV.eta, HeldV.eta, WaitV.eta, ServerV.eta, PeerV.eta, OpV.eta, ParcelV.eta, PostV.eta, WorkerV.eta] at hc4
   refine Zax ?_; refine Zc ?_; refine Y_pk [6, 5, 0, 1] ?_; refine Zj ?_; refine Zdg (l := [0, 1, 2, 3, 4]) [4] rfl ?_; refine Zf ?_; refine Zb F.foff39_2 ?_; refine Zi F.lay29 ?_; refine Zi F.lay37 ?_; refine Zgm rfl rfl rfl F.ok57 rfl (put_ok9 M bw Zaf Zx Zw r Zr Zp l_a none Zq Zo l_c 0 Zh Zg l_l [] k_st hsto Zbr ⟨Zs, Zai, Zah, ⟨Zn, Zm, Zk⟩⟩ okp) (by repeat first | exact Rem.here _ | exact Rem.two | apply Rem.skip | apply Rem.over) (Zbq rfl) ?_
   rintro _ M2 hs2 hm2 ⟨⟨u_a, u_c, u_l⟩, rfl, rfl, k_u, l_u, hu⟩
   obtain ⟨⟨Q1, qe⟩, hQ⟩ : ∃ x, putR (pls Zh) Zbr (CellV.pl ⟨Zs, Zai, Zah, ⟨Zn, Zm, Zk⟩⟩) = x := ⟨_, rfl⟩
   rw [hQ] at hu ⊢
   simp only at hu l_u ⊢
   simp only [List.append_assoc, List.cons_append, List.nil_append]
   refine Ze ?_; refine Zen ?_; refine Zc ?_; refine Y_pk [33, 5, 0, 1] ?_
   refine Zau rfl (fun hc6 => ?_) (fun hc6 => ?_)
   ·replace hc6 := dT hc6
    refine Zdg (l := [0, 1, 2, 3, 4, 5]) [5] rfl ?_
    iterate 2 refine Zf ?_
    refine Zb F.foff39_5 ?_; refine Zi F.lay22 ?_; refine Zbv rfl rfl F.bld39 (.cons rfl (by constructor) (.cons rfl (by constructor) .nil)) rfl rfl ?_; refine Zgm rfl rfl rfl F.ok61 rfl (send_ok M2 bw Zaf Zx Zw r u_a Zp l_a none u_c Zo l_c 0 u_l Zg l_l [] [] OSl.nil (by show 0 ≤ 100000; omega) frm ⟨4, 0, 0, OpV.zero, AnswerV.zero, Zbd, CellV.zero⟩) (by repeat first | exact Rem.here _ | exact Rem.two | apply Rem.skip | apply Rem.over) (Zbq rfl) ?_
    rintro _ MX hsX hmX ⟨hMX, rfl, ⟨o2_a, o2_c, o2_l⟩, ho2, rfl, hO2, ho2l⟩
    subst MX
    clear hmX
    simp only at ho2l hO2
    rw [List.nil_append] at ho2l
    simp only [List.append_assoc, List.cons_append, List.nil_append]
    refine Ze ?_; refine Zen ?_
    refine Zaj (.inl rfl) (.nil) (fun w hw => ?_)
    have hxb : xb = false := by first | assumption | (simp_all; done)
    subst hxb
    replace hfs := hfs.trans (if_neg (fun e => by cases e))
    have hcm : copyM (ServerV.pl ⟨Zaf, Zx, ⟨Zr, Zq, Zh⟩, ⟨Zp, Zo, Zg⟩, Zw⟩) (ParcelV.pl ⟨Zbx, Zbm, Zbr, ⟨Zv, Zao, Zap, Zy, Zbc⟩, ⟨Zab, Zt, Zae, Zad⟩, Zbd, ⟨Zs, Zai, Zah, ⟨Zn, Zm, Zk⟩⟩⟩) = CellV.pl ⟨Zs, Zai, Zah, ⟨Zn, Zm, Zk⟩⟩ := copyM_none (s := ServerV.pl ⟨Zaf, Zx, ⟨Zr, Zq, Zh⟩, ⟨Zp, Zo, Zg⟩, Zw⟩) (p := ParcelV.pl ⟨Zbx, Zbm, Zbr, ⟨Zv, Zao, Zap, Zy, Zbc⟩, ⟨Zab, Zt, Zae, Zad⟩, Zbd, ⟨Zs, Zai, Zah, ⟨Zn, Zm, Zk⟩⟩⟩) hfs
    have hqe : qe = 0 := by first | assumption | (simp_all; done)
    rw [if_pos hqe] at hu
    have hcy := copyR_yes (s := ServerV.pl ⟨Zaf, Zx, ⟨Zr, Zq, Zh⟩, ⟨Zp, Zo, Zg⟩, Zw⟩) (f := frm) (p := ParcelV.pl ⟨Zbx, Zbm, Zbr, ⟨Zv, Zao, Zap, Zy, Zbc⟩, ⟨Zab, Zt, Zae, Zad⟩, Zbd, ⟨Zs, Zai, Zah, ⟨Zn, Zm, Zk⟩⟩⟩) hcm hQ hqe
    refine ⟨_, M2, (bw, rowO (WorkerV.segs ⟨⟨Zaf, Zx, ⟨u_a, u_c, u_l⟩, ⟨Zp, Zo, Zg⟩, Zw⟩, ⟨l_a, l_c, l_l⟩, r, ⟨o2_a, o2_c, o2_l⟩⟩) 67) :: (ho2 ++ hw0), rfl, hm2, ?_, rfl, ⟨⟨Zaf, Zx, ⟨u_a, u_c, u_l⟩, ⟨Zp, Zo, Zg⟩, Zw⟩, ⟨o2_a, o2_c, o2_l⟩, ho2, hw0, rfl, hO2, hW, (by rw [hcy]; show Srv.mk _ _ (pls u_l) _ _ = Srv.mk _ _ Q1 _ _; rw [hu] <;> rfl), (by rw [hcy, ho2l]; rfl), k_u, l_u, (fun h hh => (okw h hh).mono hm2), (fun y hy => by rw [ho2l] at hy; obtain rfl := List.mem_singleton.1 hy; exact ⟨⟨CellV.zero_ok _⟩⟩)⟩⟩
    ·simp only [WorkerV.segs, Sl.val] at hw ⊢
     exact hw.c
   ·replace hc6 := dF hc6
    refine Zax ?_
    refine Zaj (.inl rfl) (.nil) (fun w hw => ?_)
    have hxb : xb = false := by first | assumption | (simp_all; done)
    subst hxb
    replace hfs := hfs.trans (if_neg (fun e => by cases e))
    have hcm : copyM (ServerV.pl ⟨Zaf, Zx, ⟨Zr, Zq, Zh⟩, ⟨Zp, Zo, Zg⟩, Zw⟩) (ParcelV.pl ⟨Zbx, Zbm, Zbr, ⟨Zv, Zao, Zap, Zy, Zbc⟩, ⟨Zab, Zt, Zae, Zad⟩, Zbd, ⟨Zs, Zai, Zah, ⟨Zn, Zm, Zk⟩⟩⟩) = CellV.pl ⟨Zs, Zai, Zah, ⟨Zn, Zm, Zk⟩⟩ := copyM_none (s := ServerV.pl ⟨Zaf, Zx, ⟨Zr, Zq, Zh⟩, ⟨Zp, Zo, Zg⟩, Zw⟩) (p := ParcelV.pl ⟨Zbx, Zbm, Zbr, ⟨Zv, Zao, Zap, Zy, Zbc⟩, ⟨Zab, Zt, Zae, Zad⟩, Zbd, ⟨Zs, Zai, Zah, ⟨Zn, Zm, Zk⟩⟩⟩) hfs
    have hqe : ¬ qe = 0 := by first | assumption | (simp_all; done)
    rw [if_neg hqe] at hu
    have hcy := copyR_no (s := ServerV.pl ⟨Zaf, Zx, ⟨Zr, Zq, Zh⟩, ⟨Zp, Zo, Zg⟩, Zw⟩) (f := frm) (p := ParcelV.pl ⟨Zbx, Zbm, Zbr, ⟨Zv, Zao, Zap, Zy, Zbc⟩, ⟨Zab, Zt, Zae, Zad⟩, Zbd, ⟨Zs, Zai, Zah, ⟨Zn, Zm, Zk⟩⟩⟩) hcm hQ hqe
    refine ⟨_, M2, (bw, rowO (WorkerV.segs ⟨⟨Zaf, Zx, ⟨u_a, u_c, u_l⟩, ⟨Zp, Zo, Zg⟩, Zw⟩, ⟨l_a, l_c, l_l⟩, r, ⟨none, 0, []⟩⟩) 67) :: ([] ++ hw0), rfl, hm2, ?_, rfl, ⟨⟨Zaf, Zx, ⟨u_a, u_c, u_l⟩, ⟨Zp, Zo, Zg⟩, Zw⟩, ⟨none, 0, []⟩, [], hw0, rfl, OSl.nil, hW, (by rw [hcy]; show Srv.mk _ _ (pls u_l) _ _ = Srv.mk _ _ (pls Zh) _ _; rw [hu] <;> rfl), (by rw [hcy]; rfl), k_u, l_u, (fun h hh => (okw h hh).mono hm2), (fun y hy => by cases hy)⟩⟩
    ·simp only [WorkerV.segs, Sl.val] at hw ⊢
     exact hw.c
theorem copied_ok9 (M : Mem) (bw : Nat) (Zaf Zx Zw r : Int) (Zr Zp l_a : Option Addr) (Zq Zo l_c : Nat) (Zh : List HeldV) (Zg : List WaitV) (l_l : List PeerV) (hw0 : Hp) (hW : OSl 54 28 (.slice Zp Zg.length Zo) hw0 (Zg.map WaitV.segs)) (hLw : Zg.length ≤ 1000) (okw : ∀ x ∈ Zg, WaitV.ok M x) (k_st : SlK M HeldV.segs 24 ⟨Zr, Zq, Zh⟩) (hsto : ∀ y ∈ Zh, HeldV.ok M y) (hsv : IsSrv (ServerV.pl ⟨Zaf, Zx, ⟨Zr, Zq, Zh⟩, ⟨Zp, Zo, Zg⟩, Zw⟩)) (frm serial : Int) : Fh Tryz.prog 27 [.pointer (some ⟨bw, 0, none⟩), .int .i64 frm, .int .u64 serial] M ((bw, rowO (WorkerV.segs ⟨⟨Zaf, Zx, ⟨Zr, Zq, Zh⟩, ⟨Zp, Zo, Zg⟩, Zw⟩, ⟨l_a, l_c, l_l⟩, r, ⟨none, 0, []⟩⟩) 67) :: hw0) (fun M' v Hout => v = .tuple #[] ∧ WkE bw 67 51 54 ⟨l_a, l_c, l_l⟩ r M' Hout (copiedR (ServerV.pl ⟨Zaf, Zx, ⟨Zr, Zq, Zh⟩, ⟨Zp, Zo, Zg⟩, Zw⟩) frm serial)) := by
  refine Zex (fun H => (bw, rowO (WorkerV.segs ⟨⟨Zaf, Zx, ⟨Zr, Zq, Zh⟩, ⟨Zp, Zo, Zg⟩, Zw⟩, ⟨l_a, l_c, l_l⟩, r, ⟨none, 0, []⟩⟩) 67) :: (hw0 ++ H)) (fun _ => by simp only [List.append_assoc, List.cons_append, List.nil_append]) Tryz.func27 rfl Tryz.ntmps27 rfl ?_; intro H
  refine Zj ?_; refine Za (l := [0, 1, 2]) rfl ?_
  refine Zcz ?_; intro b1
  refine Zcz ?_; intro b2
  refine Zcz ?_; intro b3
  refine Ze ?_; refine Zc ?_; refine Y_pk [5, 4, 3] ?_; refine Zj ?_; refine C_region_anyW (l := [0, 1, 2, 3, 4, 5, 6, 7, 8, 9, 10, 11]) [5] #[0, 0, 2, 6, 14, 30, 0, 126, 255, 511, 1023, 2047] (St M ((b3, rowO [.one (.int .u64 serial)] 22) :: (b1, rowO [.one (.pointer (some ⟨bw, 0, none⟩))] 65) :: (b2, rowO [.one (.int .i64 frm)] 3) :: H)) rfl (by kernel_rfl) (by kernel_rfl) St.drawn (fun _ hw => hw.c) ?_
  iterate 2 refine Zi F.lay65 ?_
  refine Zco ?_; refine Zb F.foff67_0 ?_; refine Zb F.foff26_3 ?_; refine X_loadA rfl rfl rfl rfl (by repeat first | exact List.Mem.head _ | refine List.Mem.tail _ ?_ | refine List.mem_append_right _ ?_) F.lay24 rfl rfl rfl ?_; refine X_makeFunc rfl rfl rfl rfl rfl ?_
  refine X_fhC H rfl rfl F.ok62 rfl (DeleteIW_ok M hw0 ((b3, rowO [.one (.int .u64 serial)] 22) :: (b1, rowO [.one (.pointer (some ⟨bw, 0, none⟩))] 65) :: (b2, rowO [.one (.int .i64 frm)] 3) :: (bw, rowO (WorkerV.segs ⟨⟨Zaf, Zx, ⟨Zr, Zq, Zh⟩, ⟨Zp, Zo, Zg⟩, Zw⟩, ⟨l_a, l_c, l_l⟩, r, ⟨none, 0, []⟩⟩) 67) :: []) Zp Zo Zg hW (by omega) 63 [.pointer (some ⟨b3, 0, none⟩), .pointer (some ⟨b1, 0, none⟩), .pointer (some ⟨b2, 0, none⟩)] (goneW frm serial) (fun j h => ∃ (o9 : Sl PostV) (ho9 : Hp), h = (b3, rowO [.one (.int .u64 serial)] 22) :: (b1, rowO [.one (.pointer (some ⟨bw, 0, none⟩))] 65) :: (b2, rowO [.one (.int .i64 frm)] 3) :: (bw, rowO (WorkerV.segs ⟨⟨Zaf, Zx, ⟨Zr, Zq, Zh⟩, ⟨Zp, Zo, Zg⟩, Zw⟩, ⟨l_a, l_c, l_l⟩, r, o9⟩) 67) :: ho9 ∧ OSl 51 37 o9.val ho9 (o9.l.map PostV.segs) ∧ o9.l = (Zg.take j).filterMap (doneV Zx frm serial)) F.ok63 (fun j hj h hin => by
   obtain ⟨⟨o5_a, o5_c, o5_l⟩, ho5, rfl, hO5, ho5l⟩ := hin
   simp only at ho5l hO5
   have hl5 : o5_l.length ≤ 1000 := by rw [ho5l]; exact Nat.le_trans (List.length_filterMap_le ..) (by simp; omega)
   have hwo : WtOk (WaitV.pl Zg[j]) := hsv.1.1 _ (List.mem_map_of_mem (f := WaitV.pl) (List.getElem_mem hj))
   have hnb : Zg[j].need.l.length ≤ 1000 := by have h9 := hwo.2.1.2; simp only [WaitV.pl] at h9; omega
   exact fh_weak (goneW_ok M bw Zaf Zx Zw r Zr Zp l_a o5_a Zq Zo l_c o5_c Zh Zg l_l o5_l b3 b1 b2 serial ho5 hO5 (by omega) Zg[j] (okw _ (List.getElem_mem hj)).h0 hnb hwo.2.2.1 frm) fun M9 v9 Ho9 ⟨g1, g2, o6, ho6, g3, g4, g5⟩ => ⟨g1, g2, o6, ho6, g3, g4, by rw [g5, ho5l, fm_take hj]⟩) ⟨⟨none, 0, []⟩, [], rfl, OSl.nil, rfl⟩) (by intro zz; first | exact Nat.le_refl _ | (simp only [cnt_app, cnt_cons, cnt_nil, cat, List.append_eq, List.append_assoc, List.cons_append, List.nil_append, List.append_nil]; omega) | (simp only [cnt_app, cnt_cons, cnt_nil, cat, List.append_eq, List.append_assoc, List.cons_append, List.nil_append, List.append_nil, AnswerV.segs, MarkV.segs, CellV.segs, HeldV.segs, WaitV.segs, ServerV.segs, PeerV.segs, OpV.segs, ParcelV.segs, PostV.segs, WorkerV.segs]; omega)) (by rintro v M9 _ w hm ⟨rfl, hs9, h9, rfl, _, o9, ho9, rfl, _⟩ hw; exact hw.c) (Zbq rfl) ?_
  rintro v9 MX _ hmX ⟨hMX, hs9, h9, rfl, ho9, ⟨o2_a, o2_c, o2_l⟩, ho2, rfl, hO2, ho2l⟩
  subst MX
  clear hmX
  simp only at ho2l hO2
  rw [List.take_length] at ho2l
  obtain ⟨L9, hL9⟩ : ∃ L, kept (goneW frm serial) Zg = L := ⟨_, rfl⟩
  rw [hL9] at ho9
  have hL9l : L9.length ≤ 1000 := by rw [← hL9]; exact Nat.le_trans kept_le hLw
  have hL9o : ∀ w ∈ L9, WaitV.ok M w ∧ WtOk w.pl := fun w hw => by rw [← hL9] at hw; have h8 := kept_mem hw; exact ⟨okw w h8, hsv.1.1 _ (List.mem_map_of_mem (f := WaitV.pl) h8)⟩
  obtain ⟨ad9, cp9, rfl⟩ := ho9.valL
  simp only [List.append_assoc, List.cons_append, List.nil_append]
  refine Zco ?_; refine Zb F.foff67_0 ?_; refine Zb F.foff26_3 ?_; refine Zas F.lay24 ?_; refine Ze ?_; refine Zen ?_; refine Zc ?_; refine Y_pk [5, 4, 3] ?_; refine Zj ?_; refine Za (l := [0, 1, 2, 3, 4, 5, 6]) rfl ?_; refine Zi F.lay65 ?_; refine Zco ?_; refine Zb F.foff67_0 ?_; refine Zb F.foff26_3 ?_; refine Zi F.lay24 ?_; refine Zbb F.elem24 ?_; refine Zf ?_; refine Ze ?_; refine Zc ?_; refine Y_pk [25, 24, 23, 5, 4, 3] ?_; refine Zbe ?_; refine Y_pk [25, 24, 23, 5, 4, 3] ?_; refine Zeo (Hin := hs9) (.succ .zero) (by repeat first | exact Rem.here _ | exact Rem.two | apply Rem.skip | apply Rem.over) (fun (k : Nat) M1 h1 z => ∃ W : List WaitV, z = [(25, .int .i64 (k : Int))] ∧ k ≤ L9.length ∧ W.length = L9.length ∧ (∀ w ∈ W, WaitV.ok M1 w) ∧ (wtl W).take k = ((wtl L9).take k).map (less9 frm serial) ∧ W.drop k = L9.drop k ∧ OSl 54 28 (.slice ad9 L9.length cp9) h1 (W.map WaitV.segs)) (fun k => L9.length - k) (0) (⟨L9, rfl, by omega, rfl, (fun w hw => (hL9o w hw).1), by simp, rfl, ho9⟩) ?_
  rintro k M1 h1 z hm1 ⟨W, rfl, hk9, hWl, hWo, hW1, hW2, ho1⟩
  have hnw : (W.map WaitV.segs).length = W.length := List.length_map ..
  have ho1w : OSl 54 28 (.slice ad9 (W.map WaitV.segs).length cp9) h1 (W.map WaitV.segs) := by rw [hnw, hWl]; exact ho1
  refine Zj ?_; refine Za (l := [0]) rfl ?_; refine Zav ?_; refine Ze ?_; refine Zc ?_; refine Zj ?_
  refine Zau rfl (fun hc4 => ?_) (fun hc4 => ?_)
  ·replace hc4 := dT hc4
   refine Zax ?_; refine Zc ?_; refine Zj ?_; refine Zbe ?_; refine Zj ?_; refine Za (l := [0, 1, 2, 3, 4, 5]) rfl ?_; refine Zf ?_; refine Zaa rfl rfl rfl rfl F.elem24 (by rfl) (by omega) (by exact OSl.plain (by assumption) (by (simp; omega))) rfl ?_; refine X_load_osl rfl rfl rfl (by assumption) (by repeat first | exact Rem.here _ | exact Rem.two | apply Rem.skip | apply Rem.over) (by exact Zbl (by omega)) F.lay54 rfl rfl rfl ?_
   have hkl : k < L9.length := by omega
   have hkW : k < W.length := by omega
   have hwd := drop_at hWl hkl hW2
   obtain ⟨⟨Zev, Zbo, Zfh, ⟨Zat, Zaw, Zbn, Zaz⟩, Zcn, ⟨Zcl, Zck, Zac⟩⟩, hwk⟩ : ∃ w, W[k]'hkW = w := ⟨_, rfl⟩
   have hlk := hwd.symm.trans hwk
   refine Zgq 29 rfl (show _ = aggV (WaitV.segs ⟨Zev, Zbo, Zfh, ⟨Zat, Zaw, Zbn, Zaz⟩, Zcn, ⟨Zcl, Zck, Zac⟩⟩) from by rw [← hwk]; rfl) ?_
   have okw9 := hWo _ (List.getElem_mem hkW)
   rw [hwk] at okw9
   have hwo := (hL9o _ (List.getElem_mem hkl)).2
   rw [hlk] at hwo
   have hnl : Zac.length ≤ 1000 := by have h9 := hwo.2.1.2; simp only [WaitV.pl] at h9; omega
   refine Zby F.zero54 ?_; intro b5
   refine Zd ?_; refine Zas F.lay54 ?_; refine Ze ?_; refine Zc ?_; refine Zj ?_; refine Za (l := [0, 1, 2, 3]) rfl ?_; refine Zb F.foff54_4 ?_
   iterate 2 refine Zi F.lay22 ?_
   refine Zav ?_; refine Ze ?_; refine Zc ?_
   refine Zau rfl (fun hc6 => ?_) (fun hc6 => ?_)
   ·replace hc6 := dT hc6
    refine Zar (l := [0, 1, 2, 3, 4, 5, 6, 7, 8, 9, 10, 11, 12]) #[0, 1, 3, 7, 15, 0, 0, 64, 0, 448, 1023, 2047, 4095] _ rfl (by kernel_rfl) (by kernel_rfl) St.drawn (fun _ h => h) ?_; refine Zi F.lay65 ?_; refine Zco ?_; refine Zb F.foff67_0 ?_; refine Zb F.foff26_3 ?_; refine Zi F.lay24 ?_; refine Zf ?_; refine Zb F.foff54_5 ?_; refine Zi F.lay52 ?_; refine Zi F.lay3 ?_; refine Zgy rfl rfl F.ok65 rfl (without_ok M1 Zcl Zck Zac okw9.h0 hnl frm) (by repeat first | exact Rem.here _ | exact Rem.two | apply Rem.skip | apply Rem.over) (fun _ _ _ hm hw => (hw.lower (by exact hm)).c) (Zbq rfl) ?_
    rintro _ MX hsx hmX ⟨hMX, adx, cpx, rfl, hox⟩
    subst MX
    clear hmX
    refine Zaa rfl rfl rfl rfl F.elem24 (by rfl) (by omega) (by exact OSl.plain (by assumption) (by (simp; omega))) rfl ?_; refine Zaq rfl rfl rfl (by exact OSl.plain (by assumption) (by (simp; omega))) F.foff54_5 rfl ?_
    obtain ⟨b9, rfl⟩ := ho1.someB (by omega)
    refine X_storeOF (b := b9) (j := k) (r := WaitV.segs ⟨Zev, Zbo, Zfh, ⟨Zat, Zaw, Zbn, Zaz⟩, Zcn, ⟨Zcl, Zck, Zac⟩⟩) (u := WaitV.segs (⟨Zev, Zbo, Zfh, ⟨Zat, Zaw, Zbn, Zaz⟩, Zcn, ⟨adx, cpx, Zac.filter (notI frm)⟩⟩ : WaitV)) rfl rfl rfl rfl (by constructor) (Zam rfl Zbp) F.lay52 rfl ho1 (by repeat first | exact Rem.here _ | exact Rem.two | apply Rem.skip | apply Rem.over) (by rw [List.getElem?_map, List.getElem?_eq_getElem hkW, hwk]; rfl) rfl ?_; intro hs8 ho8
    rw [hnw, hWl] at ho8
    refine Ze ?_; refine Zde ?_; refine Zc ?_
    refine Zgw hox (by repeat first | exact Rem.here _ | exact Rem.two | apply Rem.skip | apply Rem.over) (fun M3 hm3 k_t => ?_)
    refine Za (l := [0, 1]) rfl ?_; refine Zcc rfl rfl rfl rfl rfl (by exact Zbf (by decide) (by omega)) rfl ?_; refine Zf ?_; refine Ze ?_; refine Zcr (a' := [(25, _)]) (k + 1) (hs8) (.cons (k := 25) rfl (.cons (k := 24) rfl (.cons (k := 23) rfl (.cons (k := 5) rfl (.cons (k := 4) rfl (.cons (k := 3) rfl (.nil))))))) (hm1.trans hm3) (fun w hw => by first | exact hw | exact hw.c) ?_ ?_
    ·obtain ⟨g1, g2, g3⟩ := turnW_step (f := less9 frm serial) hWl hkl hW1 hW2 (x := (⟨Zev, Zbo, Zfh, ⟨Zat, Zaw, Zbn, Zaz⟩, Zcn, ⟨adx, cpx, Zac.filter (notI frm)⟩⟩ : WaitV)) (by rw [hlk]; exact (if_pos (show Zcn = serial by first | assumption | omega)).symm)
     refine ⟨W.set k (⟨Zev, Zbo, Zfh, ⟨Zat, Zaw, Zbn, Zaz⟩, Zcn, ⟨adx, cpx, Zac.filter (notI frm)⟩⟩ : WaitV), rfl, by omega, g1, fun w hw => ?_, g2, g3, ?_⟩
     ·rcases List.mem_or_eq_of_mem_set hw with hw | rfl
      ·exact (hWo w hw).mono hm3
      ·exact ⟨k_t⟩
     ·rw [List.map_set]
      exact ho8
    ·omega
   ·replace hc6 := dF hc6
    refine Zax ?_; refine Zde ?_; refine Zc ?_; refine Za (l := [0, 1]) rfl ?_; refine Zcc rfl rfl rfl rfl rfl (by exact Zbf (by decide) (by omega)) rfl ?_; refine Zf ?_; refine Ze ?_; refine Zcr (a' := [(25, _)]) (k + 1) (h1) (.cons (k := 25) rfl (.cons (k := 24) rfl (.cons (k := 23) rfl (.cons (k := 5) rfl (.cons (k := 4) rfl (.cons (k := 3) rfl (.nil))))))) hm1 (fun w hw => by first | exact hw | exact hw.c) ?_ ?_
    ·obtain ⟨g1, g2⟩ := turnW_stay (f := less9 frm serial) hWl hkl hW1 hW2 (by rw [hlk]; exact (if_neg (show ¬ Zcn = serial by first | assumption | omega)).symm)
     exact ⟨W, rfl, by omega, hWl, hWo, g1, g2, ho1⟩
    ·omega
  ·replace hc4 := dF hc4
   refine Zcm ?_
   iterate 2 refine Zcd ?_
   refine Zdl ?_
   refine Zaj (.inl rfl) (.nil) (fun w hw => ?_)
   obtain rfl : k = L9.length := by omega
   rw [List.take_of_length_le (by rw [Zcs]; omega), List.take_of_length_le (by rw [Zcs]; omega), ← hL9, less_kept] at hW1
   refine ⟨_, M1, (bw, rowO (WorkerV.segs ⟨⟨Zaf, Zx, ⟨Zr, Zq, Zh⟩, ⟨ad9, cp9, W⟩, Zw⟩, ⟨l_a, l_c, l_l⟩, r, ⟨o2_a, o2_c, o2_l⟩⟩) 67) :: (ho2 ++ h1), rfl, hm1, ?_, rfl, ⟨⟨Zaf, Zx, ⟨Zr, Zq, Zh⟩, ⟨ad9, cp9, W⟩, Zw⟩, ⟨o2_a, o2_c, o2_l⟩, ho2, h1, rfl, hO2, (by show OSl 54 28 (.slice ad9 W.length cp9) h1 (W.map WaitV.segs); rw [hWl]; exact ho1), (by show Srv.mk _ _ _ (wtl W) _ = Srv.mk _ _ _ ((wtl Zg).filterMap _) _; rw [hW1]; rfl), (by show pstl o2_l = _; rw [ho2l]; exact doneV_all (s := ServerV.pl ⟨Zaf, Zx, ⟨Zr, Zq, Zh⟩, ⟨Zp, Zo, Zg⟩, Zw⟩)), k_st.mono hm1, (fun h hh => (hsto h hh).mono hm1), hWo, (by show ∀ y ∈ o2_l, _; rw [ho2l]; exact doneV_ok)⟩⟩
   simp only [WorkerV.segs, Sl.val] at hw ⊢
   rw [hWl]
   exact hw.c
end Go.Proofs.YtpkeilhilpogiaaGreat
namespace Go.Proofs.YtpkeilhilpogiaaGreat
open Go.Esp
theorem F.bld26 : Bld Tryz.prog 26 [[.one (.int .i64 0)], [.one (.int .u64 0)], [.one (.slice none 0 0)], [.one (.slice none 0 0)], [.one (.int .u64 0)]] := ⟨by kernel_rfl, by kernel_rfl⟩
theorem F.bld67 : Bld Tryz.prog 67 [[.one (.int .i64 0), .one (.int .u64 0), .one (.slice none 0 0), .one (.slice none 0 0), .one (.int .u64 0)], [.one (.slice none 0 0)], [.one (.int .i64 0)], [.one (.slice none 0 0)]] := ⟨by kernel_rfl, by kernel_rfl⟩
theorem F.ok14 : okFn Tryz.prog 14 = true := by kernel_rfl
theorem F.ok18 : okFn Tryz.prog 18 = true := by kernel_rfl
theorem F.ok24 : okFn Tryz.prog 24 = true := by kernel_rfl
theorem F.ok25 : okFn Tryz.prog 25 = true := by kernel_rfl
theorem F.ok26 : okFn Tryz.prog 26 = true := by kernel_rfl
theorem F.ok27 : okFn Tryz.prog 27 = true := by kernel_rfl
theorem CloneW_nil (M : Mem) (c : Nat) (l : List WaitV) (k : SlK M WaitV.segs 28 ⟨none, c, l⟩) (hb : l.length ≤ 1000000) : Fh Tryz.prog 24 [.slice none l.length c] M [] (fun M' v Hout => M' = M ∧ OSl 54 28 v Hout (l.map WaitV.segs)) := by
  have hl0 : l = [] := SlM.none_nil k.h1
  subst hl0
  have hl0 : ([] : List WaitV).map WaitV.segs = [] := rfl
  refine Zfg Tryz.func24 rfl Tryz.ntmps24 rfl ?_; intro H
  refine Zj ?_; refine Za (l := [0]) rfl ?_; refine Zd ?_; refine Ze ?_; refine Zc ?_
  iterate 2 refine Zj ?_
  refine Za (l := [0, 1]) rfl ?_; refine Zf ?_; refine Y_nil Tryz.underlying24 ?_; refine Ze ?_; refine Zc ?_; refine Y_pk [4, 2, 0] ?_
  refine Zau rfl (fun hc1 => ?_) (fun hc1 => ?_)
  ·skip
   refine Zj ?_; refine Za (l := [0]) rfl ?_; refine Zd ?_; refine Ze ?_; refine Zc ?_; refine Y_pk [2, 0] ?_; refine Zak ?_; refine Zba ?_
   refine Zaj (.inr rfl) (.tmp rfl .nil) (fun w hw => ?_)
   exact ⟨_, M, [], rfl, Mem.le.refl M, hw.c, rfl, by rw [hl0]; exact OSl.nil⟩
  ·skip
   (exfalso; simp [eqX] at hc1; done)
theorem CloneW_some (M : Mem) (ad : Addr) (c : Nat) (l : List WaitV) (k : SlK M WaitV.segs 28 ⟨some ad, c, l⟩) (hb : l.length ≤ 1000000) : Fh Tryz.prog 24 [.slice (some ad) l.length c] M [] (fun M' v Hout => M' = M ∧ OSl 54 28 v Hout (l.map WaitV.segs)) := by
  have hml : l.length = (l.map WaitV.segs).length := (List.length_map ..).symm
  refine Zfg Tryz.func24 rfl Tryz.ntmps24 rfl ?_; intro H
  refine Zj ?_; refine Za (l := [0]) rfl ?_; refine Zd ?_; refine Ze ?_; refine Zc ?_
  iterate 2 refine Zj ?_
  refine Za (l := [0, 1]) rfl ?_; refine Zf ?_; refine Y_nil Tryz.underlying24 ?_; refine Ze ?_; refine Zc ?_; refine Y_pk [4, 2, 0] ?_
  refine Zau rfl (fun hc1 => ?_) (fun hc1 => ?_)
  ·skip
   (exfalso; simp [eqX] at hc1; done)
  ·skip
   refine Zax ?_; refine Zc ?_; refine Y_pk [2, 0] ?_; refine Zj ?_; refine Za (l := [0, 1, 2, 3]) rfl ?_
   refine Zbt rfl rfl F.elem24 F.zero54 rfl rfl (.nil) rfl rfl (by simp only [List.map_cons, List.map_nil] <;> rfl) rfl ?_; intro b2 hob3
   refine Zf ?_
   refine Zdn (m := 1000000) rfl rfl rfl rfl rfl F.elem24 F.zero54 (by exact Zei rfl) rfl (by assumption) (by repeat first | exact Rem.here _ | exact Rem.two | apply Rem.skip | apply Rem.over) (SlM.src k.h1 (Zfi WaitV.flat _) hml) (by (simp; omega)) (by decide) rfl ?_; intro v6 hs5 ho4; obtain ⟨adv6, cpv6, rfl⟩ := ho4.val
   refine Zd ?_; refine Ze ?_; refine Zc ?_; refine Y_pk [2] ?_; refine Zak ?_
   refine Zaj (.inr rfl) (.tmp rfl .nil) (fun w hw => ?_)
   exact ⟨_, M, _, rfl, Mem.le.refl M, hw.c, rfl, by assumption⟩
theorem CloneW_ok (M : Mem) (a : Option Addr) (c : Nat) (l : List WaitV) (k : SlK M WaitV.segs 28 ⟨a, c, l⟩) (hb : l.length ≤ 1000000) : Fh Tryz.prog 24 [.slice a l.length c] M [] (fun M' v Hout => M' = M ∧ OSl 54 28 v Hout (l.map WaitV.segs)) := by
  cases a with
  |none => exact CloneW_nil M c l k hb
  |some ad => exact CloneW_some M ad c l k hb
theorem Take_ok (M : Mem) (s : ServerV) (l : (Sl PeerV)) (r : Int) (frm : Int) (p : ParcelV) (hs0 : ServerV.ok M s) (hl1 : SlK M PeerV.segs 21 l) (hp2 : ParcelV.ok M p) (hb : s.waits.l.length ≤ 1000) : Esp.Fn Tryz.prog 11 [s.enc, Sl.val l, .int .i64 r, .int .i64 frm, p.enc] M (fun M' v => SrvE M' v (srvR s.pl l.l r frm p.pl)) := by
  obtain ⟨Zaf, Zx, ⟨Zr, Zq, Zh⟩, ⟨Zp, Zo, Zg⟩, Zw⟩ := s
  obtain ⟨l_a, l_c, l_l⟩ := l
  obtain ⟨Zbx, Zbm, Zbr, ⟨Zv, Zao, Zap, Zy, Zbc⟩, ⟨Zab, Zt, Zae, Zad⟩, Zbd, ⟨Zs, Zai, Zah, ⟨Zn, Zm, Zk⟩⟩⟩ := p
  have Zbw : SlK M HeldV.segs 24 ⟨Zr, Zq, Zh⟩ := hs0.h0
  have Zfr : SlM M Zr (Zh.map HeldV.segs) 24 := Zbw.h1
  have n_s_store : (Zh.map HeldV.segs).length = Zh.length := List.length_map ..
  have m_s_store : Zh.length ≤ 9223372036854775807 := Zbw.h2
  have c_s_store : Zh.length ≤ Zq := Zbw.h3
  have Zdq : ∀ y ∈ Zh, HeldV.ok M y := hs0.h1
  have Zbz : SlK M WaitV.segs 28 ⟨Zp, Zo, Zg⟩ := hs0.h2
  have Zfn : SlM M Zp (Zg.map WaitV.segs) 28 := Zbz.h1
  have n_s_waits : (Zg.map WaitV.segs).length = Zg.length := List.length_map ..
  have m_s_waits : Zg.length ≤ 9223372036854775807 := Zbz.h2
  have c_s_waits : Zg.length ≤ Zo := Zbz.h3
  have Zdp : ∀ y ∈ Zg, WaitV.ok M y := hs0.h3
  have k_l : SlK M PeerV.segs 21 ⟨l_a, l_c, l_l⟩ := hl1
  have s_l : SlM M l_a (l_l.map PeerV.segs) 21 := k_l.h1
  have n_l : (l_l.map PeerV.segs).length = l_l.length := List.length_map ..
  have m_l : l_l.length ≤ 9223372036854775807 := k_l.h2
  have c_l : l_l.length ≤ l_c := k_l.h3
  have k_p_cell : CellV.ok M ⟨Zs, Zai, Zah, ⟨Zn, Zm, Zk⟩⟩ := hp2.h0
  have Zbu : SlK M MarkV.segs 6 ⟨Zn, Zm, Zk⟩ := hp2.h0.h0
  have s_p_cell_marks : SlM M Zn (Zk.map MarkV.segs) 6 := Zbu.h1
  have n_p_cell_marks : (Zk.map MarkV.segs).length = Zk.length := List.length_map ..
  have m_p_cell_marks : Zk.length ≤ 9223372036854775807 := Zbu.h2
  have c_p_cell_marks : Zk.length ≤ Zm := Zbu.h3
  simp only at hb
  show Esp.Fn _ _ _ _ (fun M' v => SrvE M' v (srvR (ServerV.pl ⟨Zaf, Zx, ⟨Zr, Zq, Zh⟩, ⟨Zp, Zo, Zg⟩, Zw⟩) l_l r frm (ParcelV.pl ⟨Zbx, Zbm, Zbr, ⟨Zv, Zao, Zap, Zy, Zbc⟩, ⟨Zab, Zt, Zae, Zad⟩, Zbd, ⟨Zs, Zai, Zah, ⟨Zn, Zm, Zk⟩⟩⟩)))
  refine Zek Tryz.func11 rfl Tryz.ntmps11 rfl ?_; intro H
  refine Zj ?_; refine Za (l := [0, 1, 2, 3, 4]) rfl ?_
  refine Zcz ?_; intro b1
  refine Zcz ?_; intro b2
  refine Zby F.zero26 ?_; intro b3
  iterate 2 refine Zd ?_
  refine Ze ?_; refine Zc ?_; refine Y_pk [12, 11, 10, 9, 5, 1, 2, 3] ?_
  iterate 2 refine Zj ?_
  refine Za (l := [0, 1, 2, 3, 4, 5, 6, 7, 8, 9, 10, 11, 12, 13, 14, 15, 16, 17, 18, 19, 20]) rfl ?_; refine Zi F.lay26 ?_; refine X_fs rfl rfl F.ok14 rfl (SIs_ok _ ⟨Zaf, Zx, ⟨Zr, Zq, Zh⟩, ⟨Zp, Zo, Zg⟩, Zw⟩ hs0) rfl ?_
  rintro _ rfl
  refine Zel ?_; refine Zf ?_
  refine Zag 17 rfl (fun hc4 => ?_) (fun hc4 => ?_)
  ·replace hc4 := nT hc4
   iterate 3 refine Zz ?_
   refine Zl ?_; refine Zf ?_
   iterate 2 refine Zz ?_
   refine Zl ?_; refine Zf ?_
   iterate 2 refine Zz ?_
   refine Zl ?_; refine Zf ?_
   iterate 3 refine Zz ?_
   refine Zl ?_; refine Ze ?_; refine Zc ?_; refine Y_pk [34, 12, 11, 10, 9, 5, 1, 2, 3] ?_; refine Zcy rfl ?_; refine Zj ?_; refine Za (l := [0, 1, 2, 3]) rfl ?_; refine Zbv rfl rfl F.bld26 (.nil) rfl rfl ?_; refine Zas F.lay26 ?_
   iterate 2 refine Zd ?_
   refine Ze ?_; refine Zc ?_; refine Y_pk [12, 11, 10, 9, 5, 1, 2, 3] ?_; refine Zak ?_; refine Zba ?_
   refine Zaj (.inr rfl) (.cell rfl (by repeat first | exact List.Mem.head _ | refine List.Mem.tail _ ?_ | refine List.mem_append_right _ ?_) F.lay26 rfl rfl (.tmp rfl (.tmp rfl .nil))) (fun w hw => ?_)
   refine ⟨_, M, rfl, Mem.le.refl M, hw.c, ?_⟩
   rw [srvR_no (by rintro ⟨g1, g2, g3, g4⟩; first | contradiction | omega)]
   exact ⟨ServerV.zero, ⟨none, 0, []⟩, rfl, rfl, rfl, ServerV.zero_ok M, SlK.nil, fun y hy => by cases hy⟩
  ·replace hc4 := nF hc4
   refine Zf ?_; refine X_fs rfl rfl F.ok23 rfl (Circ_ok _ ⟨_, _, _⟩ (by assumption)) rfl ?_
   rintro _ rfl
   refine Zel ?_; refine Zl ?_; refine Zf ?_
   refine Zag 22 rfl (fun hc5 => ?_) (fun hc5 => ?_)
   ·replace hc5 := nT hc5
    simp only [AnswerV.eta, MarkV.eta, CellV.eta, HeldV.eta, WaitV.eta, ServerV.eta, PeerV.eta, OpV.eta, ParcelV.eta, PostV.eta, WorkerV.eta] at hc5
    iterate 2 refine Zz ?_
    refine Zl ?_; refine Zf ?_
    iterate 2 refine Zz ?_
    refine Zl ?_; refine Zf ?_
    iterate 3 refine Zz ?_
    refine Zl ?_; refine Ze ?_; refine Zc ?_; refine Y_pk [34, 12, 11, 10, 9, 5, 1, 2, 3] ?_; refine Zcy rfl ?_; refine Zj ?_; refine Za (l := [0, 1, 2, 3]) rfl ?_; refine Zbv rfl rfl F.bld26 (.nil) rfl rfl ?_; refine Zas F.lay26 ?_
    iterate 2 refine Zd ?_
    refine Ze ?_; refine Zc ?_; refine Y_pk [12, 11, 10, 9, 5, 1, 2, 3] ?_; refine Zak ?_; refine Zba ?_
    refine Zaj (.inr rfl) (.cell rfl (by repeat first | exact List.Mem.head _ | refine List.Mem.tail _ ?_ | refine List.mem_append_right _ ?_) F.lay26 rfl rfl (.tmp rfl (.tmp rfl .nil))) (fun w hw => ?_)
    refine ⟨_, M, rfl, Mem.le.refl M, hw.c, ?_⟩
    rw [srvR_no (by rintro ⟨g1, g2, g3, g4⟩; first | contradiction | omega)]
    exact ⟨ServerV.zero, ⟨none, 0, []⟩, rfl, rfl, rfl, ServerV.zero_ok M, SlK.nil, fun y hy => by cases hy⟩
   ·replace hc5 := nF hc5
    simp only [AnswerV.eta, MarkV.eta, CellV.eta, HeldV.eta, WaitV.eta, ServerV.eta, PeerV.eta, OpV.eta, ParcelV.eta, PostV.eta, WorkerV.eta] at hc5
    refine Zf ?_; refine Zav ?_; refine Zl ?_; refine Zf ?_
    refine Zag 26 rfl (fun hc6 => ?_) (fun hc6 => ?_)
    ·replace hc6 := dT hc6
     iterate 2 refine Zz ?_
     refine Zl ?_; refine Zf ?_
     iterate 3 refine Zz ?_
     refine Zl ?_; refine Ze ?_; refine Zc ?_; refine Y_pk [34, 12, 11, 10, 9, 5, 1, 2, 3] ?_; refine Zcy rfl ?_; refine Zj ?_; refine Za (l := [0, 1, 2, 3]) rfl ?_; refine Zbv rfl rfl F.bld26 (.nil) rfl rfl ?_; refine Zas F.lay26 ?_
     iterate 2 refine Zd ?_
     refine Ze ?_; refine Zc ?_; refine Y_pk [12, 11, 10, 9, 5, 1, 2, 3] ?_; refine Zak ?_; refine Zba ?_
     refine Zaj (.inr rfl) (.cell rfl (by repeat first | exact List.Mem.head _ | refine List.Mem.tail _ ?_ | refine List.mem_append_right _ ?_) F.lay26 rfl rfl (.tmp rfl (.tmp rfl .nil))) (fun w hw => ?_)
     refine ⟨_, M, rfl, Mem.le.refl M, hw.c, ?_⟩
     rw [srvR_no (by rintro ⟨g1, g2, g3, g4⟩; first | contradiction | omega)]
     exact ⟨ServerV.zero, ⟨none, 0, []⟩, rfl, rfl, rfl, ServerV.zero_ok M, SlK.nil, fun y hy => by cases hy⟩
    ·replace hc6 := dF hc6
     refine Zf ?_; refine Zav ?_; refine Zl ?_; refine Zf ?_
     refine Zag 30 rfl (fun hc7 => ?_) (fun hc7 => ?_)
     ·replace hc7 := dT hc7
      iterate 3 refine Zz ?_
      refine Zl ?_; refine Ze ?_; refine Zc ?_; refine Y_pk [34, 12, 11, 10, 9, 5, 1, 2, 3] ?_; refine Zcy rfl ?_; refine Zj ?_; refine Za (l := [0, 1, 2, 3]) rfl ?_; refine Zbv rfl rfl F.bld26 (.nil) rfl rfl ?_; refine Zas F.lay26 ?_
      iterate 2 refine Zd ?_
      refine Ze ?_; refine Zc ?_; refine Y_pk [12, 11, 10, 9, 5, 1, 2, 3] ?_; refine Zak ?_; refine Zba ?_
      refine Zaj (.inr rfl) (.cell rfl (by repeat first | exact List.Mem.head _ | refine List.Mem.tail _ ?_ | refine List.mem_append_right _ ?_) F.lay26 rfl rfl (.tmp rfl (.tmp rfl .nil))) (fun w hw => ?_)
      refine ⟨_, M, rfl, Mem.le.refl M, hw.c, ?_⟩
      rw [srvR_no (by rintro ⟨g1, g2, g3, g4⟩; first | contradiction | omega)]
      exact ⟨ServerV.zero, ⟨none, 0, []⟩, rfl, rfl, rfl, ServerV.zero_ok M, SlK.nil, fun y hy => by cases hy⟩
     ·replace hc7 := dF hc7
      refine Zi F.lay39 ?_; refine X_fs rfl rfl F.ok18 rfl (pIs_ok _ ⟨_, _, _, ⟨_, _, _, _, _⟩, ⟨_, _, _, _⟩, _, ⟨_, _, _, ⟨_, _, _⟩⟩⟩ (by assumption)) rfl ?_
      rintro _ rfl
      refine Zel ?_; refine Zl ?_; refine Ze ?_; refine Zc ?_; refine Y_pk [34, 12, 11, 10, 9, 5, 1, 2, 3] ?_
      refine Zau rfl (fun hc8 => ?_) (fun hc8 => ?_)
      ·replace hc8 := nT hc8
       refine Zj ?_; refine Za (l := [0, 1, 2, 3]) rfl ?_; refine Zbv rfl rfl F.bld26 (.nil) rfl rfl ?_; refine Zas F.lay26 ?_
       iterate 2 refine Zd ?_
       refine Ze ?_; refine Zc ?_; refine Y_pk [12, 11, 10, 9, 5, 1, 2, 3] ?_; refine Zak ?_; refine Zba ?_
       refine Zaj (.inr rfl) (.cell rfl (by repeat first | exact List.Mem.head _ | refine List.Mem.tail _ ?_ | refine List.mem_append_right _ ?_) F.lay26 rfl rfl (.tmp rfl (.tmp rfl .nil))) (fun w hw => ?_)
       refine ⟨_, M, rfl, Mem.le.refl M, hw.c, ?_⟩
       rw [srvR_no (by rintro ⟨g1, g2, g3, g4⟩; first | contradiction | omega)]
       exact ⟨ServerV.zero, ⟨none, 0, []⟩, rfl, rfl, rfl, ServerV.zero_ok M, SlK.nil, fun y hy => by cases hy⟩
      ·replace hc8 := nF hc8
       refine Zax ?_; refine Zc ?_; refine Y_pk [12, 11, 10, 9, 5, 1, 2, 3] ?_; refine Zj ?_
       have hA : TakeOk (ServerV.pl ⟨Zaf, Zx, ⟨Zr, Zq, Zh⟩, ⟨Zp, Zo, Zg⟩, Zw⟩) l_l r (ParcelV.pl ⟨Zbx, Zbm, Zbr, ⟨Zv, Zao, Zap, Zy, Zbc⟩, ⟨Zab, Zt, Zae, Zad⟩, Zbd, ⟨Zs, Zai, Zah, ⟨Zn, Zm, Zk⟩⟩⟩) := ⟨by assumption, by assumption, ⟨by omega, by omega⟩, by assumption⟩
       refine Za (l := [0, 1, 2, 3, 4]) rfl ?_; refine Zb F.foff26_3 ?_; refine Zi F.lay24 ?_; refine Zgy rfl rfl F.ok24 rfl (CloneW_ok M Zp Zo Zg Zbz (by omega)) (by repeat first | exact Rem.here _ | exact Rem.two | apply Rem.skip | apply Rem.over) (fun _ _ _ hm hw => (hw.lower (by exact hm)).c) (Zbq rfl) ?_
       rintro _ MX hs1 hmX ⟨hMX, ho1⟩
       subst MX
       clear hmX
       obtain ⟨ad1, cp1, rfl⟩ := ho1.valL
       refine Zb F.foff26_3 ?_; refine Zas F.lay24 ?_; refine Ze ?_; refine Zc ?_; refine Y_pk [12, 11, 10, 9, 5, 1, 2, 3] ?_; refine Zj ?_; refine Za (l := [0, 1, 2, 3, 4, 5]) rfl ?_; refine Zi F.lay26 ?_
       iterate 2 refine Zf ?_
       refine Zbv rfl rfl F.bld67 (.cons rfl (by constructor) (.cons rfl (by constructor) (.cons rfl (by constructor) .nil))) rfl rfl ?_
       refine Zcz ?_; intro b9
       refine Zd ?_; refine Ze ?_; refine Zc ?_; refine Y_pk [13, 12, 11, 10, 9, 5, 3] ?_
       iterate 2 refine Zj ?_
       refine Za (l := [0, 1, 2, 3, 4]) rfl ?_; refine Zb F.foff39_1 ?_; refine Zi F.lay22 ?_; refine Zb F.foff26_1 ?_; refine Zi F.lay22 ?_; refine Zav ?_; refine Ze ?_; refine Zc ?_; refine Y_pk [49, 13, 12, 11, 10, 9, 3] ?_
       refine Zau rfl (fun hc10 => ?_) (fun hc10 => ?_)
       ·replace hc10 := nT hc10
        refine Zj ?_; refine Za (l := [0, 1, 2, 3, 4, 5, 6]) rfl ?_; refine Zf ?_; refine Zco ?_; refine Zb F.foff67_0 ?_; refine Zi F.lay26 ?_; refine Zas F.lay26 ?_
        iterate 2 refine Zd ?_
        refine Ze ?_; refine Zc ?_; refine Y_pk [12, 11, 13, 10, 9, 3] ?_; refine Zak ?_; refine Zba ?_
        refine Zaj (.inr rfl) (.cell rfl (by repeat first | exact List.Mem.head _ | refine List.Mem.tail _ ?_ | refine List.mem_append_right _ ?_) F.lay26 rfl rfl (.tmp rfl (.tmp rfl .nil))) (fun w hw => ?_)
        obtain ⟨M4, j4, j5, j6⟩ := OSl.frz (H := H) (l := Zg) (f := WaitV.segs) ho1 (hw.c)
        refine ⟨_, M4, rfl, j4, j5, ?_⟩
        clear hw
        rw [srvR_ep (s := ServerV.pl ⟨Zaf, Zx, ⟨Zr, Zq, Zh⟩, ⟨Zp, Zo, Zg⟩, Zw⟩) (l := l_l) (r := r) (f := frm) (p := ParcelV.pl ⟨Zbx, Zbm, Zbr, ⟨Zv, Zao, Zap, Zy, Zbc⟩, ⟨Zab, Zt, Zae, Zad⟩, Zbd, ⟨Zs, Zai, Zah, ⟨Zn, Zm, Zk⟩⟩⟩) hA (by show Zbm ≠ Zx; omega)]
        exact ⟨⟨Zaf, Zx, ⟨Zr, Zq, Zh⟩, ⟨ad1, cp1, Zg⟩, Zw⟩, ⟨none, 0, []⟩, rfl, rfl, rfl, ⟨Zbw.mono j4, fun h hh => (Zdq h hh).mono j4, j6, fun h hh => (Zdp h hh).mono j4⟩, SlK.nil, fun y hy => by cases hy⟩
       ·replace hc10 := nF hc10
        refine Zax ?_; refine Zc ?_; refine Y_pk [13, 12, 11, 10, 9, 3] ?_
        iterate 2 refine Zj ?_
        refine Za (l := [0, 1]) rfl ?_; refine Zb F.foff39_0 ?_; refine Zi F.lay3 ?_; refine Ze ?_; refine Zc ?_; refine Y_pk [55, 13, 12, 11, 10, 9, 3] ?_; refine Zbe ?_; refine Zj ?_; refine Za (l := [0, 1]) rfl ?_; refine Zav ?_; refine Zd ?_; refine Ze ?_; refine Zc ?_; refine Y_pk [56, 55, 13, 12, 11, 10, 9, 3] ?_
        refine Zau rfl (fun hc11 => ?_) (fun hc11 => ?_)
        ·replace hc11 := dT hc11
         refine Zdg (l := [0, 1, 2, 3, 4, 5]) [5] rfl ?_; refine Zf ?_; refine Zb F.foff39_2 ?_; refine Zi F.lay29 ?_; refine Zb F.foff39_3 ?_; refine Zi F.lay31 ?_; refine Zgm rfl rfl rfl F.ok25 rfl (request_ok M b9 Zaf Zx Zw r Zr ad1 l_a Zq cp1 l_c Zh Zg l_l hs1 ho1 hb Zdp Zbw Zdq k_l hA.2.1 hA.2.2.1 hA.1 ⟨Zbx, Zbm, Zbr, ⟨Zv, Zao, Zap, Zy, Zbc⟩, ⟨Zab, Zt, Zae, Zad⟩, Zbd, ⟨Zs, Zai, Zah, ⟨Zn, Zm, Zk⟩⟩⟩ (prc_op hA.2.2.2 (by show Zbx = 1; omega))) (by repeat first | exact Rem.here _ | exact Rem.two | apply Rem.skip | apply Rem.over) (Zbq rfl) ?_
         rintro _ M2 Ho2 hm2 ⟨rfl, ⟨u_addr, u_epoch, ⟨u_sa, u_sc, u_sl⟩, ⟨u_wa, u_wc, u_wl⟩, u_serial⟩, ⟨o9_a, o9_c, o9_l⟩, ho9, hw9, rfl, hO9, hW9, hpl9, hpo9, k_9, l_9, w_9, p_9⟩
         simp only at hO9 hW9 hpl9 hpo9 k_9 l_9 w_9 p_9
         simp only [List.append_assoc, List.cons_append, List.nil_append]
         refine Ze ?_; refine Zen ?_; refine Zde ?_; refine Zc ?_; refine Y_pk [13, 12, 11, 10] ?_; refine Zj ?_; refine C_region_anyWR (l := [0, 1, 2, 3, 4, 5, 6, 7, 8, 9, 10]) (Hin := [(b3, _)]) [8] #[0, 1, 3, 7, 0, 16, 48, 112, 15, 511, 1023] (by repeat first | exact Rem.here _ | exact Rem.two | apply Rem.skip | apply Rem.over) rfl (by kernel_rfl) (by kernel_rfl) ?_; refine Zf ?_; refine Zco ?_; refine Zb F.foff67_0 ?_; refine Zi F.lay26 ?_; refine Zf ?_; refine Zco ?_; refine Zb F.foff67_3 ?_; refine Zi F.lay43 ?_; refine Zdd rfl rfl rfl rfl rfl (by constructor) (by ((try simp only [cat, List.cons_append, List.nil_append, List.append_nil]); (repeat (first | exact Zbp | refine Zcb ?_ | (refine Zam ?_ ?_; rfl))); done)) (by repeat first | exact Upd.head | apply Upd.tail | apply Upd.over) F.lay26 rfl rfl (fun _ h => h.c) ?_
         iterate 2 refine Zd ?_
         refine Ze ?_; refine Zen ?_; refine Zc ?_; refine Y_pk [12, 11, 10] ?_; refine Zak ?_
         refine Zaj (.inr rfl) (.cell rfl (by repeat first | exact List.Mem.head _ | refine List.Mem.tail _ ?_ | refine List.mem_append_right _ ?_) F.lay26 rfl rfl (.tmp rfl (.tmp rfl .nil))) (fun w hw => ?_)
         obtain ⟨M3, j1, j2, j3⟩ := OSl.frz (H := hw9 ++ H) (l := o9_l) (f := PostV.segs) hO9 (hw.c)
         obtain ⟨M4, j4, j5, j6⟩ := OSl.frz (H := H) (l := u_wl) (f := WaitV.segs) hW9 j2
         refine ⟨_, M4, rfl, hm2.trans (j1.trans j4), j5, ?_⟩
         clear hw
         rw [srvR_req (s := ServerV.pl ⟨Zaf, Zx, ⟨Zr, Zq, Zh⟩, ⟨Zp, Zo, Zg⟩, Zw⟩) (l := l_l) (r := r) (f := frm) (p := ParcelV.pl ⟨Zbx, Zbm, Zbr, ⟨Zv, Zao, Zap, Zy, Zbc⟩, ⟨Zab, Zt, Zae, Zad⟩, Zbd, ⟨Zs, Zai, Zah, ⟨Zn, Zm, Zk⟩⟩⟩) hA (by show Zbm = Zx; omega) (by show Zbx = 1; omega)]
         exact ⟨⟨u_addr, u_epoch, ⟨u_sa, u_sc, u_sl⟩, ⟨u_wa, u_wc, u_wl⟩, u_serial⟩, ⟨o9_a, o9_c, o9_l⟩, rfl, hpl9, hpo9, ⟨k_9.mono (j1.trans j4), fun h hh => (l_9 h hh).mono (j1.trans j4), j6, fun h hh => (w_9 h hh).mono (j1.trans j4)⟩, j3.mono j4, fun y hy => (p_9 y hy).mono (j1.trans j4)⟩
        ·replace hc11 := dF hc11
         refine Zj ?_; refine Za (l := [0, 1]) rfl ?_; refine Zav ?_; refine Zd ?_; refine Ze ?_; refine Zc ?_; refine Y_pk [64, 55, 13, 12, 11, 10, 9, 3] ?_
         refine Zau rfl (fun hc12 => ?_) (fun hc12 => ?_)
         ·replace hc12 := dT hc12
          refine Zdg (l := [0, 1, 2, 3]) [3] rfl ?_
          iterate 2 refine Zf ?_
          refine Zi F.lay39 ?_; refine Zgm rfl rfl rfl F.ok26 rfl (copy_ok9 M b9 Zaf Zx Zw r Zr ad1 l_a Zq cp1 l_c Zh Zg l_l hs1 ho1 hb Zdp Zbw Zdq frm ⟨Zbx, Zbm, Zbr, ⟨Zv, Zao, Zap, Zy, Zbc⟩, ⟨Zab, Zt, Zae, Zad⟩, Zbd, ⟨Zs, Zai, Zah, ⟨Zn, Zm, Zk⟩⟩⟩ hp2.h0) (by repeat first | exact Rem.here _ | exact Rem.two | apply Rem.skip | apply Rem.over) (Zbq rfl) ?_
          rintro _ M2 Ho2 hm2 ⟨rfl, ⟨u_addr, u_epoch, ⟨u_sa, u_sc, u_sl⟩, ⟨u_wa, u_wc, u_wl⟩, u_serial⟩, ⟨o9_a, o9_c, o9_l⟩, ho9, hw9, rfl, hO9, hW9, hpl9, hpo9, k_9, l_9, w_9, p_9⟩
          simp only at hO9 hW9 hpl9 hpo9 k_9 l_9 w_9 p_9
          simp only [List.append_assoc, List.cons_append, List.nil_append]
          refine Ze ?_; refine Zen ?_; refine Zde ?_; refine Zc ?_; refine Y_pk [13, 12, 11, 10] ?_; refine Zj ?_; refine C_region_anyWR (l := [0, 1, 2, 3, 4, 5, 6, 7, 8, 9, 10]) (Hin := [(b3, _)]) [8] #[0, 1, 3, 7, 0, 16, 48, 112, 15, 511, 1023] (by repeat first | exact Rem.here _ | exact Rem.two | apply Rem.skip | apply Rem.over) rfl (by kernel_rfl) (by kernel_rfl) ?_; refine Zf ?_; refine Zco ?_; refine Zb F.foff67_0 ?_; refine Zi F.lay26 ?_; refine Zf ?_; refine Zco ?_; refine Zb F.foff67_3 ?_; refine Zi F.lay43 ?_; refine Zdd rfl rfl rfl rfl rfl (by constructor) (by ((try simp only [cat, List.cons_append, List.nil_append, List.append_nil]); (repeat (first | exact Zbp | refine Zcb ?_ | (refine Zam ?_ ?_; rfl))); done)) (by repeat first | exact Upd.head | apply Upd.tail | apply Upd.over) F.lay26 rfl rfl (fun _ h => h.c) ?_
          iterate 2 refine Zd ?_
          refine Ze ?_; refine Zen ?_; refine Zc ?_; refine Y_pk [12, 11, 10] ?_; refine Zak ?_
          refine Zaj (.inr rfl) (.cell rfl (by repeat first | exact List.Mem.head _ | refine List.Mem.tail _ ?_ | refine List.mem_append_right _ ?_) F.lay26 rfl rfl (.tmp rfl (.tmp rfl .nil))) (fun w hw => ?_)
          obtain ⟨M3, j1, j2, j3⟩ := OSl.frz (H := hw9 ++ H) (l := o9_l) (f := PostV.segs) hO9 (hw.c)
          obtain ⟨M4, j4, j5, j6⟩ := OSl.frz (H := H) (l := u_wl) (f := WaitV.segs) hW9 j2
          refine ⟨_, M4, rfl, hm2.trans (j1.trans j4), j5, ?_⟩
          clear hw
          rw [srvR_copy (s := ServerV.pl ⟨Zaf, Zx, ⟨Zr, Zq, Zh⟩, ⟨Zp, Zo, Zg⟩, Zw⟩) (l := l_l) (r := r) (f := frm) (p := ParcelV.pl ⟨Zbx, Zbm, Zbr, ⟨Zv, Zao, Zap, Zy, Zbc⟩, ⟨Zab, Zt, Zae, Zad⟩, Zbd, ⟨Zs, Zai, Zah, ⟨Zn, Zm, Zk⟩⟩⟩) hA (by show Zbm = Zx; omega) (by show Zbx = 3; omega)]
          exact ⟨⟨u_addr, u_epoch, ⟨u_sa, u_sc, u_sl⟩, ⟨u_wa, u_wc, u_wl⟩, u_serial⟩, ⟨o9_a, o9_c, o9_l⟩, rfl, hpl9, hpo9, ⟨k_9.mono (j1.trans j4), fun h hh => (l_9 h hh).mono (j1.trans j4), j6, fun h hh => (w_9 h hh).mono (j1.trans j4)⟩, j3.mono j4, fun y hy => (p_9 y hy).mono (j1.trans j4)⟩
         ·replace hc12 := dF hc12
          refine Zj ?_; refine Za (l := [0, 1]) rfl ?_; refine Zav ?_; refine Zd ?_; refine Ze ?_; refine Zc ?_; refine Y_pk [70, 13, 12, 11, 10, 9, 3] ?_
          refine Zau rfl (fun hc13 => ?_) (fun hc13 => ?_)
          ·replace hc13 := dT hc13
           refine Zdg (l := [0, 1, 2, 3, 4]) [4] rfl ?_
           iterate 2 refine Zf ?_
           refine Zb F.foff39_5 ?_; refine Zi F.lay22 ?_; refine Zgm rfl rfl rfl F.ok27 rfl (copied_ok9 M b9 Zaf Zx Zw r Zr ad1 l_a Zq cp1 l_c Zh Zg l_l hs1 ho1 hb Zdp Zbw Zdq hA.1 frm Zbd) (by repeat first | exact Rem.here _ | exact Rem.two | apply Rem.skip | apply Rem.over) (Zbq rfl) ?_
           rintro _ M2 Ho2 hm2 ⟨rfl, ⟨u_addr, u_epoch, ⟨u_sa, u_sc, u_sl⟩, ⟨u_wa, u_wc, u_wl⟩, u_serial⟩, ⟨o9_a, o9_c, o9_l⟩, ho9, hw9, rfl, hO9, hW9, hpl9, hpo9, k_9, l_9, w_9, p_9⟩
           simp only at hO9 hW9 hpl9 hpo9 k_9 l_9 w_9 p_9
           simp only [List.append_assoc, List.cons_append, List.nil_append]
           refine Ze ?_; refine Zen ?_; refine Zde ?_; refine Zc ?_; refine Y_pk [13, 12, 11, 10] ?_; refine Zj ?_; refine C_region_anyWR (l := [0, 1, 2, 3, 4, 5, 6, 7, 8, 9, 10]) (Hin := [(b3, _)]) [8] #[0, 1, 3, 7, 0, 16, 48, 112, 15, 511, 1023] (by repeat first | exact Rem.here _ | exact Rem.two | apply Rem.skip | apply Rem.over) rfl (by kernel_rfl) (by kernel_rfl) ?_; refine Zf ?_; refine Zco ?_; refine Zb F.foff67_0 ?_; refine Zi F.lay26 ?_; refine Zf ?_; refine Zco ?_; refine Zb F.foff67_3 ?_; refine Zi F.lay43 ?_; refine Zdd rfl rfl rfl rfl rfl (by constructor) (by ((try simp only [cat, List.cons_append, List.nil_append, List.append_nil]); (repeat (first | exact Zbp | refine Zcb ?_ | (refine Zam ?_ ?_; rfl))); done)) (by repeat first | exact Upd.head | apply Upd.tail | apply Upd.over) F.lay26 rfl rfl (fun _ h => h.c) ?_
           iterate 2 refine Zd ?_
           refine Ze ?_; refine Zen ?_; refine Zc ?_; refine Y_pk [12, 11, 10] ?_; refine Zak ?_
           refine Zaj (.inr rfl) (.cell rfl (by repeat first | exact List.Mem.head _ | refine List.Mem.tail _ ?_ | refine List.mem_append_right _ ?_) F.lay26 rfl rfl (.tmp rfl (.tmp rfl .nil))) (fun w hw => ?_)
           obtain ⟨M3, j1, j2, j3⟩ := OSl.frz (H := hw9 ++ H) (l := o9_l) (f := PostV.segs) hO9 (hw.c)
           obtain ⟨M4, j4, j5, j6⟩ := OSl.frz (H := H) (l := u_wl) (f := WaitV.segs) hW9 j2
           refine ⟨_, M4, rfl, hm2.trans (j1.trans j4), j5, ?_⟩
           clear hw
           rw [srvR_copied (s := ServerV.pl ⟨Zaf, Zx, ⟨Zr, Zq, Zh⟩, ⟨Zp, Zo, Zg⟩, Zw⟩) (l := l_l) (r := r) (f := frm) (p := ParcelV.pl ⟨Zbx, Zbm, Zbr, ⟨Zv, Zao, Zap, Zy, Zbc⟩, ⟨Zab, Zt, Zae, Zad⟩, Zbd, ⟨Zs, Zai, Zah, ⟨Zn, Zm, Zk⟩⟩⟩) hA (by show Zbm = Zx; omega) (by show Zbx = 4; omega)]
           exact ⟨⟨u_addr, u_epoch, ⟨u_sa, u_sc, u_sl⟩, ⟨u_wa, u_wc, u_wl⟩, u_serial⟩, ⟨o9_a, o9_c, o9_l⟩, rfl, hpl9, hpo9, ⟨k_9.mono (j1.trans j4), fun h hh => (l_9 h hh).mono (j1.trans j4), j6, fun h hh => (w_9 h hh).mono (j1.trans j4)⟩, j3.mono j4, fun y hy => (p_9 y hy).mono (j1.trans j4)⟩
          ·replace hc13 := dF hc13
           refine Zax ?_; refine Zde ?_; refine Zc ?_; refine Y_pk [13, 12, 11, 10] ?_; refine Zj ?_; refine C_region_anyWR (l := [0, 1, 2, 3, 4, 5, 6, 7, 8, 9, 10]) (Hin := [(b3, _)]) [8] #[0, 1, 3, 7, 0, 16, 48, 112, 15, 511, 1023] (by repeat first | exact Rem.here _ | exact Rem.two | apply Rem.skip | apply Rem.over) rfl (by kernel_rfl) (by kernel_rfl) ?_; refine Zf ?_; refine Zco ?_; refine Zb F.foff67_0 ?_; refine Zi F.lay26 ?_; refine Zf ?_; refine Zco ?_; refine Zb F.foff67_3 ?_; refine Zi F.lay43 ?_; refine Zdd rfl rfl rfl rfl rfl (by constructor) (by ((try simp only [cat, List.cons_append, List.nil_append, List.append_nil]); (repeat (first | exact Zbp | refine Zcb ?_ | (refine Zam ?_ ?_; rfl))); done)) (by repeat first | exact Upd.head | apply Upd.tail | apply Upd.over) F.lay26 rfl rfl (fun _ h => h.c) ?_
           iterate 2 refine Zd ?_
           refine Ze ?_; refine Zen ?_; refine Zc ?_; refine Y_pk [12, 11, 10] ?_; refine Zak ?_
           refine Zaj (.inr rfl) (.cell rfl (by repeat first | exact List.Mem.head _ | refine List.Mem.tail _ ?_ | refine List.mem_append_right _ ?_) F.lay26 rfl rfl (.tmp rfl (.tmp rfl .nil))) (fun w hw => ?_)
           obtain ⟨M4, j4, j5, j6⟩ := OSl.frz (H := H) (l := Zg) (f := WaitV.segs) ho1 (hw.c)
           refine ⟨_, M4, rfl, j4, j5, ?_⟩
           clear hw
           rw [srvR_else (s := ServerV.pl ⟨Zaf, Zx, ⟨Zr, Zq, Zh⟩, ⟨Zp, Zo, Zg⟩, Zw⟩) (l := l_l) (r := r) (f := frm) (p := ParcelV.pl ⟨Zbx, Zbm, Zbr, ⟨Zv, Zao, Zap, Zy, Zbc⟩, ⟨Zab, Zt, Zae, Zad⟩, Zbd, ⟨Zs, Zai, Zah, ⟨Zn, Zm, Zk⟩⟩⟩) hA (by show Zbm = Zx; omega) (by show ¬ Zbx = 1; omega) (by show ¬ Zbx = 3; omega) (by show ¬ Zbx = 4; omega)]
           exact ⟨⟨Zaf, Zx, ⟨Zr, Zq, Zh⟩, ⟨ad1, cp1, Zg⟩, Zw⟩, ⟨none, 0, []⟩, rfl, rfl, rfl, ⟨Zbw.mono j4, fun h hh => (Zdq h hh).mono j4, j6, fun h hh => (Zdp h hh).mono j4⟩, SlK.nil, fun y hy => by cases hy⟩
end Go.Proofs.YtpkeilhilpogiaaGreat
namespace Go.Esp
def smallP (n : Int) : Plc := ofBytes fun i => if i = 19 then (n % 256).toNat else if i = 18 then (n / 256 % 256).toNat else 0
theorem smallP_lt (n : Int) : ∀ i, (if i = 19 then (n % 256).toNat else if i = 18 then (n / 256 % 256).toNat else 0) < 256 := fun i => by
  split
  · omega
  · split
    · omega
    · decide
theorem idV0 {i : Nat} (h : i < 20) : (idV 0)[i] = .int .u8 0 := by rw [idV_get _ h]; simp [idB]
theorem small_seg (n : Int) : idV (smallP n) = ((idV 0).set 19 (.int .u8 (n % 256))).set 18 (.int .u8 (n / 256 % 256)) := by
  apply Vector.ext
  intro i hi
  rw [idV_get _ hi]
  unfold smallP
  rw [idB_ofBytes (smallP_lt n) hi]
  by_cases e8 : i = 18
  · subst e8
    rw [Vector.getElem_set_self]
    simp
    omega
  · rw [Vector.getElem_set_ne _ _ (Ne.symm e8)]
    by_cases e9 : i = 19
    · subst e9
      rw [Vector.getElem_set_self]
      simp
      omega
    · rw [Vector.getElem_set_ne _ _ (Ne.symm e9), idV0 hi]
      simp [e8, e9]
end Go.Esp
namespace Go.Esp
def sl2 : List PeerV := [⟨1, 10#160⟩, ⟨2, 20#160⟩]
def scA : AnswerV := ⟨0, 1, true, ⟨#[]⟩⟩
def sc1 : Cel := ⟨1, true, ⟨#[97]⟩, [⟨3, 1, scA⟩]⟩
def sp1 : Prc := ⟨1, 0, 5#160, ⟨3, 1, 2, 0, ⟨#[97]⟩⟩, AnswerV.zero, 0, Cel.zero⟩
def sA : Srv := ⟨1, 0, [⟨5#160, sc1⟩], [⟨5#160, 3, 1, scA, 1, [2]⟩], 1⟩
def sX : Pst := ⟨2, ⟨3, 0, 5#160, OpV.zero, AnswerV.zero, 1, sc1⟩⟩
def sB : Srv := ⟨2, 0, [⟨5#160, sc1⟩], [], 0⟩
def sY : Pst := ⟨1, ⟨4, 0, 0, OpV.zero, AnswerV.zero, 1, Cel.zero⟩⟩
def sC : Srv := ⟨1, 0, [⟨5#160, sc1⟩], [], 1⟩
def sZ : Pst := ⟨1003, ⟨2, 0, 0, ⟨3, 1, 0, 0, ⟨#[]⟩⟩, scA, 0, Cel.zero⟩⟩
theorem xs5 : smallP 5 = 5#160 := by kernel_rfl
theorem xs10 : smallP 10 = 10#160 := by kernel_rfl
theorem xs20 : smallP 20 = 20#160 := by kernel_rfl
theorem se1 : srvR ⟨1, 0, [], [], 0⟩ sl2 2 1003 sp1 = (sA, [sX], 0) := by kernel_rfl
theorem se2 : srvR ⟨2, 0, [], [], 0⟩ sl2 2 1 sX.parcel = (sB, [sY], 0) := by kernel_rfl
theorem se3 : srvR sA sl2 2 2 sY.parcel = (sC, [sZ], 0) := by kernel_rfl
theorem se4 : findP sB.store 5#160 = (sc1, true) := by kernel_rfl
theorem se5 : IsSrv sC := of_decide_eq_true (by kernel_rfl)
theorem pst_one {l : List PostV} {p : Pst} (h : pstl l = [p]) : ∃ y, l = [y] ∧ y.pl = p := by
  unfold pstl at h
  obtain ⟨y, rfl, hy⟩ := List.map_eq_singleton_iff.1 h
  exact ⟨y, rfl, hy⟩
end Go.Esp
namespace Go.Proofs.YtpkeilhilpogiaaGreat
open Go.Esp
theorem F.bld80 : Bld Tryz.prog 80 [[.one (.int .i64 0)], [idSeg 0]] := by rw [idSeg0]; exact ⟨by kernel_rfl, by kernel_rfl⟩
theorem F.ok11 : okFn Tryz.prog 11 = true := by kernel_rfl
theorem F.ok35 : okFn Tryz.prog 35 = true := by kernel_rfl
theorem Small_ok (M : Mem) (n : Int) (hn : 0 ≤ n ∧ n ≤ 1000000) : Fs Tryz.prog 35 [.int .i64 n] M (fun v => v = (fun x => aggV [idSeg x]) (smallP n)) := by
  refine Zci Tryz.func35 rfl Tryz.ntmps35 rfl ?_; intro H
  refine Zj ?_; refine Za (l := [0]) rfl ?_
  refine Zby F.zero29 ?_; intro b1
  refine Ze ?_; refine Zc ?_; refine Zj ?_; refine Za (l := [0]) rfl ?_
  refine Zby F.zero29 ?_; intro b2
  refine Ze ?_; refine Zc ?_; refine Zj ?_; refine Za (l := [0, 1, 2, 3, 4]) rfl ?_; refine Zf ?_; refine X_rem rfl rfl rfl rfl (by decide) (by exact rem_nn (by omega)) rfl ?_; refine X_conv rfl rfl rfl Tryz.underlying3 Tryz.underlying5 (by exact wrap_u8_in (by decide) (by omega)) rfl ?_; refine X_indexAddr_arr rfl rfl rfl rfl F.arr29 (by rfl) (by decide) rfl ?_; refine X_store_cell rfl rfl rfl rfl rfl rfl (by repeat first | exact Upd.head | apply Upd.tail | apply Upd.over) F.lay5 (arr_len (by decide)) (arr_set (by decide)) ?_; refine Ze ?_; refine Zc ?_; refine Y_pk [3, 2, 0] ?_; refine Zj ?_; refine Za (l := [0, 1, 2, 3, 4, 5]) rfl ?_; refine Zf ?_; refine X_quo rfl rfl rfl rfl (by decide) (by exact quo_in rfl (by omega) (by omega) (by omega)) rfl ?_; refine X_rem rfl rfl rfl rfl (by decide) (by exact rem_nn (by omega)) rfl ?_; refine X_conv rfl rfl rfl Tryz.underlying3 Tryz.underlying5 (by exact wrap_u8_in (by decide) (by omega)) rfl ?_
  refine X_indexAddr_arr rfl rfl rfl rfl F.arr29 (by rfl) (by decide) rfl ?_; refine X_store_cell rfl rfl rfl rfl rfl rfl (by repeat first | exact Upd.head | apply Upd.tail | apply Upd.over) F.lay5 (arr_len (by decide)) (arr_set (by decide)) ?_; refine Ze ?_; refine Zc ?_; refine Y_pk [3, 2] ?_; refine Zj ?_; refine Za (l := [0, 1]) rfl ?_; refine Zi F.lay29 ?_; refine Zgq 13 rfl (show aggV [.arr 20 _] = aggV [idSeg (smallP n)] from by unfold idSeg; rw [small_seg]) ?_; refine Zas F.lay29 ?_; refine Ze ?_; refine Zc ?_; refine Y_pk [2] ?_; refine Zak ?_
  refine Zaj (.inr rfl) (.cell rfl (by repeat first | exact List.Mem.head _ | refine List.Mem.tail _ ?_ | refine List.mem_append_right _ ?_) F.lay29 rfl rfl .nil) (fun w hw => ?_)
  refine ⟨_, rfl, (hw.c), ?_⟩
  clear hw
  rfl
theorem small5_ok (M : Mem) : Fs Tryz.prog 35 [.int .i64 5] M (fun v => v = aggV [idSeg 5#160]) := by
  have h := Small_ok M 5 (by decide)
  rw [xs5] at h
  exact h
theorem small10_ok (M : Mem) : Fs Tryz.prog 35 [.int .i64 10] M (fun v => v = aggV [idSeg 10#160]) := by
  have h := Small_ok M 10 (by decide)
  rw [xs10] at h
  exact h
theorem small20_ok (M : Mem) : Fs Tryz.prog 35 [.int .i64 20] M (fun v => v = aggV [idSeg 20#160]) := by
  have h := Small_ok M 20 (by decide)
  rw [xs20] at h
  exact h
theorem served_ok (M : Mem) : Esp.Fn Tryz.prog 13 [] M (fun _ v => v = .bool true) := by
  refine Zek Tryz.func13 rfl Tryz.ntmps13 rfl ?_; intro H
  refine Zj ?_; refine Za (l := [0]) rfl ?_; refine Zd ?_; refine Ze ?_; refine Zc ?_; refine Zj ?_; refine Za (l := [0, 1, 2, 3, 4, 5]) rfl ?_; refine X_fs rfl rfl F.ok35 rfl (small10_ok _) rfl ?_
  rintro _ rfl
  refine Zbv rfl rfl F.bld80 (.cons rfl (by constructor) (.cons rfl (by constructor) .nil)) rfl rfl ?_; refine X_fs rfl rfl F.ok35 rfl (small20_ok _) rfl ?_
  rintro _ rfl
  refine Zbv rfl rfl F.bld80 (.cons rfl (by constructor) (.cons rfl (by constructor) .nil)) rfl rfl ?_
  refine Zbt rfl rfl F.elem27 F.zero80 rfl rfl (.cons rfl (by constructor) (.cons rfl (by constructor) .nil)) rfl rfl (by simp only [List.map_cons, List.map_nil] <;> rfl) rfl ?_; intro b1 hob2
  refine Zd ?_; refine Ze ?_; refine Zc ?_; refine Y_pk [1, 0] ?_; refine Zj ?_
  refine Zgw (f := PeerV.segs) (l := sl2) (show OSl 80 21 (.slice _ 2 2) _ (sl2.map PeerV.segs) from hob2) (by repeat first | exact Rem.here _ | exact Rem.two | apply Rem.skip | apply Rem.over) (fun M1 hm1 k_l => ?_)
  refine Za (l := [0, 1, 2]) rfl ?_; refine X_fs rfl rfl F.ok35 rfl (small5_ok _) rfl ?_
  rintro _ rfl
  refine Zby F.zero29 ?_; intro b3
  refine Zas F.lay29 ?_; refine Ze ?_; refine Zc ?_; refine Y_pk [2, 1, 0] ?_; refine Zj ?_; refine Za (l := [0, 1, 2, 3, 4]) rfl ?_; refine Zi F.lay29 ?_; refine Zbv rfl rfl F.bld31 (.cons rfl (by constructor) (.cons rfl (by constructor) (.cons rfl (by constructor) (.cons rfl (by constructor) .nil)))) rfl rfl ?_; refine Zbv rfl rfl F.bld39 (.cons rfl (by constructor) (.cons rfl (by constructor) (.cons rfl (by constructor) .nil))) rfl rfl ?_
  refine Zby F.zero39 ?_; intro b4
  refine Zas F.lay39 ?_; refine Ze ?_; refine Zc ?_; refine Y_pk [3, 2, 1, 0] ?_; refine Zj ?_; refine Za (l := [0, 1, 2, 3, 4, 5, 6, 7, 8, 9, 10, 11]) rfl ?_; refine Zbv rfl rfl F.bld26 (.cons rfl (by constructor) .nil) rfl rfl ?_; refine Zf ?_; refine Zi F.lay39 ?_; refine X_fn rfl rfl F.ok11 rfl (Take_ok M1 ⟨1, 0, ⟨none, 0, []⟩, ⟨none, 0, []⟩, 0⟩ ⟨_, 2, sl2⟩ 2 1003 ⟨1, 0, 5#160, ⟨3, 1, 2, 0, ⟨#[97]⟩⟩, AnswerV.zero, 0, CellV.zero⟩ ⟨SlK.nil, (fun y hy => by cases hy), SlK.nil, (fun y hy => by cases hy)⟩ k_l ⟨CellV.zero_ok _⟩ (by show 0 ≤ 1000; omega)) rfl ?_
  rintro _ M2 hm2 hv
  replace hv : SrvE _ _ (srvR ⟨1, 0, [], [], 0⟩ sl2 2 1003 sp1) := hv
  rw [se1] at hv
  obtain ⟨⟨Zgs, Zgn, ⟨a_sa, a_sc, a_sl⟩, ⟨a_wa, a_wc, a_wl⟩, Zfz⟩, ⟨x_pa, x_pc, x_pl⟩, rfl, ha, hpx, ok_a, k_x, l_x⟩ := hv
  simp only at ha hpx l_x
  obtain ⟨⟨x_to, ⟨x_kind, x_epoch, Zgp, ⟨x_oc, x_or, x_ok, x_ov, x_os⟩, ⟨x_ac, x_av, x_ah, x_as⟩, Zey, ⟨x_cv, x_ch, x_cs, ⟨x_ma, x_mc, x_ml⟩⟩⟩⟩, rfl, hxx⟩ := pst_one hpx
  have s_x := k_x.h1
  simp only at s_x
  have hparx : ParcelV.pl ⟨x_kind, x_epoch, Zgp, ⟨x_oc, x_or, x_ok, x_ov, x_os⟩, ⟨x_ac, x_av, x_ah, x_as⟩, Zey, ⟨x_cv, x_ch, x_cs, ⟨x_ma, x_mc, x_ml⟩⟩⟩ = sX.parcel := congrArg Pst.parcel hxx
  have n_x : [(⟨x_to, ⟨x_kind, x_epoch, Zgp, ⟨x_oc, x_or, x_ok, x_ov, x_os⟩, ⟨x_ac, x_av, x_ah, x_as⟩, Zey, ⟨x_cv, x_ch, x_cs, ⟨x_ma, x_mc, x_ml⟩⟩⟩⟩ : PostV)].length = 1 := rfl
  obtain rfl : x_to = 2 := congrArg Pst.to hxx
  have hxk : x_kind = 3 := congrArg (fun p : Pst => p.parcel.kind) hxx
  have hawl : a_wl.length = 1 := by rw [← Zcs]; exact congrArg (fun s : Srv => s.waits.length) ha
  refine Zf ?_
  iterate 3 refine Zcf ?_
  refine Zby F.zero26 ?_; intro b5
  refine Zas F.lay26 ?_
  iterate 2 refine Zd ?_
  refine Ze ?_; refine Zc ?_; refine Y_pk [6, 5, 4, 2, 1, 0] ?_
  iterate 2 refine Zj ?_
  refine Za (l := [0, 1, 2, 3, 4, 5, 6, 7, 8, 9, 10, 11, 12, 13, 14, 15, 16, 17, 18, 19, 20, 21, 22, 23, 24, 25, 26, 27]) rfl ?_; refine Zf ?_; refine Zav ?_; refine Zf ?_
  refine Zag 34 rfl (fun hc6 => ?_) (fun hc6 => ?_)
  ·replace hc6 := nT hc6
   simp only [AnswerV.eta, MarkV.eta, CellV.eta, HeldV.eta, WaitV.eta, ServerV.eta, PeerV.eta, OpV.eta, ParcelV.eta, PostV.eta, WorkerV.eta] at hc6
   (exfalso; simp [eqX] at hc6; done)
  ·replace hc6 := nF hc6
   simp only [AnswerV.eta, MarkV.eta, CellV.eta, HeldV.eta, WaitV.eta, ServerV.eta, PeerV.eta, OpV.eta, ParcelV.eta, PostV.eta, WorkerV.eta] at hc6
   refine Zf ?_; refine Zbb F.elem43 ?_; refine Zav ?_; refine Zl ?_; refine Zf ?_
   refine Zag 39 rfl (fun hc7 => ?_) (fun hc7 => ?_)
   ·replace hc7 := nT hc7
    (exfalso; omega)
   ·replace hc7 := nF hc7
    refine Zf ?_; refine Zaa rfl rfl rfl rfl F.elem43 (by rfl) (by (simp; done)) (by exact SlM.plain (by assumption) (by (simp; done))) rfl ?_; refine Zaq rfl rfl rfl (by exact SlM.plain (by assumption) (by (simp; done))) F.foff51_0 rfl ?_; refine Zay rfl rfl rfl (by assumption) (by exact rfl) F.lay3 rfl rfl rfl ?_; refine Zav ?_; refine Zl ?_; refine Zf ?_
    refine Zag 46 rfl (fun hc8 => ?_) (fun hc8 => ?_)
    ·replace hc8 := nT hc8
     simp only [AnswerV.eta, MarkV.eta, CellV.eta, HeldV.eta, WaitV.eta, ServerV.eta, PeerV.eta, OpV.eta, ParcelV.eta, PostV.eta, WorkerV.eta] at hc8
     (exfalso; simp [eqX] at hc8; done)
    ·replace hc8 := nF hc8
     simp only [AnswerV.eta, MarkV.eta, CellV.eta, HeldV.eta, WaitV.eta, ServerV.eta, PeerV.eta, OpV.eta, ParcelV.eta, PostV.eta, WorkerV.eta] at hc8
     refine Zf ?_; refine Zaa rfl rfl rfl rfl F.elem43 (by rfl) (by (simp; done)) (by exact SlM.plain (by assumption) (by (simp; done))) rfl ?_; refine Zaq rfl rfl rfl (by exact SlM.plain (by assumption) (by (simp; done))) F.foff51_1 rfl ?_; refine Zaq rfl rfl rfl (by exact SlM.plain (by assumption) (by (simp; done))) F.foff39_0 rfl ?_; refine Zay rfl rfl rfl (by assumption) (by exact rfl) F.lay3 rfl rfl rfl ?_; refine Zav ?_; refine Zl ?_; refine Zf ?_
     refine Zag 54 rfl (fun hc9 => ?_) (fun hc9 => ?_)
     ·replace hc9 := nT hc9
      (exfalso; omega)
     ·replace hc9 := nF hc9
      refine Zb F.foff26_3 ?_; refine Zi F.lay24 ?_; refine Zbb F.elem24 ?_; refine Zav ?_; refine Zl ?_; refine Ze ?_; refine Zc ?_; refine Y_pk [59, 5, 4, 2, 1, 0] ?_
      refine Zau rfl (fun hc10 => ?_) (fun hc10 => ?_)
      ·replace hc10 := nT hc10
       (exfalso; omega)
      ·replace hc10 := nF hc10
       refine Zax ?_; refine Zc ?_; refine Y_pk [5, 4, 2, 1, 0] ?_; refine Zj ?_; refine Za (l := [0, 1, 2, 3, 4, 5, 6, 7, 8, 9, 10, 11, 12, 13, 14]) rfl ?_; refine Zbv rfl rfl F.bld26 (.cons rfl (by constructor) .nil) rfl rfl ?_
       iterate 2 refine Zf ?_
       refine Zaa rfl rfl rfl rfl F.elem43 (by rfl) (by (simp; done)) (by exact SlM.plain (by assumption) (by (simp; done))) rfl ?_; refine Zaq rfl rfl rfl (by exact SlM.plain (by assumption) (by (simp; done))) F.foff51_1 rfl ?_; refine Zay rfl rfl rfl (by assumption) (by exact rfl) F.lay39 rfl rfl rfl ?_; refine X_fn rfl rfl F.ok11 rfl (Take_ok M2 ⟨2, 0, ⟨none, 0, []⟩, ⟨none, 0, []⟩, 0⟩ ⟨_, 2, sl2⟩ 2 1 ⟨x_kind, x_epoch, Zgp, ⟨x_oc, x_or, x_ok, x_ov, x_os⟩, ⟨x_ac, x_av, x_ah, x_as⟩, Zey, ⟨x_cv, x_ch, x_cs, ⟨x_ma, x_mc, x_ml⟩⟩⟩ ⟨SlK.nil, (fun y hy => by cases hy), SlK.nil, (fun y hy => by cases hy)⟩ (k_l.mono hm2) (l_x _ (.head _)).h0 (by show 0 ≤ 1000; omega)) rfl ?_
       rintro _ M3 hm3 hv
       replace hv : SrvE _ _ (srvR ⟨2, 0, [], [], 0⟩ sl2 2 1 (ParcelV.pl ⟨x_kind, x_epoch, Zgp, ⟨x_oc, x_or, x_ok, x_ov, x_os⟩, ⟨x_ac, x_av, x_ah, x_as⟩, Zey, ⟨x_cv, x_ch, x_cs, ⟨x_ma, x_mc, x_ml⟩⟩⟩)) := hv
       rw [hparx, se2] at hv
       obtain ⟨⟨b_addr, b_epoch, ⟨b_sa, b_sc, b_sl⟩, ⟨b_wa, b_wc, b_wl⟩, Zgh⟩, ⟨y_pa, y_pc, y_pl⟩, rfl, hb, hpy, ok_b, k_y, l_y⟩ := hv
       simp only at hb hpy l_y
       obtain ⟨⟨y_to, ⟨y_kind, y_epoch, y_key, ⟨y_oc, y_or, y_ok, y_ov, y_os⟩, ⟨y_ac, y_av, y_ah, y_as⟩, y_serial, ⟨y_cv, y_ch, y_cs, ⟨y_ma, y_mc, y_ml⟩⟩⟩⟩, rfl, hxy⟩ := pst_one hpy
       have s_y := k_y.h1
       simp only at s_y
       have hpary : ParcelV.pl ⟨y_kind, y_epoch, y_key, ⟨y_oc, y_or, y_ok, y_ov, y_os⟩, ⟨y_ac, y_av, y_ah, y_as⟩, y_serial, ⟨y_cv, y_ch, y_cs, ⟨y_ma, y_mc, y_ml⟩⟩⟩ = sY.parcel := congrArg Pst.parcel hxy
       have n_y : [(⟨y_to, ⟨y_kind, y_epoch, y_key, ⟨y_oc, y_or, y_ok, y_ov, y_os⟩, ⟨y_ac, y_av, y_ah, y_as⟩, y_serial, ⟨y_cv, y_ch, y_cs, ⟨y_ma, y_mc, y_ml⟩⟩⟩⟩ : PostV)].length = 1 := rfl
       obtain rfl : y_to = 1 := congrArg Pst.to hxy
       refine Zf ?_
       iterate 3 refine Zcf ?_
       refine Zby F.zero26 ?_; intro b11
       refine Zas F.lay26 ?_
       iterate 2 refine Zd ?_
       refine Ze ?_; refine Zc ?_; refine Y_pk [9, 8, 7, 4, 2, 1, 0] ?_
       iterate 2 refine Zj ?_
       refine Za (l := [0, 1, 2, 3, 4, 5, 6, 7, 8, 9, 10, 11, 12, 13]) rfl ?_; refine Zf ?_; refine Zav ?_; refine Zf ?_
       refine Zag 73 rfl (fun hc12 => ?_) (fun hc12 => ?_)
       ·replace hc12 := nT hc12
        simp only [AnswerV.eta, MarkV.eta, CellV.eta, HeldV.eta, WaitV.eta, ServerV.eta, PeerV.eta, OpV.eta, ParcelV.eta, PostV.eta, WorkerV.eta] at hc12
        (exfalso; simp [eqX] at hc12; done)
       ·replace hc12 := nF hc12
        simp only [AnswerV.eta, MarkV.eta, CellV.eta, HeldV.eta, WaitV.eta, ServerV.eta, PeerV.eta, OpV.eta, ParcelV.eta, PostV.eta, WorkerV.eta] at hc12
        refine Zf ?_; refine Zbb F.elem43 ?_; refine Zav ?_; refine Zl ?_; refine Zf ?_
        refine Zag 78 rfl (fun hc13 => ?_) (fun hc13 => ?_)
        ·replace hc13 := nT hc13
         (exfalso; omega)
        ·replace hc13 := nF hc13
         refine Zf ?_; refine Zaa rfl rfl rfl rfl F.elem43 (by rfl) (by (simp; done)) (by exact SlM.plain (by assumption) (by (simp; done))) rfl ?_; refine Zaq rfl rfl rfl (by exact SlM.plain (by assumption) (by (simp; done))) F.foff51_0 rfl ?_; refine Zay rfl rfl rfl (by assumption) (by exact rfl) F.lay3 rfl rfl rfl ?_; refine Zav ?_; refine Zl ?_; refine Ze ?_; refine Zc ?_; refine Y_pk [84, 8, 7, 4, 2, 1, 0] ?_
         refine Zau rfl (fun hc14 => ?_) (fun hc14 => ?_)
         ·replace hc14 := nT hc14
          simp only [AnswerV.eta, MarkV.eta, CellV.eta, HeldV.eta, WaitV.eta, ServerV.eta, PeerV.eta, OpV.eta, ParcelV.eta, PostV.eta, WorkerV.eta] at hc14
          (exfalso; simp [eqX] at hc14; done)
         ·replace hc14 := nF hc14
          simp only [AnswerV.eta, MarkV.eta, CellV.eta, HeldV.eta, WaitV.eta, ServerV.eta, PeerV.eta, OpV.eta, ParcelV.eta, PostV.eta, WorkerV.eta] at hc14
          refine Zax ?_; refine Zc ?_; refine Y_pk [8, 7, 4, 2, 1, 0] ?_; refine Zj ?_; refine Zar (l := [0, 1, 2, 3, 4, 5, 6, 7, 8, 9, 10, 11, 12, 13, 14]) #[0, 0, 0, 4, 12, 28, 63, 127, 255, 255, 255, 0, 2559, 7167, 16383] _ rfl (by kernel_rfl) (by kernel_rfl) St.drawn (fun _ h => h) ?_; refine Zi F.lay26 ?_
          iterate 2 refine Zf ?_
          refine Zaa rfl rfl rfl rfl F.elem43 (by rfl) (by (simp; done)) (by exact SlM.plain (by assumption) (by (simp; done))) rfl ?_; refine Zaq rfl rfl rfl (by exact SlM.plain (by assumption) (by (simp; done))) F.foff51_1 rfl ?_; refine Zay rfl rfl rfl (by assumption) (by exact rfl) F.lay39 rfl rfl rfl ?_; refine X_fn rfl rfl F.ok11 rfl (Take_ok M3 ⟨Zgs, Zgn, ⟨a_sa, a_sc, a_sl⟩, ⟨a_wa, a_wc, a_wl⟩, Zfz⟩ ⟨_, 2, sl2⟩ 2 2 ⟨y_kind, y_epoch, y_key, ⟨y_oc, y_or, y_ok, y_ov, y_os⟩, ⟨y_ac, y_av, y_ah, y_as⟩, y_serial, ⟨y_cv, y_ch, y_cs, ⟨y_ma, y_mc, y_ml⟩⟩⟩ (ok_a.mono hm3) (k_l.mono (hm2.trans hm3)) (l_y _ (.head _)).h0 (by show a_wl.length ≤ 1000; omega)) rfl ?_
          rintro _ M4 hm4 hv
          replace hv : SrvE _ _ (srvR (ServerV.pl ⟨Zgs, Zgn, ⟨a_sa, a_sc, a_sl⟩, ⟨a_wa, a_wc, a_wl⟩, Zfz⟩) sl2 2 2 (ParcelV.pl ⟨y_kind, y_epoch, y_key, ⟨y_oc, y_or, y_ok, y_ov, y_os⟩, ⟨y_ac, y_av, y_ah, y_as⟩, y_serial, ⟨y_cv, y_ch, y_cs, ⟨y_ma, y_mc, y_ml⟩⟩⟩)) := hv
          rw [hpary, ha, se3] at hv
          obtain ⟨⟨c_addr, c_epoch, ⟨c_sa, c_sc, c_sl⟩, ⟨c_wa, c_wc, c_wl⟩, c_serial⟩, ⟨z_pa, z_pc, z_pl⟩, rfl, hc, hpz, ok_c, k_z, l_z⟩ := hv
          simp only at hc hpz l_z
          obtain ⟨⟨z_to, ⟨z_kind, z_epoch, z_key, ⟨z_oc, z_or, z_ok, z_ov, z_os⟩, ⟨z_ac, z_av, z_ah, z_as⟩, z_serial, ⟨z_cv, z_ch, z_cs, ⟨z_ma, z_mc, z_ml⟩⟩⟩⟩, rfl, hxz⟩ := pst_one hpz
          have s_z := k_z.h1
          simp only at s_z
          have hparz : ParcelV.pl ⟨z_kind, z_epoch, z_key, ⟨z_oc, z_or, z_ok, z_ov, z_os⟩, ⟨z_ac, z_av, z_ah, z_as⟩, z_serial, ⟨z_cv, z_ch, z_cs, ⟨z_ma, z_mc, z_ml⟩⟩⟩ = sZ.parcel := congrArg Pst.parcel hxz
          have n_z : [(⟨z_to, ⟨z_kind, z_epoch, z_key, ⟨z_oc, z_or, z_ok, z_ov, z_os⟩, ⟨z_ac, z_av, z_ah, z_as⟩, z_serial, ⟨z_cv, z_ch, z_cs, ⟨z_ma, z_mc, z_ml⟩⟩⟩⟩ : PostV)].length = 1 := rfl
          obtain rfl : z_to = 1003 := congrArg Pst.to hxz
          obtain ⟨rfl, rfl, rfl, rfl⟩ : z_ac = 0 ∧ z_av = 1 ∧ z_ah = true ∧ z_as = ⟨#[]⟩ := by
           have h9 := congrArg (fun p : Pst => p.parcel.answer) hxz
           replace h9 : (⟨z_ac, z_av, z_ah, z_as⟩ : AnswerV) = ⟨0, 1, true, ⟨#[]⟩⟩ := h9
           simpa only [AnswerV.mk.injEq] using h9
          have hcwl : c_wl.length = 0 := by rw [← Zcs]; exact congrArg (fun s : Srv => s.waits.length) hc
          refine Zf ?_
          iterate 3 refine Zcf ?_
          refine Zby F.zero26 ?_; intro b15
          refine Zas F.lay26 ?_
          iterate 2 refine Zd ?_
          refine Ze ?_; refine Zc ?_; refine Y_pk [12, 11, 10, 7, 2, 0] ?_; refine Zj ?_; refine Za (l := [0, 1, 2, 3, 4, 5, 6, 7, 8, 9]) rfl ?_; refine Zb F.foff26_2 ?_; refine Zi F.lay23 ?_; refine Zi F.lay29 ?_; refine X_fs rfl rfl F.ok19 rfl (Find_ok _ ⟨b_sa, b_sc, b_sl⟩ 5#160 (ok_b.h0.mono hm4) (fun h hh => (ok_b.h1 h hh).mono hm4)) rfl ?_
          rintro _ hv
          obtain ⟨⟨⟨e_v, e_h, e_s, ⟨e_a, e_c, e_l⟩⟩, eb⟩, he⟩ : ∃ r, findX b_sl 5#160 = r := ⟨_, rfl⟩
          replace hv : _ = findXv (findX b_sl 5#160) := hv
          rw [he] at hv
          subst hv
          have hpl := findX_pl b_sl 5#160
          rw [he, show pls b_sl = sB.store from congrArg Srv.store hb, se4] at hpl
          obtain rfl : eb = true := congrArg Prod.snd hpl
          obtain rfl : e_s = ⟨#[97]⟩ := congrArg (fun x : Cel × Bool => x.1.val) hpl
          refine Zf ?_
          iterate 2 refine Zcf ?_
          refine Zby F.zero37 ?_; intro b16
          refine Zas F.lay37 ?_; refine Zd ?_; refine Ze ?_; refine Zc ?_; refine Y_pk [14, 13, 12, 11, 10, 0] ?_; refine Zj ?_; refine Za (l := [0, 1, 2, 3, 4, 5, 6, 7, 8, 9, 10, 11, 12, 13, 14, 15, 16, 17, 18, 19, 20, 21, 22, 23, 24, 25, 26, 27, 28, 29, 30, 31, 32, 33, 34, 35, 36, 37, 38, 39, 40, 41]) rfl ?_; refine Zf ?_; refine Zav ?_; refine Zf ?_
          refine Zag 105 rfl (fun hc17 => ?_) (fun hc17 => ?_)
          ·replace hc17 := dT hc17
           simp only [AnswerV.eta, MarkV.eta, CellV.eta, HeldV.eta, WaitV.eta, ServerV.eta, PeerV.eta, OpV.eta, ParcelV.eta, PostV.eta, WorkerV.eta] at hc17
           refine Zf ?_; refine Zbb F.elem43 ?_; refine Zav ?_; refine Zl ?_; refine Zf ?_
           refine Zag 110 rfl (fun hc18 => ?_) (fun hc18 => ?_)
           ·replace hc18 := dT hc18
            refine Zf ?_; refine Zaa rfl rfl rfl rfl F.elem43 (by rfl) (by (simp; done)) (by exact SlM.plain (by assumption) (by (simp; done))) rfl ?_; refine Zaq rfl rfl rfl (by exact SlM.plain (by assumption) (by (simp; done))) F.foff51_0 rfl ?_; refine Zay rfl rfl rfl (by assumption) (by exact rfl) F.lay3 rfl rfl rfl ?_; refine Zav ?_; refine Zl ?_; refine Zf ?_
            refine Zag 117 rfl (fun hc19 => ?_) (fun hc19 => ?_)
            ·replace hc19 := dT hc19
             simp only [AnswerV.eta, MarkV.eta, CellV.eta, HeldV.eta, WaitV.eta, ServerV.eta, PeerV.eta, OpV.eta, ParcelV.eta, PostV.eta, WorkerV.eta] at hc19
             refine Zf ?_; refine Zaa rfl rfl rfl rfl F.elem43 (by rfl) (by (simp; done)) (by exact SlM.plain (by assumption) (by (simp; done))) rfl ?_; refine Zaq rfl rfl rfl (by exact SlM.plain (by assumption) (by (simp; done))) F.foff51_1 rfl ?_; refine Zaq rfl rfl rfl (by exact SlM.plain (by assumption) (by (simp; done))) F.foff39_4 rfl ?_; refine Zay rfl rfl rfl (by assumption) (by exact rfl) F.lay34 rfl rfl rfl ?_; refine Zbv rfl rfl F.bld34 (.cons rfl (by constructor) (.cons rfl (by constructor) .nil)) rfl rfl ?_
             refine Zfx (m := 20) rfl rfl rfl rfl rfl (by constructor) (by constructor) F.lay34 F.kinds34 rfl F.guard34 (by exact FitAnswerV (⟨_, _, _, _⟩)) (by exact FitAnswerV (⟨_, _, _, _⟩)) rfl rfl rfl ?_; intro c20 he21
             replace he21 : c20 = true ↔ Segs.cells _ = Segs.cells _ := he21
             obtain rfl := eqD he21 (AnswerV.inj (x := ⟨_, _, _, _⟩) (y := ⟨_, _, _, _⟩)); clear he21
             refine Zl ?_; refine Zf ?_
             refine Zag 126 rfl (fun hc22 => ?_) (fun hc22 => ?_)
             ·replace hc22 := dT hc22
              simp only [AnswerV.eta, MarkV.eta, CellV.eta, HeldV.eta, WaitV.eta, ServerV.eta, PeerV.eta, OpV.eta, ParcelV.eta, PostV.eta, WorkerV.eta] at hc22
              refine Zb F.foff26_3 ?_; refine Zi F.lay24 ?_; refine Zbb F.elem24 ?_; refine Zav ?_; refine Zl ?_; refine Zf ?_
              refine Zag 132 rfl (fun hc23 => ?_) (fun hc23 => ?_)
              ·replace hc23 := dT hc23
               refine Zf ?_; refine Zl ?_; refine Zf ?_
               refine Zag 135 rfl (fun hc24 => ?_) (fun hc24 => ?_)
               ·skip
                simp only [AnswerV.eta, MarkV.eta, CellV.eta, HeldV.eta, WaitV.eta, ServerV.eta, PeerV.eta, OpV.eta, ParcelV.eta, PostV.eta, WorkerV.eta] at hc24
                refine Zb F.foff37_2 ?_; refine Zi F.lay9 ?_; refine Zgu ?_; refine Zl ?_; refine Zf ?_
                refine Zag 140 rfl (fun hc25 => ?_) (fun hc25 => ?_)
                ·replace hc25 := dT hc25
                 simp only [AnswerV.eta, MarkV.eta, CellV.eta, HeldV.eta, WaitV.eta, ServerV.eta, PeerV.eta, OpV.eta, ParcelV.eta, PostV.eta, WorkerV.eta] at hc25
                 refine Zi F.lay26 ?_; refine X_fs rfl rfl F.ok14 rfl (SIs_ok _ ⟨c_addr, c_epoch, ⟨c_sa, c_sc, c_sl⟩, ⟨c_wa, c_wc, c_wl⟩, c_serial⟩ ok_c) rfl ?_
                 rintro _ hv
                 rw [hc, decide_eq_true se5] at hv
                 subst hv
                 refine Zl ?_; refine Zd ?_; refine Ze ?_; refine Zc ?_; refine Y_pk [0] ?_; refine Zak ?_
                 refine Zaj (.inr rfl) (.tmp rfl .nil) (fun w hw => ?_)
                 refine ⟨_, _, rfl, hm1.trans (hm2.trans (hm3.trans hm4)), hw.c, ?_⟩
                 clear hw
                 rfl
                ·replace hc25 := dF hc25
                 simp only [AnswerV.eta, MarkV.eta, CellV.eta, HeldV.eta, WaitV.eta, ServerV.eta, PeerV.eta, OpV.eta, ParcelV.eta, PostV.eta, WorkerV.eta] at hc25
                 (exfalso; simp [eqX] at hc25; done)
               ·skip
                simp only [AnswerV.eta, MarkV.eta, CellV.eta, HeldV.eta, WaitV.eta, ServerV.eta, PeerV.eta, OpV.eta, ParcelV.eta, PostV.eta, WorkerV.eta] at hc24
                (exfalso; simp [eqX] at hc24; done)
              ·replace hc23 := dF hc23
               (exfalso; omega)
             ·replace hc22 := dF hc22
              simp only [AnswerV.eta, MarkV.eta, CellV.eta, HeldV.eta, WaitV.eta, ServerV.eta, PeerV.eta, OpV.eta, ParcelV.eta, PostV.eta, WorkerV.eta] at hc22
              (exfalso; simp [eqX] at hc22; done)
            ·replace hc19 := dF hc19
             simp only [AnswerV.eta, MarkV.eta, CellV.eta, HeldV.eta, WaitV.eta, ServerV.eta, PeerV.eta, OpV.eta, ParcelV.eta, PostV.eta, WorkerV.eta] at hc19
             (exfalso; simp [eqX] at hc19; done)
           ·replace hc18 := dF hc18
            (exfalso; omega)
          ·replace hc17 := dF hc17
           simp only [AnswerV.eta, MarkV.eta, CellV.eta, HeldV.eta, WaitV.eta, ServerV.eta, PeerV.eta, OpV.eta, ParcelV.eta, PostV.eta, WorkerV.eta] at hc17
           (exfalso; simp [eqX] at hc17; done)
end Go.Proofs.YtpkeilhilpogiaaGreat
namespace Go.Esp
theorem small_of_pl {a b : ServerV} (h : a.pl = b.pl) (hb : b.store.l.length ≤ 5000 ∧ b.waits.l.length ≤ 1000 ∧ ∀ w ∈ b.waits.l, w.need.l.length ≤ 1000) : a.store.l.length ≤ 5000 ∧ a.waits.l.length ≤ 1000 ∧ ∀ w ∈ a.waits.l, w.need.l.length ≤ 1000 := by
  have h1 : pls a.store.l = pls b.store.l := congrArg Srv.store h
  have h2 : wtl a.waits.l = wtl b.waits.l := congrArg Srv.waits h
  refine ⟨?_, ?_, fun w hw => ?_⟩
  · rw [← Zdm, h1, Zdm]; exact hb.1
  · rw [← Zcs, h2, Zcs]; exact hb.2.1
  · have h3 : w.pl ∈ wtl b.waits.l := by rw [← h2]; exact List.mem_map_of_mem hw
    obtain ⟨y, hy, e⟩ := List.mem_map.1 h3
    have h4 := hb.2.2 y hy
    have h5 : y.need.l = w.need.l := congrArg Wt.need e
    rw [← h5]; exact h4
end Go.Esp
namespace Go.Proofs.YtpkeilhilpogiaaGreat
open Go.Esp
theorem F.ok13 : okFn Tryz.prog 13 = true := by kernel_rfl
theorem F.ok16 : okFn Tryz.prog 16 = true := by kernel_rfl
theorem F.ok8 : okFn Tryz.prog 8 = true := by kernel_rfl
theorem F.ok9 : okFn Tryz.prog 9 = true := by kernel_rfl
end Go.Proofs.YtpkeilhilpogiaaGreat
namespace Go.Proofs.YtpkeilhilpogiaaGreat
open Go.Esp
theorem F.ok17 : okFn Tryz.prog 17 = true := by kernel_rfl
end Go.Proofs.YtpkeilhilpogiaaGreat
namespace Go.Proofs.YtpkeilhilpogiaaGreat
open Go.Esp
end Go.Proofs.YtpkeilhilpogiaaGreat
namespace Go.Esp
structure AnsI (a : Srv) (W0 : List Wt) (w : Wt) (to : List Int) (T : List Bool) (left : Nat) : Prop where
  len : T.length = to.length
  need : ∃ q : Int → Bool, (∀ j (h : j < to.length) (h2 : j < T.length), q to[j] = !T[j]) ∧ (to.filter q).length = left ∧ (if left = 0 then a.waits = W0 else a.waits = waitR W0 { w with need := to.filter q })
def oneB (b : Bool) : Segs := [.one (.bool b)]
end Go.Esp
namespace Go.Proofs.YtpkeilhilpogiaaGreat
open Go.Esp
end Go.Proofs.YtpkeilhilpogiaaGreat
namespace Go.Proofs.YtpkeilhilpogiaaGreat
open Go.Esp
theorem F.ok10 : okFn Tryz.prog 10 = true := by kernel_rfl
theorem F.ok15 : okFn Tryz.prog 15 = true := by kernel_rfl
theorem F.ok29 : okFn Tryz.prog 29 = true := by kernel_rfl
theorem F.ok30 : okFn Tryz.prog 30 = true := by kernel_rfl
theorem F.ok32 : okFn Tryz.prog 32 = true := by kernel_rfl
theorem F.ok34 : okFn Tryz.prog 34 = true := by kernel_rfl
theorem rTake_ok (M : Mem) (s : ServerV) (l : (Sl PeerV)) (r : Int) (frm : Int) (p : ParcelV) (hs0 : ServerV.ok M s) (hl1 : SlK M PeerV.segs 21 l) (hp2 : ParcelV.ok M p) (hb : s.store.l.length ≤ 5000 ∧ s.waits.l.length ≤ 1000 ∧ ∀ w ∈ s.waits.l, w.need.l.length ≤ 1000) : Esp.Fn Tryz.prog 12 [s.enc, Sl.val l, .int .i64 r, .int .i64 frm, p.enc] M (fun M' v => SrvE M' v (srvR s.pl l.l r frm p.pl)) := by
  obtain ⟨Zaf, Zx, ⟨Zr, Zq, Zh⟩, ⟨Zp, Zo, Zg⟩, Zw⟩ := s
  obtain ⟨l_a, l_c, l_l⟩ := l
  obtain ⟨Zbx, Zbm, Zbr, ⟨Zv, Zao, Zap, Zy, Zbc⟩, ⟨Zab, Zt, Zae, Zad⟩, Zbd, ⟨Zs, Zai, Zah, ⟨Zn, Zm, Zk⟩⟩⟩ := p
  have Zbw : SlK M HeldV.segs 24 ⟨Zr, Zq, Zh⟩ := hs0.h0
  have Zfr : SlM M Zr (Zh.map HeldV.segs) 24 := Zbw.h1
  have n_s_store : (Zh.map HeldV.segs).length = Zh.length := List.length_map ..
  have m_s_store : Zh.length ≤ 9223372036854775807 := Zbw.h2
  have c_s_store : Zh.length ≤ Zq := Zbw.h3
  have Zdq : ∀ y ∈ Zh, HeldV.ok M y := hs0.h1
  have Zbz : SlK M WaitV.segs 28 ⟨Zp, Zo, Zg⟩ := hs0.h2
  have Zfn : SlM M Zp (Zg.map WaitV.segs) 28 := Zbz.h1
  have n_s_waits : (Zg.map WaitV.segs).length = Zg.length := List.length_map ..
  have m_s_waits : Zg.length ≤ 9223372036854775807 := Zbz.h2
  have c_s_waits : Zg.length ≤ Zo := Zbz.h3
  have Zdp : ∀ y ∈ Zg, WaitV.ok M y := hs0.h3
  have k_l : SlK M PeerV.segs 21 ⟨l_a, l_c, l_l⟩ := hl1
  have s_l : SlM M l_a (l_l.map PeerV.segs) 21 := k_l.h1
  have n_l : (l_l.map PeerV.segs).length = l_l.length := List.length_map ..
  have m_l : l_l.length ≤ 9223372036854775807 := k_l.h2
  have c_l : l_l.length ≤ l_c := k_l.h3
  have k_p_cell : CellV.ok M ⟨Zs, Zai, Zah, ⟨Zn, Zm, Zk⟩⟩ := hp2.h0
  have Zbu : SlK M MarkV.segs 6 ⟨Zn, Zm, Zk⟩ := hp2.h0.h0
  have s_p_cell_marks : SlM M Zn (Zk.map MarkV.segs) 6 := Zbu.h1
  have n_p_cell_marks : (Zk.map MarkV.segs).length = Zk.length := List.length_map ..
  have m_p_cell_marks : Zk.length ≤ 9223372036854775807 := Zbu.h2
  have c_p_cell_marks : Zk.length ≤ Zm := Zbu.h3
  simp only at hb
  show Esp.Fn _ _ _ _ (fun M' v => SrvE M' v (srvR (ServerV.pl ⟨Zaf, Zx, ⟨Zr, Zq, Zh⟩, ⟨Zp, Zo, Zg⟩, Zw⟩) l_l r frm (ParcelV.pl ⟨Zbx, Zbm, Zbr, ⟨Zv, Zao, Zap, Zy, Zbc⟩, ⟨Zab, Zt, Zae, Zad⟩, Zbd, ⟨Zs, Zai, Zah, ⟨Zn, Zm, Zk⟩⟩⟩)))
  refine Zek Tryz.func12 rfl Tryz.ntmps12 rfl ?_; intro H
  refine Zj ?_; refine Za (l := [0, 1, 2, 3, 4]) rfl ?_
  refine Zcz ?_; intro b1
  refine Zcz ?_; intro b2
  refine Zby F.zero26 ?_; intro b3
  iterate 2 refine Zd ?_
  refine Ze ?_; refine Zc ?_; refine Y_pk [12, 11, 10, 9, 5, 1, 2, 3] ?_
  iterate 2 refine Zj ?_
  refine Za (l := [0, 1, 2, 3, 4, 5, 6, 7, 8, 9, 10, 11, 12, 13, 14, 15, 16, 17, 18, 19, 20]) rfl ?_; refine Zi F.lay26 ?_; refine X_fs rfl rfl F.ok15 rfl (rSIs_ok _ ⟨Zaf, Zx, ⟨Zr, Zq, Zh⟩, ⟨Zp, Zo, Zg⟩, Zw⟩ hs0) rfl ?_
  rintro _ rfl
  refine Zel ?_; refine Zf ?_
  refine Zag 28 rfl (fun hc4 => ?_) (fun hc4 => ?_)
  ·replace hc4 := nT hc4
   iterate 3 refine Zz ?_
   refine Zl ?_; refine Zf ?_
   iterate 2 refine Zz ?_
   refine Zl ?_; refine Zf ?_
   iterate 2 refine Zz ?_
   refine Zl ?_; refine Zf ?_
   iterate 3 refine Zz ?_
   refine Zl ?_; refine Ze ?_; refine Zc ?_; refine Y_pk [45, 12, 11, 10, 9, 5, 1, 2, 3] ?_; refine Zcy rfl ?_; refine Zj ?_; refine Za (l := [0, 1, 2, 3]) rfl ?_; refine Zbv rfl rfl F.bld26 (.nil) rfl rfl ?_; refine Zas F.lay26 ?_
   iterate 2 refine Zd ?_
   refine Ze ?_; refine Zc ?_; refine Y_pk [12, 11, 10, 9, 5, 1, 2, 3] ?_; refine Zak ?_; refine Zba ?_
   refine Zaj (.inr rfl) (.cell rfl (by repeat first | exact List.Mem.head _ | refine List.Mem.tail _ ?_ | refine List.mem_append_right _ ?_) F.lay26 rfl rfl (.tmp rfl (.tmp rfl .nil))) (fun w hw => ?_)
   refine ⟨_, M, rfl, Mem.le.refl M, hw.c, ?_⟩
   rw [srvR_no (by rintro ⟨g1, g2, g3, g4⟩; first | contradiction | omega)]
   exact ⟨ServerV.zero, ⟨none, 0, []⟩, rfl, rfl, rfl, ServerV.zero_ok M, SlK.nil, fun y hy => by cases hy⟩
  ·replace hc4 := nF hc4
   refine Zf ?_; refine X_fs rfl rfl F.ok28 rfl (rCirc_ok _ ⟨_, _, _⟩ (by assumption)) rfl ?_
   rintro _ rfl
   refine Zel ?_; refine Zl ?_; refine Zf ?_
   refine Zag 33 rfl (fun hc5 => ?_) (fun hc5 => ?_)
   ·replace hc5 := nT hc5
    simp only [AnswerV.eta, MarkV.eta, CellV.eta, HeldV.eta, WaitV.eta, ServerV.eta, PeerV.eta, OpV.eta, ParcelV.eta, PostV.eta, WorkerV.eta] at hc5
    iterate 2 refine Zz ?_
    refine Zl ?_; refine Zf ?_
    iterate 2 refine Zz ?_
    refine Zl ?_; refine Zf ?_
    iterate 3 refine Zz ?_
    refine Zl ?_; refine Ze ?_; refine Zc ?_; refine Y_pk [45, 12, 11, 10, 9, 5, 1, 2, 3] ?_; refine Zcy rfl ?_; refine Zj ?_; refine Za (l := [0, 1, 2, 3]) rfl ?_; refine Zbv rfl rfl F.bld26 (.nil) rfl rfl ?_; refine Zas F.lay26 ?_
    iterate 2 refine Zd ?_
    refine Ze ?_; refine Zc ?_; refine Y_pk [12, 11, 10, 9, 5, 1, 2, 3] ?_; refine Zak ?_; refine Zba ?_
    refine Zaj (.inr rfl) (.cell rfl (by repeat first | exact List.Mem.head _ | refine List.Mem.tail _ ?_ | refine List.mem_append_right _ ?_) F.lay26 rfl rfl (.tmp rfl (.tmp rfl .nil))) (fun w hw => ?_)
    refine ⟨_, M, rfl, Mem.le.refl M, hw.c, ?_⟩
    rw [srvR_no (by rintro ⟨g1, g2, g3, g4⟩; first | contradiction | omega)]
    exact ⟨ServerV.zero, ⟨none, 0, []⟩, rfl, rfl, rfl, ServerV.zero_ok M, SlK.nil, fun y hy => by cases hy⟩
   ·replace hc5 := nF hc5
    simp only [AnswerV.eta, MarkV.eta, CellV.eta, HeldV.eta, WaitV.eta, ServerV.eta, PeerV.eta, OpV.eta, ParcelV.eta, PostV.eta, WorkerV.eta] at hc5
    refine Zf ?_; refine Zav ?_; refine Zl ?_; refine Zf ?_
    refine Zag 37 rfl (fun hc6 => ?_) (fun hc6 => ?_)
    ·replace hc6 := dT hc6
     iterate 2 refine Zz ?_
     refine Zl ?_; refine Zf ?_
     iterate 3 refine Zz ?_
     refine Zl ?_; refine Ze ?_; refine Zc ?_; refine Y_pk [45, 12, 11, 10, 9, 5, 1, 2, 3] ?_; refine Zcy rfl ?_; refine Zj ?_; refine Za (l := [0, 1, 2, 3]) rfl ?_; refine Zbv rfl rfl F.bld26 (.nil) rfl rfl ?_; refine Zas F.lay26 ?_
     iterate 2 refine Zd ?_
     refine Ze ?_; refine Zc ?_; refine Y_pk [12, 11, 10, 9, 5, 1, 2, 3] ?_; refine Zak ?_; refine Zba ?_
     refine Zaj (.inr rfl) (.cell rfl (by repeat first | exact List.Mem.head _ | refine List.Mem.tail _ ?_ | refine List.mem_append_right _ ?_) F.lay26 rfl rfl (.tmp rfl (.tmp rfl .nil))) (fun w hw => ?_)
     refine ⟨_, M, rfl, Mem.le.refl M, hw.c, ?_⟩
     rw [srvR_no (by rintro ⟨g1, g2, g3, g4⟩; first | contradiction | omega)]
     exact ⟨ServerV.zero, ⟨none, 0, []⟩, rfl, rfl, rfl, ServerV.zero_ok M, SlK.nil, fun y hy => by cases hy⟩
    ·replace hc6 := dF hc6
     refine Zf ?_; refine Zav ?_; refine Zl ?_; refine Zf ?_
     refine Zag 41 rfl (fun hc7 => ?_) (fun hc7 => ?_)
     ·replace hc7 := dT hc7
      iterate 3 refine Zz ?_
      refine Zl ?_; refine Ze ?_; refine Zc ?_; refine Y_pk [45, 12, 11, 10, 9, 5, 1, 2, 3] ?_; refine Zcy rfl ?_; refine Zj ?_; refine Za (l := [0, 1, 2, 3]) rfl ?_; refine Zbv rfl rfl F.bld26 (.nil) rfl rfl ?_; refine Zas F.lay26 ?_
      iterate 2 refine Zd ?_
      refine Ze ?_; refine Zc ?_; refine Y_pk [12, 11, 10, 9, 5, 1, 2, 3] ?_; refine Zak ?_; refine Zba ?_
      refine Zaj (.inr rfl) (.cell rfl (by repeat first | exact List.Mem.head _ | refine List.Mem.tail _ ?_ | refine List.mem_append_right _ ?_) F.lay26 rfl rfl (.tmp rfl (.tmp rfl .nil))) (fun w hw => ?_)
      refine ⟨_, M, rfl, Mem.le.refl M, hw.c, ?_⟩
      rw [srvR_no (by rintro ⟨g1, g2, g3, g4⟩; first | contradiction | omega)]
      exact ⟨ServerV.zero, ⟨none, 0, []⟩, rfl, rfl, rfl, ServerV.zero_ok M, SlK.nil, fun y hy => by cases hy⟩
     ·replace hc7 := dF hc7
      refine Zi F.lay39 ?_; refine X_fs rfl rfl F.ok29 rfl (rpIs_ok _ ⟨_, _, _, ⟨_, _, _, _, _⟩, ⟨_, _, _, _⟩, _, ⟨_, _, _, ⟨_, _, _⟩⟩⟩ (by assumption)) rfl ?_
      rintro _ rfl
      refine Zel ?_; refine Zl ?_; refine Ze ?_; refine Zc ?_; refine Y_pk [45, 12, 11, 10, 9, 5, 1, 2, 3] ?_
      refine Zau rfl (fun hc8 => ?_) (fun hc8 => ?_)
      ·replace hc8 := nT hc8
       refine Zj ?_; refine Za (l := [0, 1, 2, 3]) rfl ?_; refine Zbv rfl rfl F.bld26 (.nil) rfl rfl ?_; refine Zas F.lay26 ?_
       iterate 2 refine Zd ?_
       refine Ze ?_; refine Zc ?_; refine Y_pk [12, 11, 10, 9, 5, 1, 2, 3] ?_; refine Zak ?_; refine Zba ?_
       refine Zaj (.inr rfl) (.cell rfl (by repeat first | exact List.Mem.head _ | refine List.Mem.tail _ ?_ | refine List.mem_append_right _ ?_) F.lay26 rfl rfl (.tmp rfl (.tmp rfl .nil))) (fun w hw => ?_)
       refine ⟨_, M, rfl, Mem.le.refl M, hw.c, ?_⟩
       rw [srvR_no (by rintro ⟨g1, g2, g3, g4⟩; first | contradiction | omega)]
       exact ⟨ServerV.zero, ⟨none, 0, []⟩, rfl, rfl, rfl, ServerV.zero_ok M, SlK.nil, fun y hy => by cases hy⟩
      ·replace hc8 := nF hc8
       refine Zax ?_; refine Zc ?_; refine Y_pk [12, 11, 10, 9, 5, 1, 2, 3] ?_; refine Zj ?_
       have hA : TakeOk (ServerV.pl ⟨Zaf, Zx, ⟨Zr, Zq, Zh⟩, ⟨Zp, Zo, Zg⟩, Zw⟩) l_l r (ParcelV.pl ⟨Zbx, Zbm, Zbr, ⟨Zv, Zao, Zap, Zy, Zbc⟩, ⟨Zab, Zt, Zae, Zad⟩, Zbd, ⟨Zs, Zai, Zah, ⟨Zn, Zm, Zk⟩⟩⟩) := ⟨by assumption, by assumption, ⟨by omega, by omega⟩, by assumption⟩
       refine Za (l := [0, 1, 2, 3]) rfl ?_; refine Zi F.lay26 ?_; refine X_fn rfl rfl F.ok10 rfl (rOwn_ok _ ⟨Zaf, Zx, ⟨Zr, Zq, Zh⟩, ⟨Zp, Zo, Zg⟩, Zw⟩ hs0 hb) rfl ?_
       rintro _ M1 hm1 ⟨⟨Zeg, Zcv, ⟨Zcq, Zcp, Zca⟩, ⟨Zcu, Zct, Zce⟩, Zcx⟩, rfl, hos, oko⟩
       rw [← hos] at hA
       have k_o_store := oko.h0
       have l_o_store := oko.h1
       have k_o_waits := oko.h2
       have l_o_waits := oko.h3
       have hob : Zce.length ≤ 1000 := by have h9 := congrArg (fun x : Srv => x.waits.length) hos; simp only [ServerV.pl, Zcs] at h9; omega
       refine Zby F.zero26 ?_; intro b9
       refine Zas F.lay26 ?_; refine Ze ?_; refine Zc ?_; refine Y_pk [13, 12, 11, 10, 9, 1, 2, 3] ?_
       iterate 2 refine Zj ?_
       refine Za (l := [0, 1, 2, 3, 4]) rfl ?_; refine Zb F.foff39_1 ?_; refine Zi F.lay22 ?_; refine Zb F.foff26_1 ?_; refine Zi F.lay22 ?_; refine Zav ?_; refine Ze ?_; refine Zc ?_; refine Y_pk [53, 13, 12, 11, 10, 9, 1, 2, 3] ?_
       refine Zau rfl (fun hc10 => ?_) (fun hc10 => ?_)
       ·replace hc10 := nT hc10
        refine Zj ?_; refine Za (l := [0, 1, 2, 3]) rfl ?_; refine Zi F.lay26 ?_; refine Zas F.lay26 ?_
        iterate 2 refine Zd ?_
        refine Ze ?_; refine Zc ?_; refine Y_pk [12, 11, 13, 10, 9, 1, 2, 3] ?_; refine Zak ?_; refine Zba ?_
        refine Zaj (.inr rfl) (.cell rfl (by repeat first | exact List.Mem.head _ | refine List.Mem.tail _ ?_ | refine List.mem_append_right _ ?_) F.lay26 rfl rfl (.tmp rfl (.tmp rfl .nil))) (fun w hw => ?_)
        refine ⟨_, M1, rfl, hm1, hw.c, ?_⟩
        clear hw
        rw [← hos]
        rw [srvR_ep (s := ServerV.pl ⟨Zeg, Zcv, ⟨Zcq, Zcp, Zca⟩, ⟨Zcu, Zct, Zce⟩, Zcx⟩) (l := l_l) (r := r) (f := frm) (p := ParcelV.pl ⟨Zbx, Zbm, Zbr, ⟨Zv, Zao, Zap, Zy, Zbc⟩, ⟨Zab, Zt, Zae, Zad⟩, Zbd, ⟨Zs, Zai, Zah, ⟨Zn, Zm, Zk⟩⟩⟩) hA (by show Zbm ≠ Zcv; omega)]
        exact ⟨⟨Zeg, Zcv, ⟨Zcq, Zcp, Zca⟩, ⟨Zcu, Zct, Zce⟩, Zcx⟩, ⟨none, 0, []⟩, rfl, rfl, rfl, oko.mono (Mem.le.refl M1), SlK.nil, fun y hy => by cases hy⟩
       ·replace hc10 := nF hc10
        refine Zax ?_; refine Zc ?_; refine Y_pk [13, 12, 11, 10, 9, 1, 2, 3] ?_
        iterate 2 refine Zj ?_
        refine Za (l := [0, 1]) rfl ?_; refine Zb F.foff39_0 ?_; refine Zi F.lay3 ?_; refine Ze ?_; refine Zc ?_; refine Y_pk [56, 13, 12, 11, 10, 9, 1, 2, 3] ?_; refine Zbe ?_; refine Zj ?_; refine Za (l := [0, 1]) rfl ?_; refine Zav ?_; refine Zd ?_; refine Ze ?_; refine Zc ?_; refine Y_pk [57, 56, 13, 12, 11, 10, 9, 1, 2, 3] ?_
        refine Zau rfl (fun hc11 => ?_) (fun hc11 => ?_)
        ·replace hc11 := dT hc11
         refine Zj ?_; refine Za (l := [0, 1, 2, 3, 4, 5, 6, 7, 8, 9, 10]) rfl ?_; refine Zi F.lay26 ?_
         iterate 2 refine Zf ?_
         refine Zi F.lay39 ?_; refine X_fn rfl rfl F.ok30 rfl (rrequest_ok _ ⟨Zeg, Zcv, ⟨Zcq, Zcp, Zca⟩, ⟨Zcu, Zct, Zce⟩, Zcx⟩ ⟨l_a, l_c, l_l⟩ r ⟨Zbx, Zbm, Zbr, ⟨Zv, Zao, Zap, Zy, Zbc⟩, ⟨Zab, Zt, Zae, Zad⟩, Zbd, ⟨Zs, Zai, Zah, ⟨Zn, Zm, Zk⟩⟩⟩ oko (k_l.mono hm1) (hp2.mono hm1) hA.1 hA.2.1 hA.2.2.1 (prc_op hA.2.2.2 (by assumption)) hob) rfl ?_
         rintro _ M2 hm2 hv
         replace hv : RqE _ _ (requestR (ServerV.pl ⟨Zeg, Zcv, ⟨Zcq, Zcp, Zca⟩, ⟨Zcu, Zct, Zce⟩, Zcx⟩) l_l r (ParcelV.pl ⟨Zbx, Zbm, Zbr, ⟨Zv, Zao, Zap, Zy, Zbc⟩, ⟨Zab, Zt, Zae, Zad⟩, Zbd, ⟨Zs, Zai, Zah, ⟨Zn, Zm, Zk⟩⟩⟩)) := hv
         obtain ⟨⟨R1, R2⟩, hR⟩ : ∃ x, requestR (ServerV.pl ⟨Zeg, Zcv, ⟨Zcq, Zcp, Zca⟩, ⟨Zcu, Zct, Zce⟩, Zcx⟩) l_l r (ParcelV.pl ⟨Zbx, Zbm, Zbr, ⟨Zv, Zao, Zap, Zy, Zbc⟩, ⟨Zab, Zt, Zae, Zad⟩, Zbd, ⟨Zs, Zai, Zah, ⟨Zn, Zm, Zk⟩⟩⟩) = x := ⟨_, rfl⟩
         rw [hR] at hv
         obtain ⟨⟨u_addr, u_epoch, ⟨u_sa, u_sc, u_sl⟩, ⟨u_wa, u_wc, u_wl⟩, u_serial⟩, ⟨z_a, z_c, z_l⟩, rfl, hu, hz, ok_u, k_z, o_z⟩ := hv
         refine Zf ?_
         iterate 2 refine Zcf ?_
         refine Zby F.zero26 ?_; intro b12
         refine Zas F.lay26 ?_; refine Zd ?_; refine Ze ?_; refine Zc ?_; refine Y_pk [15, 14, 13, 12, 11, 10] ?_; refine Zj ?_; refine Za (l := [0, 1, 2, 3, 4]) rfl ?_; refine Zi F.lay26 ?_; refine Zf ?_; refine Zas F.lay26 ?_
         iterate 2 refine Zd ?_
         refine Ze ?_; refine Zc ?_; refine Y_pk [12, 11, 13, 10] ?_; refine Zak ?_; refine Zbj ?_; refine Zba ?_
         refine Zaj (.inr rfl) (.cell rfl (by repeat first | exact List.Mem.head _ | refine List.Mem.tail _ ?_ | refine List.mem_append_right _ ?_) F.lay26 rfl rfl (.tmp rfl (.tmp rfl .nil))) (fun w hw => ?_)
         refine ⟨_, M2, rfl, hm1.trans hm2, hw.c, ?_⟩
         clear hw
         rw [← hos]
         rw [srvR_req (s := ServerV.pl ⟨Zeg, Zcv, ⟨Zcq, Zcp, Zca⟩, ⟨Zcu, Zct, Zce⟩, Zcx⟩) (l := l_l) (r := r) (f := frm) (p := ParcelV.pl ⟨Zbx, Zbm, Zbr, ⟨Zv, Zao, Zap, Zy, Zbc⟩, ⟨Zab, Zt, Zae, Zad⟩, Zbd, ⟨Zs, Zai, Zah, ⟨Zn, Zm, Zk⟩⟩⟩) hA (by show Zbm = Zcv; omega) (by show Zbx = 1; omega), hR]
         exact ⟨⟨u_addr, u_epoch, ⟨u_sa, u_sc, u_sl⟩, ⟨u_wa, u_wc, u_wl⟩, u_serial⟩, ⟨z_a, z_c, z_l⟩, rfl, hu, hz, ok_u, k_z, o_z⟩
        ·replace hc11 := dF hc11
         refine Zj ?_; refine Za (l := [0, 1]) rfl ?_; refine Zav ?_; refine Zd ?_; refine Ze ?_; refine Zc ?_; refine Y_pk [69, 56, 13, 12, 11, 10, 9, 3] ?_
         refine Zau rfl (fun hc13 => ?_) (fun hc13 => ?_)
         ·replace hc13 := dT hc13
          refine Zj ?_; refine Za (l := [0, 1, 2, 3, 4, 5, 6, 7, 8, 9, 10]) rfl ?_; refine Zb F.foff26_2 ?_; refine Zi F.lay23 ?_; refine Zb F.foff39_2 ?_; refine Zi F.lay29 ?_; refine X_fs rfl rfl F.ok31 rfl (rFind_ok _ ⟨Zcq, Zcp, Zca⟩ Zbr k_o_store l_o_store) rfl ?_
          rintro _ hv
          obtain ⟨⟨xc, xb⟩, hx⟩ : ∃ r, findX Zca Zbr = r := ⟨_, rfl⟩
          replace hv : _ = findXv (findX Zca Zbr) := hv
          rw [hx] at hv
          subst hv
          have hfs := findX_S hx
          have okx : CellV.ok M1 xc := by
           cases xb
           ·have h9 := findX_no hx
            subst h9; exact CellV.zero_ok M1
           ·obtain ⟨y9, g1, g2, g3⟩ := findX_mem (l := Zca) (k := Zbr) (by rw [hx])
            rw [hx] at g3
            simp only at g3
            rw [← g3]; exact (l_o_store y9 g1).h0
          obtain ⟨x_v, x_h, x_s, ⟨x_a, x_c, x_l⟩⟩ := xc
          refine Zf ?_
          iterate 2 refine Zcf ?_
          refine Zby F.zero37 ?_; intro b14
          refine Zas F.lay37 ?_; refine Zd ?_; refine Ze ?_; refine Zc ?_; refine Y_pk [17, 16, 13, 12, 11, 10, 9, 3] ?_; refine Zj ?_; refine Za (l := [0, 1, 2, 3]) rfl ?_; refine Zb F.foff39_6 ?_; refine Zi F.lay37 ?_
          refine Zby F.zero37 ?_; intro b15
          refine Zas F.lay37 ?_; refine Ze ?_; refine Zc ?_; refine Y_pk [18, 17, 16, 13, 12, 11, 10, 9, 3] ?_
          iterate 2 refine Zj ?_
          refine Za (l := [0]) rfl ?_; refine Zf ?_; refine Ze ?_; refine Zc ?_; refine Y_pk [81, 18, 16, 13, 12, 11, 10, 9, 3] ?_
          refine Zau rfl (fun hc16 => ?_) (fun hc16 => ?_)
          ·skip
           simp only [AnswerV.eta, MarkV.eta, CellV.eta, HeldV.eta, WaitV.eta, ServerV.eta, PeerV.eta, OpV.eta, ParcelV.eta, PostV.eta, WorkerV.eta] at hc16
           refine Zj ?_; refine Za (l := [0, 1, 2, 3, 4, 5, 6, 7, 8, 9]) rfl ?_; refine Zi F.lay37 ?_; refine Zb F.foff39_6 ?_; refine Zi F.lay37 ?_; refine X_fn rfl rfl F.ok32 rfl (rMerge_ok _ ⟨x_v, x_h, x_s, ⟨x_a, x_c, x_l⟩⟩ ⟨Zs, Zai, Zah, ⟨Zn, Zm, Zk⟩⟩ okx (hp2.h0.mono hm1)) rfl ?_
           rintro _ M2 hm2 ⟨⟨y_v, y_h, y_s, ⟨y_a, y_c, y_l⟩⟩, rfl, hy, oky⟩
           refine Zf ?_
           iterate 2 refine Zcf ?_
           refine Zby F.zero37 ?_; intro b17
           refine Zas F.lay37 ?_; refine Zd ?_; refine Ze ?_; refine Zc ?_; refine Y_pk [19, 18, 13, 12, 11, 10, 9, 3] ?_; refine Za (l := [0, 1]) rfl ?_; refine Zi F.lay37 ?_; refine Zas F.lay37 ?_; refine Ze ?_; refine Zc ?_; refine Y_pk [18, 13, 12, 11, 10, 9, 3] ?_; refine Zj ?_; refine Za (l := [0, 1, 2, 3, 4, 5, 6, 7, 8, 9, 10]) rfl ?_; refine Zb F.foff26_2 ?_; refine Zi F.lay23 ?_; refine Zb F.foff39_2 ?_; refine Zi F.lay29 ?_; refine Zi F.lay37 ?_; refine X_fn rfl rfl F.ok33 rfl (rPut_ok _ ⟨Zcq, Zcp, Zca⟩ Zbr ⟨y_v, y_h, y_s, ⟨y_a, y_c, y_l⟩⟩ (k_o_store.mono (by assumption)) (fun h hh => (l_o_store h hh).mono (by assumption)) oky) rfl ?_
           rintro _ M3 hm3 hv
           obtain ⟨⟨Q1, qe⟩, hQ⟩ : ∃ x, putR (pls Zca) Zbr (CellV.pl ⟨y_v, y_h, y_s, ⟨y_a, y_c, y_l⟩⟩) = x := ⟨_, rfl⟩
           replace hv : StE _ _ (putR (pls Zca) Zbr (CellV.pl ⟨y_v, y_h, y_s, ⟨y_a, y_c, y_l⟩⟩)) := hv
           rw [hQ] at hv
           obtain ⟨⟨u_a, u_c, u_l⟩, rfl, hu, k_u, l_u⟩ := hv
           simp only at hu l_u
           refine Zf ?_
           iterate 2 refine Zcf ?_
           iterate 2 refine Zd ?_
           refine Ze ?_; refine Zc ?_; refine Y_pk [22, 21, 13, 12, 11, 10, 9, 3] ?_
           iterate 2 refine Zj ?_
           refine Za (l := [0, 1]) rfl ?_; refine Zf ?_; refine Zav ?_; refine Ze ?_; refine Zc ?_; refine Y_pk [100, 21, 13, 12, 11, 10, 9, 3] ?_
           refine Zau rfl (fun hc18 => ?_) (fun hc18 => ?_)
           ·replace hc18 := nT hc18
            simp only [AnswerV.eta, MarkV.eta, CellV.eta, HeldV.eta, WaitV.eta, ServerV.eta, PeerV.eta, OpV.eta, ParcelV.eta, PostV.eta, WorkerV.eta] at hc18
            refine Zj ?_; refine Za (l := [0, 1, 2, 3]) rfl ?_; refine Zi F.lay26 ?_; refine Zas F.lay26 ?_
            iterate 2 refine Zd ?_
            refine Ze ?_; refine Zc ?_; refine Y_pk [12, 11, 21, 13, 10, 9, 3] ?_; refine Zak ?_; refine Zba ?_; refine Zbj ?_; refine Zba ?_
            refine Zaj (.inr rfl) (.cell rfl (by repeat first | exact List.Mem.head _ | refine List.Mem.tail _ ?_ | refine List.mem_append_right _ ?_) F.lay26 rfl rfl (.tmp rfl (.tmp rfl .nil))) (fun w hw => ?_)
            have hxb : xb = true := by first | assumption | (simp_all; done)
            subst hxb
            replace hfs := hfs.trans (if_pos rfl)
            have hcm : copyM (ServerV.pl ⟨Zeg, Zcv, ⟨Zcq, Zcp, Zca⟩, ⟨Zcu, Zct, Zce⟩, Zcx⟩) (ParcelV.pl ⟨Zbx, Zbm, Zbr, ⟨Zv, Zao, Zap, Zy, Zbc⟩, ⟨Zab, Zt, Zae, Zad⟩, Zbd, ⟨Zs, Zai, Zah, ⟨Zn, Zm, Zk⟩⟩⟩) = CellV.pl ⟨y_v, y_h, y_s, ⟨y_a, y_c, y_l⟩⟩ := (copyM_some (s := ServerV.pl ⟨Zeg, Zcv, ⟨Zcq, Zcp, Zca⟩, ⟨Zcu, Zct, Zce⟩, Zcx⟩) (p := ParcelV.pl ⟨Zbx, Zbm, Zbr, ⟨Zv, Zao, Zap, Zy, Zbc⟩, ⟨Zab, Zt, Zae, Zad⟩, Zbd, ⟨Zs, Zai, Zah, ⟨Zn, Zm, Zk⟩⟩⟩) hfs).trans hy.symm
            refine ⟨_, M3, rfl, hm1.trans (hm2.trans hm3), hw.c, ?_⟩
            clear hw
            rw [← hos]
            rw [srvR_copy (s := ServerV.pl ⟨Zeg, Zcv, ⟨Zcq, Zcp, Zca⟩, ⟨Zcu, Zct, Zce⟩, Zcx⟩) (l := l_l) (r := r) (f := frm) (p := ParcelV.pl ⟨Zbx, Zbm, Zbr, ⟨Zv, Zao, Zap, Zy, Zbc⟩, ⟨Zab, Zt, Zae, Zad⟩, Zbd, ⟨Zs, Zai, Zah, ⟨Zn, Zm, Zk⟩⟩⟩) hA (by show Zbm = Zcv; omega) (by show Zbx = 3; omega), copyR_no (s := ServerV.pl ⟨Zeg, Zcv, ⟨Zcq, Zcp, Zca⟩, ⟨Zcu, Zct, Zce⟩, Zcx⟩) (f := frm) (p := ParcelV.pl ⟨Zbx, Zbm, Zbr, ⟨Zv, Zao, Zap, Zy, Zbc⟩, ⟨Zab, Zt, Zae, Zad⟩, Zbd, ⟨Zs, Zai, Zah, ⟨Zn, Zm, Zk⟩⟩⟩) hcm hQ (by assumption)]
            exact ⟨⟨Zeg, Zcv, ⟨Zcq, Zcp, Zca⟩, ⟨Zcu, Zct, Zce⟩, Zcx⟩, ⟨none, 0, []⟩, rfl, rfl, rfl, oko.mono (hm2.trans hm3), SlK.nil, fun y hy => by cases hy⟩
           ·replace hc18 := nF hc18
            simp only [AnswerV.eta, MarkV.eta, CellV.eta, HeldV.eta, WaitV.eta, ServerV.eta, PeerV.eta, OpV.eta, ParcelV.eta, PostV.eta, WorkerV.eta] at hc18
            refine Zax ?_; refine Zc ?_; refine Y_pk [21, 13, 12, 11, 10, 9, 3] ?_; refine Zj ?_; refine Za (l := [0, 1, 2]) rfl ?_; refine Zf ?_; refine Zb F.foff26_2 ?_; refine Zas F.lay23 ?_; refine Ze ?_; refine Zc ?_; refine Y_pk [13, 12, 11, 10, 9, 3] ?_; refine Zj ?_; refine C_region_anyPR (Hin := [(b3, _)]) [0, 1, 2, 3, 4, 5, 6, 7, 9, 8, 10, 11] [9] #[0, 0, 0, 4, 0, 16, 60, 126, 254, 1, 1023, 2047] (by repeat first | exact Rem.here _ | exact Rem.two | apply Rem.skip | apply Rem.over) (by kernel_rfl) (by kernel_rfl) ?_; refine Zi F.lay26 ?_; refine Zf ?_; refine Zb F.foff26_1 ?_; refine Zi F.lay22 ?_; refine Zb F.foff39_5 ?_; refine Zi F.lay22 ?_; refine Zbv rfl rfl F.bld39 (.cons rfl (by constructor) (.cons rfl (by constructor) (.cons rfl (by constructor) .nil))) rfl rfl ?_; refine Zbv rfl rfl F.bld51 (.cons rfl (by constructor) (.cons rfl (by constructor) .nil)) rfl rfl ?_
            refine Zdd rfl rfl rfl rfl rfl (by constructor) (by ((try simp only [cat, List.cons_append, List.nil_append, List.append_nil]); (repeat (first | exact Zbp | refine Zcb ?_ | (refine Zam ?_ ?_; rfl))); done)) (by repeat first | exact Upd.head | apply Upd.tail | apply Upd.over) F.lay26 rfl rfl (fun _ h => h.c) ?_
            refine Zbt rfl rfl F.elem43 F.zero51 rfl rfl (.cons rfl (by constructor) .nil) rfl rfl (by simp only [List.map_cons, List.map_nil] <;> rfl) rfl ?_; intro b19 hob20
            iterate 2 refine Zd ?_
            refine Ze ?_; refine Zen ?_; refine Zc ?_; refine Y_pk [12, 11, 13, 10] ?_; refine Zak ?_; refine Zbj ?_; refine Zba ?_
            refine Zaj (.inr rfl) (.cell rfl (by repeat first | exact List.Mem.head _ | refine List.Mem.tail _ ?_ | refine List.mem_append_right _ ?_) F.lay26 rfl rfl (.tmp rfl (.tmp rfl .nil))) (fun w hw => ?_)
            have hxb : xb = true := by first | assumption | (simp_all; done)
            subst hxb
            replace hfs := hfs.trans (if_pos rfl)
            have hcm : copyM (ServerV.pl ⟨Zeg, Zcv, ⟨Zcq, Zcp, Zca⟩, ⟨Zcu, Zct, Zce⟩, Zcx⟩) (ParcelV.pl ⟨Zbx, Zbm, Zbr, ⟨Zv, Zao, Zap, Zy, Zbc⟩, ⟨Zab, Zt, Zae, Zad⟩, Zbd, ⟨Zs, Zai, Zah, ⟨Zn, Zm, Zk⟩⟩⟩) = CellV.pl ⟨y_v, y_h, y_s, ⟨y_a, y_c, y_l⟩⟩ := (copyM_some (s := ServerV.pl ⟨Zeg, Zcv, ⟨Zcq, Zcp, Zca⟩, ⟨Zcu, Zct, Zce⟩, Zcx⟩) (p := ParcelV.pl ⟨Zbx, Zbm, Zbr, ⟨Zv, Zao, Zap, Zy, Zbc⟩, ⟨Zab, Zt, Zae, Zad⟩, Zbd, ⟨Zs, Zai, Zah, ⟨Zn, Zm, Zk⟩⟩⟩) hfs).trans hy.symm
            obtain ⟨M9, j1, j2, j3⟩ := OSl.frz (H := H) (l := [(⟨frm, ⟨4, Zcv, 0, OpV.zero, AnswerV.zero, Zbd, CellV.zero⟩⟩ : PostV)]) (f := PostV.segs) (show OSl 51 37 _ _ ([(⟨frm, ⟨4, Zcv, 0, OpV.zero, AnswerV.zero, Zbd, CellV.zero⟩⟩ : PostV)].map PostV.segs) from hob20) (hw.c)
            refine ⟨_, M9, rfl, hm1.trans (hm2.trans (hm3.trans j1)), j2, ?_⟩
            clear hw
            rw [← hos]
            rw [srvR_copy (s := ServerV.pl ⟨Zeg, Zcv, ⟨Zcq, Zcp, Zca⟩, ⟨Zcu, Zct, Zce⟩, Zcx⟩) (l := l_l) (r := r) (f := frm) (p := ParcelV.pl ⟨Zbx, Zbm, Zbr, ⟨Zv, Zao, Zap, Zy, Zbc⟩, ⟨Zab, Zt, Zae, Zad⟩, Zbd, ⟨Zs, Zai, Zah, ⟨Zn, Zm, Zk⟩⟩⟩) hA (by show Zbm = Zcv; omega) (by show Zbx = 3; omega), copyR_yes (s := ServerV.pl ⟨Zeg, Zcv, ⟨Zcq, Zcp, Zca⟩, ⟨Zcu, Zct, Zce⟩, Zcx⟩) (f := frm) (p := ParcelV.pl ⟨Zbx, Zbm, Zbr, ⟨Zv, Zao, Zap, Zy, Zbc⟩, ⟨Zab, Zt, Zae, Zad⟩, Zbd, ⟨Zs, Zai, Zah, ⟨Zn, Zm, Zk⟩⟩⟩) hcm hQ (by assumption)]
            have kk := (hm2.trans (hm3.trans j1))
            exact ⟨⟨Zeg, Zcv, ⟨u_a, u_c, u_l⟩, ⟨Zcu, Zct, Zce⟩, Zcx⟩, ⟨_, 1, [(⟨frm, ⟨4, Zcv, 0, OpV.zero, AnswerV.zero, Zbd, CellV.zero⟩⟩ : PostV)]⟩, rfl, (by show Srv.mk Zeg Zcv (pls u_l) (wtl Zce) Zcx = Srv.mk Zeg Zcv Q1 (wtl Zce) Zcx; rw [hu]), rfl, ⟨k_u.mono j1, fun h hh => (l_u h hh).mono j1, k_o_waits.mono kk, fun w hw => (l_o_waits w hw).mono kk⟩, j3, fun y hy => by obtain rfl := List.mem_singleton.1 hy; exact ⟨⟨CellV.zero_ok _⟩⟩⟩
          ·skip
           simp only [AnswerV.eta, MarkV.eta, CellV.eta, HeldV.eta, WaitV.eta, ServerV.eta, PeerV.eta, OpV.eta, ParcelV.eta, PostV.eta, WorkerV.eta] at hc16
           refine Zax ?_; refine Zc ?_; refine Y_pk [18, 13, 12, 11, 10, 9, 3] ?_; refine Zj ?_; refine Za (l := [0, 1, 2, 3, 4, 5, 6, 7, 8, 9, 10]) rfl ?_; refine Zb F.foff26_2 ?_; refine Zi F.lay23 ?_; refine Zb F.foff39_2 ?_; refine Zi F.lay29 ?_; refine Zi F.lay37 ?_; refine X_fn rfl rfl F.ok33 rfl (rPut_ok _ ⟨Zcq, Zcp, Zca⟩ Zbr ⟨Zs, Zai, Zah, ⟨Zn, Zm, Zk⟩⟩ (k_o_store.mono (by exact Mem.le.refl _)) (fun h hh => (l_o_store h hh).mono (by exact Mem.le.refl _)) (hp2.h0.mono hm1)) rfl ?_
           rintro _ M3 hm3 hv
           obtain ⟨⟨Q1, qe⟩, hQ⟩ : ∃ x, putR (pls Zca) Zbr (CellV.pl ⟨Zs, Zai, Zah, ⟨Zn, Zm, Zk⟩⟩) = x := ⟨_, rfl⟩
           replace hv : StE _ _ (putR (pls Zca) Zbr (CellV.pl ⟨Zs, Zai, Zah, ⟨Zn, Zm, Zk⟩⟩)) := hv
           rw [hQ] at hv
           obtain ⟨⟨u_a, u_c, u_l⟩, rfl, hu, k_u, l_u⟩ := hv
           simp only at hu l_u
           refine Zf ?_
           iterate 2 refine Zcf ?_
           iterate 2 refine Zd ?_
           refine Ze ?_; refine Zc ?_; refine Y_pk [22, 21, 13, 12, 11, 10, 9, 3] ?_
           iterate 2 refine Zj ?_
           refine Za (l := [0, 1]) rfl ?_; refine Zf ?_; refine Zav ?_; refine Ze ?_; refine Zc ?_; refine Y_pk [100, 21, 13, 12, 11, 10, 9, 3] ?_
           refine Zau rfl (fun hc21 => ?_) (fun hc21 => ?_)
           ·replace hc21 := nT hc21
            simp only [AnswerV.eta, MarkV.eta, CellV.eta, HeldV.eta, WaitV.eta, ServerV.eta, PeerV.eta, OpV.eta, ParcelV.eta, PostV.eta, WorkerV.eta] at hc21
            refine Zj ?_; refine Za (l := [0, 1, 2, 3]) rfl ?_; refine Zi F.lay26 ?_; refine Zas F.lay26 ?_
            iterate 2 refine Zd ?_
            refine Ze ?_; refine Zc ?_; refine Y_pk [12, 11, 21, 13, 10, 9, 3] ?_; refine Zak ?_; refine Zba ?_; refine Zbj ?_; refine Zba ?_
            refine Zaj (.inr rfl) (.cell rfl (by repeat first | exact List.Mem.head _ | refine List.Mem.tail _ ?_ | refine List.mem_append_right _ ?_) F.lay26 rfl rfl (.tmp rfl (.tmp rfl .nil))) (fun w hw => ?_)
            have hxb : xb = false := by first | assumption | (simp_all; done)
            subst hxb
            replace hfs := hfs.trans (if_neg (fun e => by cases e))
            have hcm : copyM (ServerV.pl ⟨Zeg, Zcv, ⟨Zcq, Zcp, Zca⟩, ⟨Zcu, Zct, Zce⟩, Zcx⟩) (ParcelV.pl ⟨Zbx, Zbm, Zbr, ⟨Zv, Zao, Zap, Zy, Zbc⟩, ⟨Zab, Zt, Zae, Zad⟩, Zbd, ⟨Zs, Zai, Zah, ⟨Zn, Zm, Zk⟩⟩⟩) = CellV.pl ⟨Zs, Zai, Zah, ⟨Zn, Zm, Zk⟩⟩ := copyM_none (s := ServerV.pl ⟨Zeg, Zcv, ⟨Zcq, Zcp, Zca⟩, ⟨Zcu, Zct, Zce⟩, Zcx⟩) (p := ParcelV.pl ⟨Zbx, Zbm, Zbr, ⟨Zv, Zao, Zap, Zy, Zbc⟩, ⟨Zab, Zt, Zae, Zad⟩, Zbd, ⟨Zs, Zai, Zah, ⟨Zn, Zm, Zk⟩⟩⟩) hfs
            refine ⟨_, M3, rfl, hm1.trans hm3, hw.c, ?_⟩
            clear hw
            rw [← hos]
            rw [srvR_copy (s := ServerV.pl ⟨Zeg, Zcv, ⟨Zcq, Zcp, Zca⟩, ⟨Zcu, Zct, Zce⟩, Zcx⟩) (l := l_l) (r := r) (f := frm) (p := ParcelV.pl ⟨Zbx, Zbm, Zbr, ⟨Zv, Zao, Zap, Zy, Zbc⟩, ⟨Zab, Zt, Zae, Zad⟩, Zbd, ⟨Zs, Zai, Zah, ⟨Zn, Zm, Zk⟩⟩⟩) hA (by show Zbm = Zcv; omega) (by show Zbx = 3; omega), copyR_no (s := ServerV.pl ⟨Zeg, Zcv, ⟨Zcq, Zcp, Zca⟩, ⟨Zcu, Zct, Zce⟩, Zcx⟩) (f := frm) (p := ParcelV.pl ⟨Zbx, Zbm, Zbr, ⟨Zv, Zao, Zap, Zy, Zbc⟩, ⟨Zab, Zt, Zae, Zad⟩, Zbd, ⟨Zs, Zai, Zah, ⟨Zn, Zm, Zk⟩⟩⟩) hcm hQ (by assumption)]
            exact ⟨⟨Zeg, Zcv, ⟨Zcq, Zcp, Zca⟩, ⟨Zcu, Zct, Zce⟩, Zcx⟩, ⟨none, 0, []⟩, rfl, rfl, rfl, oko.mono hm3, SlK.nil, fun y hy => by cases hy⟩
           ·replace hc21 := nF hc21
            simp only [AnswerV.eta, MarkV.eta, CellV.eta, HeldV.eta, WaitV.eta, ServerV.eta, PeerV.eta, OpV.eta, ParcelV.eta, PostV.eta, WorkerV.eta] at hc21
            refine Zax ?_; refine Zc ?_; refine Y_pk [21, 13, 12, 11, 10, 9, 3] ?_; refine Zj ?_; refine Za (l := [0, 1, 2]) rfl ?_; refine Zf ?_; refine Zb F.foff26_2 ?_; refine Zas F.lay23 ?_; refine Ze ?_; refine Zc ?_; refine Y_pk [13, 12, 11, 10, 9, 3] ?_; refine Zj ?_; refine C_region_anyPR (Hin := [(b3, _)]) [0, 1, 2, 3, 4, 5, 6, 7, 9, 8, 10, 11] [9] #[0, 0, 0, 4, 0, 16, 60, 126, 254, 1, 1023, 2047] (by repeat first | exact Rem.here _ | exact Rem.two | apply Rem.skip | apply Rem.over) (by kernel_rfl) (by kernel_rfl) ?_; refine Zi F.lay26 ?_; refine Zf ?_; refine Zb F.foff26_1 ?_; refine Zi F.lay22 ?_; refine Zb F.foff39_5 ?_; refine Zi F.lay22 ?_; refine Zbv rfl rfl F.bld39 (.cons rfl (by constructor) (.cons rfl (by constructor) (.cons rfl (by constructor) .nil))) rfl rfl ?_; refine Zbv rfl rfl F.bld51 (.cons rfl (by constructor) (.cons rfl (by constructor) .nil)) rfl rfl ?_
            refine Zdd rfl rfl rfl rfl rfl (by constructor) (by ((try simp only [cat, List.cons_append, List.nil_append, List.append_nil]); (repeat (first | exact Zbp | refine Zcb ?_ | (refine Zam ?_ ?_; rfl))); done)) (by repeat first | exact Upd.head | apply Upd.tail | apply Upd.over) F.lay26 rfl rfl (fun _ h => h.c) ?_
            refine Zbt rfl rfl F.elem43 F.zero51 rfl rfl (.cons rfl (by constructor) .nil) rfl rfl (by simp only [List.map_cons, List.map_nil] <;> rfl) rfl ?_; intro b22 hob23
            iterate 2 refine Zd ?_
            refine Ze ?_; refine Zen ?_; refine Zc ?_; refine Y_pk [12, 11, 13, 10] ?_; refine Zak ?_; refine Zbj ?_; refine Zba ?_
            refine Zaj (.inr rfl) (.cell rfl (by repeat first | exact List.Mem.head _ | refine List.Mem.tail _ ?_ | refine List.mem_append_right _ ?_) F.lay26 rfl rfl (.tmp rfl (.tmp rfl .nil))) (fun w hw => ?_)
            have hxb : xb = false := by first | assumption | (simp_all; done)
            subst hxb
            replace hfs := hfs.trans (if_neg (fun e => by cases e))
            have hcm : copyM (ServerV.pl ⟨Zeg, Zcv, ⟨Zcq, Zcp, Zca⟩, ⟨Zcu, Zct, Zce⟩, Zcx⟩) (ParcelV.pl ⟨Zbx, Zbm, Zbr, ⟨Zv, Zao, Zap, Zy, Zbc⟩, ⟨Zab, Zt, Zae, Zad⟩, Zbd, ⟨Zs, Zai, Zah, ⟨Zn, Zm, Zk⟩⟩⟩) = CellV.pl ⟨Zs, Zai, Zah, ⟨Zn, Zm, Zk⟩⟩ := copyM_none (s := ServerV.pl ⟨Zeg, Zcv, ⟨Zcq, Zcp, Zca⟩, ⟨Zcu, Zct, Zce⟩, Zcx⟩) (p := ParcelV.pl ⟨Zbx, Zbm, Zbr, ⟨Zv, Zao, Zap, Zy, Zbc⟩, ⟨Zab, Zt, Zae, Zad⟩, Zbd, ⟨Zs, Zai, Zah, ⟨Zn, Zm, Zk⟩⟩⟩) hfs
            obtain ⟨M9, j1, j2, j3⟩ := OSl.frz (H := H) (l := [(⟨frm, ⟨4, Zcv, 0, OpV.zero, AnswerV.zero, Zbd, CellV.zero⟩⟩ : PostV)]) (f := PostV.segs) (show OSl 51 37 _ _ ([(⟨frm, ⟨4, Zcv, 0, OpV.zero, AnswerV.zero, Zbd, CellV.zero⟩⟩ : PostV)].map PostV.segs) from hob23) (hw.c)
            refine ⟨_, M9, rfl, hm1.trans (hm3.trans j1), j2, ?_⟩
            clear hw
            rw [← hos]
            rw [srvR_copy (s := ServerV.pl ⟨Zeg, Zcv, ⟨Zcq, Zcp, Zca⟩, ⟨Zcu, Zct, Zce⟩, Zcx⟩) (l := l_l) (r := r) (f := frm) (p := ParcelV.pl ⟨Zbx, Zbm, Zbr, ⟨Zv, Zao, Zap, Zy, Zbc⟩, ⟨Zab, Zt, Zae, Zad⟩, Zbd, ⟨Zs, Zai, Zah, ⟨Zn, Zm, Zk⟩⟩⟩) hA (by show Zbm = Zcv; omega) (by show Zbx = 3; omega), copyR_yes (s := ServerV.pl ⟨Zeg, Zcv, ⟨Zcq, Zcp, Zca⟩, ⟨Zcu, Zct, Zce⟩, Zcx⟩) (f := frm) (p := ParcelV.pl ⟨Zbx, Zbm, Zbr, ⟨Zv, Zao, Zap, Zy, Zbc⟩, ⟨Zab, Zt, Zae, Zad⟩, Zbd, ⟨Zs, Zai, Zah, ⟨Zn, Zm, Zk⟩⟩⟩) hcm hQ (by assumption)]
            have kk := hm3.trans j1
            exact ⟨⟨Zeg, Zcv, ⟨u_a, u_c, u_l⟩, ⟨Zcu, Zct, Zce⟩, Zcx⟩, ⟨_, 1, [(⟨frm, ⟨4, Zcv, 0, OpV.zero, AnswerV.zero, Zbd, CellV.zero⟩⟩ : PostV)]⟩, rfl, (by show Srv.mk Zeg Zcv (pls u_l) (wtl Zce) Zcx = Srv.mk Zeg Zcv Q1 (wtl Zce) Zcx; rw [hu]), rfl, ⟨k_u.mono j1, fun h hh => (l_u h hh).mono j1, k_o_waits.mono kk, fun w hw => (l_o_waits w hw).mono kk⟩, j3, fun y hy => by obtain rfl := List.mem_singleton.1 hy; exact ⟨⟨CellV.zero_ok _⟩⟩⟩
         ·replace hc13 := dF hc13
          refine Zj ?_; refine Za (l := [0, 1]) rfl ?_; refine Zav ?_; refine Zd ?_; refine Ze ?_; refine Zc ?_; refine Y_pk [113, 13, 12, 11, 10, 9, 3] ?_
          refine Zau rfl (fun hc24 => ?_) (fun hc24 => ?_)
          ·replace hc24 := dT hc24
           refine Zj ?_; refine Za (l := [0, 1, 2, 3, 4, 5, 6, 7, 8, 9, 10]) rfl ?_; refine Zi F.lay26 ?_; refine Zf ?_; refine Zb F.foff39_5 ?_; refine Zi F.lay22 ?_; refine X_fn rfl rfl F.ok34 rfl (rcopied_ok _ ⟨Zeg, Zcv, ⟨Zcq, Zcp, Zca⟩, ⟨Zcu, Zct, Zce⟩, Zcx⟩ frm Zbd oko hA.1 hob) rfl ?_
           rintro _ M2 hm2 hv
           replace hv : RqE _ _ (copiedR (ServerV.pl ⟨Zeg, Zcv, ⟨Zcq, Zcp, Zca⟩, ⟨Zcu, Zct, Zce⟩, Zcx⟩) frm Zbd) := hv
           obtain ⟨⟨R1, R2⟩, hR⟩ : ∃ x, copiedR (ServerV.pl ⟨Zeg, Zcv, ⟨Zcq, Zcp, Zca⟩, ⟨Zcu, Zct, Zce⟩, Zcx⟩) frm Zbd = x := ⟨_, rfl⟩
           rw [hR] at hv
           obtain ⟨⟨u_addr, u_epoch, ⟨u_sa, u_sc, u_sl⟩, ⟨u_wa, u_wc, u_wl⟩, u_serial⟩, ⟨z_a, z_c, z_l⟩, rfl, hu, hz, ok_u, k_z, o_z⟩ := hv
           refine Zf ?_
           iterate 2 refine Zcf ?_
           refine Zby F.zero26 ?_; intro b25
           refine Zas F.lay26 ?_; refine Zd ?_; refine Ze ?_; refine Zc ?_; refine Y_pk [24, 23, 13, 12, 11, 10] ?_; refine Zj ?_; refine Za (l := [0, 1, 2, 3, 4]) rfl ?_; refine Zi F.lay26 ?_; refine Zf ?_; refine Zas F.lay26 ?_
           iterate 2 refine Zd ?_
           refine Ze ?_; refine Zc ?_; refine Y_pk [12, 11, 13, 10] ?_; refine Zak ?_; refine Zbj ?_; refine Zba ?_
           refine Zaj (.inr rfl) (.cell rfl (by repeat first | exact List.Mem.head _ | refine List.Mem.tail _ ?_ | refine List.mem_append_right _ ?_) F.lay26 rfl rfl (.tmp rfl (.tmp rfl .nil))) (fun w hw => ?_)
           refine ⟨_, M2, rfl, hm1.trans hm2, hw.c, ?_⟩
           clear hw
           rw [← hos]
           rw [srvR_copied (s := ServerV.pl ⟨Zeg, Zcv, ⟨Zcq, Zcp, Zca⟩, ⟨Zcu, Zct, Zce⟩, Zcx⟩) (l := l_l) (r := r) (f := frm) (p := ParcelV.pl ⟨Zbx, Zbm, Zbr, ⟨Zv, Zao, Zap, Zy, Zbc⟩, ⟨Zab, Zt, Zae, Zad⟩, Zbd, ⟨Zs, Zai, Zah, ⟨Zn, Zm, Zk⟩⟩⟩) hA (by show Zbm = Zcv; omega) (by show Zbx = 4; omega)]
           show SrvE _ _ ((copiedR (ServerV.pl ⟨Zeg, Zcv, ⟨Zcq, Zcp, Zca⟩, ⟨Zcu, Zct, Zce⟩, Zcx⟩) frm Zbd).1, (copiedR (ServerV.pl ⟨Zeg, Zcv, ⟨Zcq, Zcp, Zca⟩, ⟨Zcu, Zct, Zce⟩, Zcx⟩) frm Zbd).2, 0)
           rw [hR]
           exact ⟨⟨u_addr, u_epoch, ⟨u_sa, u_sc, u_sl⟩, ⟨u_wa, u_wc, u_wl⟩, u_serial⟩, ⟨z_a, z_c, z_l⟩, rfl, hu, hz, ok_u, k_z, o_z⟩
          ·replace hc24 := dF hc24
           refine Zax ?_; refine Zde ?_; refine Zc ?_; refine Y_pk [13, 12, 11, 10] ?_; refine Zj ?_; refine Za (l := [0, 1, 2, 3]) rfl ?_; refine Zi F.lay26 ?_; refine Zas F.lay26 ?_
           iterate 2 refine Zd ?_
           refine Ze ?_; refine Zc ?_; refine Y_pk [12, 11, 10] ?_; refine Zak ?_
           refine Zaj (.inr rfl) (.cell rfl (by repeat first | exact List.Mem.head _ | refine List.Mem.tail _ ?_ | refine List.mem_append_right _ ?_) F.lay26 rfl rfl (.tmp rfl (.tmp rfl .nil))) (fun w hw => ?_)
           refine ⟨_, M1, rfl, hm1, hw.c, ?_⟩
           clear hw
           rw [← hos]
           rw [srvR_else (s := ServerV.pl ⟨Zeg, Zcv, ⟨Zcq, Zcp, Zca⟩, ⟨Zcu, Zct, Zce⟩, Zcx⟩) (l := l_l) (r := r) (f := frm) (p := ParcelV.pl ⟨Zbx, Zbm, Zbr, ⟨Zv, Zao, Zap, Zy, Zbc⟩, ⟨Zab, Zt, Zae, Zad⟩, Zbd, ⟨Zs, Zai, Zah, ⟨Zn, Zm, Zk⟩⟩⟩) hA (by show Zbm = Zcv; omega) (by show ¬ Zbx = 1; omega) (by show ¬ Zbx = 3; omega) (by show ¬ Zbx = 4; omega)]
           exact ⟨⟨Zeg, Zcv, ⟨Zcq, Zcp, Zca⟩, ⟨Zcu, Zct, Zce⟩, Zcx⟩, ⟨none, 0, []⟩, rfl, rfl, rfl, oko.mono (Mem.le.refl M1), SlK.nil, fun y hy => by cases hy⟩
end Go.Proofs.YtpkeilhilpogiaaGreat
namespace Go.Proofs.YtpkeilhilpogiaaGreat
open Go.Esp
theorem F.ok12 : okFn Tryz.prog 12 = true := by kernel_rfl
theorem lawTakes_ok (M : Mem) (s : ServerV) (l : (Sl PeerV)) (r : Int) (frm : Int) (p : ParcelV) (hs0 : ServerV.ok M s) (hl1 : SlK M PeerV.segs 21 l) (hp2 : ParcelV.ok M p) : Esp.Fn Tryz.prog 3 [s.enc, Sl.val l, .int .i64 r, .int .i64 frm, p.enc] M (fun _ v => v = .bool true) := by
  obtain ⟨Zaf, Zx, ⟨Zr, Zq, Zh⟩, ⟨Zp, Zo, Zg⟩, Zw⟩ := s
  obtain ⟨l_a, l_c, l_l⟩ := l
  obtain ⟨Zbx, Zbm, Zbr, ⟨Zv, Zao, Zap, Zy, Zbc⟩, ⟨Zab, Zt, Zae, Zad⟩, Zbd, ⟨Zs, Zai, Zah, ⟨Zn, Zm, Zk⟩⟩⟩ := p
  have Zbw : SlK M HeldV.segs 24 ⟨Zr, Zq, Zh⟩ := hs0.h0
  have Zfr : SlM M Zr (Zh.map HeldV.segs) 24 := Zbw.h1
  have n_s_store : (Zh.map HeldV.segs).length = Zh.length := List.length_map ..
  have m_s_store : Zh.length ≤ 9223372036854775807 := Zbw.h2
  have c_s_store : Zh.length ≤ Zq := Zbw.h3
  have Zdq : ∀ y ∈ Zh, HeldV.ok M y := hs0.h1
  have Zbz : SlK M WaitV.segs 28 ⟨Zp, Zo, Zg⟩ := hs0.h2
  have Zfn : SlM M Zp (Zg.map WaitV.segs) 28 := Zbz.h1
  have n_s_waits : (Zg.map WaitV.segs).length = Zg.length := List.length_map ..
  have m_s_waits : Zg.length ≤ 9223372036854775807 := Zbz.h2
  have c_s_waits : Zg.length ≤ Zo := Zbz.h3
  have Zdp : ∀ y ∈ Zg, WaitV.ok M y := hs0.h3
  have k_l : SlK M PeerV.segs 21 ⟨l_a, l_c, l_l⟩ := hl1
  have s_l : SlM M l_a (l_l.map PeerV.segs) 21 := k_l.h1
  have n_l : (l_l.map PeerV.segs).length = l_l.length := List.length_map ..
  have m_l : l_l.length ≤ 9223372036854775807 := k_l.h2
  have c_l : l_l.length ≤ l_c := k_l.h3
  have k_p_cell : CellV.ok M ⟨Zs, Zai, Zah, ⟨Zn, Zm, Zk⟩⟩ := hp2.h0
  have Zbu : SlK M MarkV.segs 6 ⟨Zn, Zm, Zk⟩ := hp2.h0.h0
  have s_p_cell_marks : SlM M Zn (Zk.map MarkV.segs) 6 := Zbu.h1
  have n_p_cell_marks : (Zk.map MarkV.segs).length = Zk.length := List.length_map ..
  have m_p_cell_marks : Zk.length ≤ 9223372036854775807 := Zbu.h2
  have c_p_cell_marks : Zk.length ≤ Zm := Zbu.h3
  obtain ⟨⟨R1, R2, R3⟩, hR⟩ : ∃ x, srvR (ServerV.pl ⟨Zaf, Zx, ⟨Zr, Zq, Zh⟩, ⟨Zp, Zo, Zg⟩, Zw⟩) l_l r frm (ParcelV.pl ⟨Zbx, Zbm, Zbr, ⟨Zv, Zao, Zap, Zy, Zbc⟩, ⟨Zab, Zt, Zae, Zad⟩, Zbd, ⟨Zs, Zai, Zah, ⟨Zn, Zm, Zk⟩⟩⟩) = x := ⟨_, rfl⟩
  refine Zek Tryz.func3 rfl Tryz.ntmps3 rfl ?_; intro H
  refine Zj ?_; refine Za (l := [0, 1, 2]) rfl ?_
  refine Zcz ?_; intro b1
  refine Zcz ?_; intro b2
  refine Zd ?_; refine Ze ?_; refine Zc ?_; refine Y_pk [10, 9, 5, 1, 2, 3] ?_
  iterate 2 refine Zj ?_
  refine Za (l := [0, 1, 2, 3, 4, 5, 6, 7, 8, 9, 10]) rfl ?_; refine Zi F.lay26 ?_; refine X_fs rfl rfl F.ok8 rfl (BigV_ok _ ⟨Zaf, Zx, ⟨Zr, Zq, Zh⟩, ⟨Zp, Zo, Zg⟩, Zw⟩ hs0) rfl ?_
  rintro _ ⟨bb, rfl, hbb⟩
  refine Zf ?_
  refine Zag 20 rfl (fun hc3 => ?_) (fun hc3 => ?_)
  ·skip
   iterate 3 refine Zz ?_
   refine Zl ?_; refine Zf ?_
   iterate 2 refine Zz ?_
   refine Zl ?_; refine Ze ?_; refine Zc ?_; refine Y_pk [28, 10, 9, 5, 1, 2, 3] ?_; refine Zcy rfl ?_; refine Zj ?_; refine Za (l := [0]) rfl ?_; refine Zd ?_; refine Ze ?_; refine Zc ?_; refine Y_pk [10, 9, 5, 1, 2, 3] ?_; refine Zak ?_; refine Zba ?_
   refine Zaj (.inr rfl) (.tmp rfl .nil) (fun w hw => ?_)
   refine ⟨_, _, rfl, (by exact Mem.le.refl _), (hw.c), ?_⟩
   clear hw
   rfl
  ·skip
   refine Zf ?_; refine Zbb F.elem27 ?_; refine Zav ?_; refine Zl ?_; refine Zf ?_
   refine Zag 25 rfl (fun hc4 => ?_) (fun hc4 => ?_)
   ·replace hc4 := dT hc4
    iterate 2 refine Zz ?_
    refine Zl ?_; refine Ze ?_; refine Zc ?_; refine Y_pk [28, 10, 9, 5, 1, 2, 3] ?_; refine Zcy rfl ?_; refine Zj ?_; refine Za (l := [0]) rfl ?_; refine Zd ?_; refine Ze ?_; refine Zc ?_; refine Y_pk [10, 9, 5, 1, 2, 3] ?_; refine Zak ?_; refine Zba ?_
    refine Zaj (.inr rfl) (.tmp rfl .nil) (fun w hw => ?_)
    refine ⟨_, _, rfl, (by exact Mem.le.refl _), (hw.c), ?_⟩
    clear hw
    rfl
   ·replace hc4 := dF hc4
    refine Zi F.lay39 ?_; refine X_fs rfl rfl F.ok9 rfl (BigP_ok _ ⟨Zbx, Zbm, Zbr, ⟨Zv, Zao, Zap, Zy, Zbc⟩, ⟨Zab, Zt, Zae, Zad⟩, Zbd, ⟨Zs, Zai, Zah, ⟨Zn, Zm, Zk⟩⟩⟩ hp2) rfl ?_
    rintro _ ⟨bp, rfl, -⟩
    refine Zl ?_; refine Ze ?_; refine Zc ?_; refine Y_pk [28, 10, 9, 5, 1, 2, 3] ?_
    refine Zau rfl (fun hc5 => ?_) (fun hc5 => ?_)
    ·skip
     refine Zj ?_; refine Za (l := [0]) rfl ?_; refine Zd ?_; refine Ze ?_; refine Zc ?_; refine Y_pk [10, 9, 5, 1, 2, 3] ?_; refine Zak ?_; refine Zba ?_
     refine Zaj (.inr rfl) (.tmp rfl .nil) (fun w hw => ?_)
     refine ⟨_, _, rfl, (by exact Mem.le.refl _), (hw.c), ?_⟩
     clear hw
     rfl
    ·skip
     refine Zax ?_; refine Zc ?_; refine Y_pk [10, 9, 5, 1, 2, 3] ?_; refine Zj ?_
     obtain ⟨hb1, hb2, hb3⟩ := hbb (by assumption)
     try simp only at hb1 hb2 hb3
     refine Za (l := [0, 1, 2, 3]) rfl ?_; refine Zi F.lay26 ?_; refine X_fn rfl rfl F.ok10 rfl (rOwn_ok _ ⟨Zaf, Zx, ⟨Zr, Zq, Zh⟩, ⟨Zp, Zo, Zg⟩, Zw⟩ hs0 ⟨by show Zh.length ≤ 5000; omega, by show Zg.length ≤ 1000; omega, fun w hw => Nat.le_trans (hb3 w hw) (by decide)⟩) rfl ?_
     rintro _ M1 hm1 ⟨⟨Zeg, Zcv, ⟨Zcq, Zcp, Zca⟩, ⟨Zcu, Zct, Zce⟩, Zcx⟩, rfl, hos, oko⟩
     have hob := small_of_pl hos ⟨(by show Zh.length ≤ 5000; omega), (by show Zg.length ≤ 1000; omega), fun w hw => Nat.le_trans (hb3 w hw) (by decide)⟩
     refine Zby F.zero26 ?_; intro b6
     refine Zas F.lay26 ?_; refine Ze ?_; refine Zc ?_; refine Y_pk [11, 10, 9, 5, 1, 2, 3] ?_; refine Zj ?_; refine Za (l := [0, 1, 2, 3, 4, 5, 6, 7, 8, 9, 10, 11, 12, 13]) rfl ?_; refine Zi F.lay26 ?_
     iterate 3 refine Zf ?_
     refine Zi F.lay39 ?_; refine X_fn rfl rfl F.ok11 rfl (Take_ok _ ⟨Zaf, Zx, ⟨Zr, Zq, Zh⟩, ⟨Zp, Zo, Zg⟩, Zw⟩ ⟨l_a, l_c, l_l⟩ r frm ⟨Zbx, Zbm, Zbr, ⟨Zv, Zao, Zap, Zy, Zbc⟩, ⟨Zab, Zt, Zae, Zad⟩, Zbd, ⟨Zs, Zai, Zah, ⟨Zn, Zm, Zk⟩⟩⟩ (hs0.mono hm1) (k_l.mono hm1) (hp2.mono hm1) (by show Zg.length ≤ 1000; omega)) rfl ?_
     rintro _ M2 hm2 hv
     replace hv : SrvE _ _ (srvR (ServerV.pl ⟨Zaf, Zx, ⟨Zr, Zq, Zh⟩, ⟨Zp, Zo, Zg⟩, Zw⟩) l_l r frm (ParcelV.pl ⟨Zbx, Zbm, Zbr, ⟨Zv, Zao, Zap, Zy, Zbc⟩, ⟨Zab, Zt, Zae, Zad⟩, Zbd, ⟨Zs, Zai, Zah, ⟨Zn, Zm, Zk⟩⟩⟩)) := hv
     rw [hR] at hv
     obtain ⟨⟨Zgs, Zgn, ⟨a_sa, a_sc, a_sl⟩, ⟨a_wa, a_wc, a_wl⟩, Zfz⟩, ⟨x_a, x_c, x_l⟩, rfl, ha, hx, ok_a, k_x, l_x⟩ := hv
     simp only at ha hx l_x
     refine Zf ?_
     iterate 3 refine Zcf ?_
     refine Zby F.zero26 ?_; intro b7
     refine Zas F.lay26 ?_
     iterate 2 refine Zd ?_
     refine Ze ?_; refine Zc ?_; refine Y_pk [14, 13, 12, 11, 10, 9, 5, 1, 2, 3] ?_; refine Zj ?_; refine Za (l := [0, 1, 2, 3, 4, 5, 6, 7, 8, 9, 10, 11, 12, 13]) rfl ?_; refine Zi F.lay26 ?_
     iterate 3 refine Zf ?_
     refine Zi F.lay39 ?_; refine X_fn rfl rfl F.ok12 rfl (rTake_ok _ ⟨Zeg, Zcv, ⟨Zcq, Zcp, Zca⟩, ⟨Zcu, Zct, Zce⟩, Zcx⟩ ⟨l_a, l_c, l_l⟩ r frm ⟨Zbx, Zbm, Zbr, ⟨Zv, Zao, Zap, Zy, Zbc⟩, ⟨Zab, Zt, Zae, Zad⟩, Zbd, ⟨Zs, Zai, Zah, ⟨Zn, Zm, Zk⟩⟩⟩ (oko.mono hm2) (k_l.mono (hm1.trans hm2)) (hp2.mono (hm1.trans hm2)) hob) rfl ?_
     rintro _ M3 hm3 hv
     replace hv : SrvE _ _ (srvR (ServerV.pl ⟨Zeg, Zcv, ⟨Zcq, Zcp, Zca⟩, ⟨Zcu, Zct, Zce⟩, Zcx⟩) l_l r frm (ParcelV.pl ⟨Zbx, Zbm, Zbr, ⟨Zv, Zao, Zap, Zy, Zbc⟩, ⟨Zab, Zt, Zae, Zad⟩, Zbd, ⟨Zs, Zai, Zah, ⟨Zn, Zm, Zk⟩⟩⟩)) := hv
     rw [hos] at hv
     rw [hR] at hv
     obtain ⟨⟨b_addr, b_epoch, ⟨b_sa, b_sc, b_sl⟩, ⟨b_wa, b_wc, b_wl⟩, Zgh⟩, ⟨y_a, y_c, y_l⟩, rfl, hb, hy, ok_b, k_y, l_y⟩ := hv
     simp only at hb hy l_y
     refine Zf ?_
     iterate 3 refine Zcf ?_
     refine Zby F.zero26 ?_; intro b8
     refine Zas F.lay26 ?_
     iterate 2 refine Zd ?_
     refine Ze ?_; refine Zc ?_; refine Y_pk [17, 16, 15, 14, 13, 12, 11, 10, 5] ?_; refine Zj ?_; refine Zar (l := [0, 1, 2, 3, 4, 5, 6, 7, 8, 9, 10, 11, 12, 13, 14, 15, 16, 17, 18, 19, 20, 21, 22, 23, 24, 25, 26, 27, 28]) #[0, 1, 3, 7, 3, 31, 63, 127, 255, 511, 511, 2047, 4095, 8191, 16383, 16383, 65535, 131071, 262143, 524287, 524287, 2097151, 4194303, 8388607, 16777215, 16777215, 67108863, 134217727, 268435455] _ rfl (by kernel_rfl) (by kernel_rfl) St.drawn (fun _ h => h) ?_; refine X_fn rfl rfl F.ok13 rfl (served_ok _) rfl ?_
     rintro _ M99 hm99 rfl
     refine Zf ?_
     refine Zag 52 rfl (fun hc9 => ?_) (fun hc9 => ?_)
     ·skip
      simp only [AnswerV.eta, MarkV.eta, CellV.eta, HeldV.eta, WaitV.eta, ServerV.eta, PeerV.eta, OpV.eta, ParcelV.eta, PostV.eta, WorkerV.eta] at hc9
      refine Zi F.lay26 ?_; refine X_fs rfl rfl F.ok14 rfl (SIs_ok _ ⟨Zaf, Zx, ⟨Zr, Zq, Zh⟩, ⟨Zp, Zo, Zg⟩, Zw⟩ (hs0.mono (by (repeat first | assumption | refine Mem.le.trans (by assumption) ?_)))) rfl ?_
      rintro _ rfl
      refine Zi F.lay26 ?_; refine X_fs rfl rfl F.ok15 rfl (rSIs_ok _ ⟨Zaf, Zx, ⟨Zr, Zq, Zh⟩, ⟨Zp, Zo, Zg⟩, Zw⟩ (hs0.mono (by (repeat first | assumption | refine Mem.le.trans (by assumption) ?_)))) rfl ?_
      rintro _ rfl
      refine X_eqb rfl rfl rfl rfl rfl Tryz.underlying4 rfl ?_; refine Zl ?_; refine Zf ?_
      refine Zag 59 rfl (fun hc10 => ?_) (fun hc10 => ?_)
      ·replace hc10 := dT hc10
       simp only [AnswerV.eta, MarkV.eta, CellV.eta, HeldV.eta, WaitV.eta, ServerV.eta, PeerV.eta, OpV.eta, ParcelV.eta, PostV.eta, WorkerV.eta] at hc10
       iterate 2 refine Zi F.lay26 ?_
       refine X_fs rfl rfl F.ok16 rfl (SameV_ok _ ⟨Zgs, Zgn, ⟨a_sa, a_sc, a_sl⟩, ⟨a_wa, a_wc, a_wl⟩, Zfz⟩ ⟨b_addr, b_epoch, ⟨b_sa, b_sc, b_sl⟩, ⟨b_wa, b_wc, b_wl⟩, Zgh⟩ (ok_a.mono (by (repeat first | assumption | refine Mem.le.trans (by assumption) ?_))) (ok_b.mono (by assumption))) rfl ?_
       rintro _ hv
       rw [decide_eq_true (ha.trans hb.symm)] at hv
       subst hv
       refine Zl ?_; refine Zf ?_
       refine Zag 64 rfl (fun hc11 => ?_) (fun hc11 => ?_)
       ·skip
        simp only [AnswerV.eta, MarkV.eta, CellV.eta, HeldV.eta, WaitV.eta, ServerV.eta, PeerV.eta, OpV.eta, ParcelV.eta, PostV.eta, WorkerV.eta] at hc11
        iterate 2 refine Zf ?_
        refine X_fs rfl rfl F.ok17 rfl (Posts_ok _ ⟨x_a, x_c, x_l⟩ ⟨y_a, y_c, y_l⟩ (k_x.mono (by (repeat first | assumption | refine Mem.le.trans (by assumption) ?_))) (fun h hh => (l_x h hh).mono (by (repeat first | assumption | refine Mem.le.trans (by assumption) ?_))) (k_y.mono (by assumption)) (fun h hh => (l_y h hh).mono (by assumption))) rfl ?_
        rintro _ hv
        rw [decide_eq_true (show x_l.map PostV.pl = y_l.map PostV.pl from hx.trans hy.symm)] at hv
        subst hv
        refine Zl ?_; refine Zf ?_
        refine Zag 69 rfl (fun hc12 => ?_) (fun hc12 => ?_)
        ·skip
         simp only [AnswerV.eta, MarkV.eta, CellV.eta, HeldV.eta, WaitV.eta, ServerV.eta, PeerV.eta, OpV.eta, ParcelV.eta, PostV.eta, WorkerV.eta] at hc12
         iterate 2 refine Zf ?_
         refine Zav ?_; refine Zl ?_; refine Zf ?_
         refine Zag 74 rfl (fun hc13 => ?_) (fun hc13 => ?_)
         ·replace hc13 := dT hc13
          simp only [AnswerV.eta, MarkV.eta, CellV.eta, HeldV.eta, WaitV.eta, ServerV.eta, PeerV.eta, OpV.eta, ParcelV.eta, PostV.eta, WorkerV.eta] at hc13
          iterate 2 refine Zi F.lay26 ?_
          refine X_fs rfl rfl F.ok16 rfl (SameV_ok _ ⟨Zaf, Zx, ⟨Zr, Zq, Zh⟩, ⟨Zp, Zo, Zg⟩, Zw⟩ ⟨Zeg, Zcv, ⟨Zcq, Zcp, Zca⟩, ⟨Zcu, Zct, Zce⟩, Zcx⟩ (hs0.mono (by (repeat first | assumption | refine Mem.le.trans (by assumption) ?_))) (oko.mono (by (repeat first | assumption | refine Mem.le.trans (by assumption) ?_)))) rfl ?_
          rintro _ hv
          rw [decide_eq_true hos.symm] at hv
          subst hv
          refine Zl ?_; refine Zd ?_; refine Ze ?_; refine Zc ?_; refine Y_pk [10] ?_; refine Zak ?_
          refine Zaj (.inr rfl) (.tmp rfl .nil) (fun w hw => ?_)
          refine ⟨_, _, rfl, (by exact hm1.trans (hm2.trans (hm3.trans hm99))), (hw.c), ?_⟩
          clear hw
          rfl
         ·replace hc13 := dF hc13
          simp only [AnswerV.eta, MarkV.eta, CellV.eta, HeldV.eta, WaitV.eta, ServerV.eta, PeerV.eta, OpV.eta, ParcelV.eta, PostV.eta, WorkerV.eta] at hc13
          (exfalso; simp [eqX] at hc13; done)
        ·skip
         (exfalso; simp [eqX] at hc12; done)
       ·skip
        (exfalso; simp [eqX] at hc11; done)
      ·replace hc10 := dF hc10
       simp only [AnswerV.eta, MarkV.eta, CellV.eta, HeldV.eta, WaitV.eta, ServerV.eta, PeerV.eta, OpV.eta, ParcelV.eta, PostV.eta, WorkerV.eta] at hc10
       (exfalso; simp [eqX] at hc10; done)
     ·skip
      (exfalso; simp [eqX] at hc9; done)
end Go.Proofs.YtpkeilhilpogiaaGreat
