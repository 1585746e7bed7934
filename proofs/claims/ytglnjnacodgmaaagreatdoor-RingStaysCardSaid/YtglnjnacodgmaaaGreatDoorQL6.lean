/-
  Texts of this claim, one behind the other: R7, R8, R9, R10, RingX, U1, U2, U3, NodeL, KnowL, U4.
-/
import Derived.Test.YtglnjnacodgmaaaGreatDoorQL5
import Derived.KernelRfl
set_option linter.unusedSimpArgs false
set_option linter.unusedVariables false
set_option linter.unnecessarySimpa false
set_option maxRecDepth 8000
set_option maxHeartbeats 1000000
namespace Go.Proofs.YtglnjnacodgmaaaGreatDoor
open Go.Esp
theorem F.foff31_2:foff Tryz.prog 31 2=some 2:=by kernel_rfl
theorem F.lay31:lay Tryz.prog 31=some (true,3):=by kernel_rfl
theorem F.ok28:okFn Tryz.prog 28=true:=by kernel_rfl
theorem F.ok29:okFn Tryz.prog 29=true:=by kernel_rfl
theorem F.ok30:okFn Tryz.prog 30=true:=by kernel_rfl
theorem F.ok34:okFn Tryz.prog 34=true:=by kernel_rfl
theorem F.ok35:okFn Tryz.prog 35=true:=by kernel_rfl
theorem Do_okR (M:Mem) (gb:Nat) (N:Int) (r:Rg) (Hb:Hp) (hR:YX gb N r M Hb) (t:Yy) (hM:M.dr=0) (hP:PowM M) (hN:N+1000000≤1000000000000000):Fh Tryz.prog 10 [.pointer (some ⟨gb,0,none⟩),t.enc] M Hb (fun M' v Hb'=>v=.int .i64 (doR K.peerN r ⟨t.kind,t.a,t.b⟩).2∧YX gb (N+1000000) (doR K.peerN r ⟨t.kind,t.a,t.b⟩).1 M' Hb'):=by
  obtain ⟨XP,t_a,t_b⟩:=t
  refine YR (fun H=>Hb++H) (fun _=>rfl) Tryz.func10 rfl Tryz.ntmps10 rfl ?_;intro H
  iterate 2 refine Stp ?_
  refine Xq ?_;intro b1
  iterate 7 refine Stp ?_
  refine Tx Tryz.underlying24 ?_
  iterate 2 refine Stp ?_
  refine ZW rfl (fun hc2=>?_) (fun hc2=>?_)
  ·skip
   (exfalso;simp [eqX] at hc2;done)
  ·skip
   iterate 5 refine Stp ?_
   refine Zi F.foff31_0 ?_;refine Zy F.lay3 ?_
   iterate 9 refine Stp ?_
   refine ZW rfl (cT fun hc3=>?_) (cF fun hc3=>?_)
   ·refine VP ?_
    refine Wh (l:=[0,1,2,3,4]) (Hin:=Hb) jA rfl ?_;refine Yk ?_;refine Zi F.foff31_1 ?_;refine Zy F.lay3 ?_;refine WE rfl rfl F.ok28 rfl (begin_okR M gb N r Hb hR t_a hM hP) jA (fun _ _ _ hm hw=>(hw.lower jV).c) (ZT rfl) ?_
    rintro _ M9 hb9 hm9 ⟨rfl,hR9⟩
    iterate 6 refine Stp ?_
    refine ZV (.inr rfl) (.tmp rfl .nil) (fun w hw=>?_)
    have e9:doR K.peerN r ⟨XP,t_a,t_b⟩=_:=do1 (t:=(⟨XP,t_a,t_b⟩:Trn)) jE
    exact ⟨_,M9,hb9,rfl,hm9,hw.c,by rw [e9];rfl,by rw [e9];exact hR9.mono jC (Mem.le.refl _)⟩
   ·iterate 6 refine Stp ?_
    refine ZW rfl (cT fun hc4=>?_) (cF fun hc4=>?_)
    ·refine VP ?_
     refine Wh (l:=[0,1,2,3,4,5,6]) (Hin:=Hb) jA rfl ?_;refine Yk ?_;refine Zi F.foff31_1 ?_;refine Zy F.lay3 ?_;refine Zi F.foff31_2 ?_;refine Zy F.lay3 ?_;refine WE rfl rfl F.ok29 rfl (join_okR M gb N r Hb hR t_a t_b hM hP) jA (fun _ _ _ hm hw=>(hw.lower jV).c) (ZT rfl) ?_
     rintro _ M9 hb9 hm9 ⟨rfl,hR9⟩
     iterate 6 refine Stp ?_
     refine ZV (.inr rfl) (.tmp rfl .nil) (fun w hw=>?_)
     have e9:doR K.peerN r ⟨XP,t_a,t_b⟩=_:=do2 (t:=(⟨XP,t_a,t_b⟩:Trn)) jE
     exact ⟨_,M9,hb9,rfl,hm9,hw.c,by rw [e9];rfl,by rw [e9];exact hR9.mono jC (Mem.le.refl _)⟩
    ·iterate 7 refine Stp ?_
     refine C_part 25 rfl (cT fun hc5=>?_) (cF fun hc5=>?_)
     ·iterate 5 refine Stp ?_
      refine Wh (l:=[0,1,2,3]) (Hin:=Hb) jA rfl ?_;refine Yk ?_;refine Zy F.lay31 ?_;refine WE rfl rfl F.ok30 rfl (goes_okR M gb N r Hb hR ⟨XP,t_a,t_b⟩ jC) jA (fun _ _ _ hm hw=>(hw.lower jV).c) (ZT rfl) ?_
      rintro _ M9 hb9 hm9 ⟨rfl,hR9⟩
      iterate 6 refine Stp ?_
      refine ZV (.inr rfl) (.tmp rfl .nil) (fun w hw=>?_)
      have e9:doR K.peerN r ⟨XP,t_a,t_b⟩=_:=do34 (t:=(⟨XP,t_a,t_b⟩:Trn)) (by show XP=3∨XP=4;omega)
      exact ⟨_,M9,hb9,rfl,hm9,hw.c,by rw [e9];rfl,by rw [e9];exact hR9.mono jC (Mem.le.refl _)⟩
     ·iterate 6 refine Stp ?_
      refine ZW rfl (cT fun hc6=>?_) (cF fun hc6=>?_)
      ·refine VP ?_
       refine Wh (l:=[0,1,2,3]) (Hin:=Hb) jA rfl ?_;refine Yk ?_;refine Zy F.lay31 ?_;refine WE rfl rfl F.ok30 rfl (goes_okR M gb N r Hb hR ⟨XP,t_a,t_b⟩ jC) jA (fun _ _ _ hm hw=>(hw.lower jV).c) (ZT rfl) ?_
       rintro _ M9 hb9 hm9 ⟨rfl,hR9⟩
       iterate 6 refine Stp ?_
       refine ZV (.inr rfl) (.tmp rfl .nil) (fun w hw=>?_)
       have e9:doR K.peerN r ⟨XP,t_a,t_b⟩=_:=do34 (t:=(⟨XP,t_a,t_b⟩:Trn)) (by show XP=3∨XP=4;omega)
       exact ⟨_,M9,hb9,rfl,hm9,hw.c,by rw [e9];rfl,by rw [e9];exact hR9.mono jC (Mem.le.refl _)⟩
      ·iterate 6 refine Stp ?_
       refine ZW rfl (cT fun hc7=>?_) (cF fun hc7=>?_)
       ·refine VP ?_
        refine Wh (l:=[0,1,2,3,4,5,6]) (Hin:=Hb) jA rfl ?_;refine Yk ?_;refine Zi F.foff31_1 ?_;refine Zy F.lay3 ?_;refine Zi F.foff31_2 ?_;refine Zy F.lay3 ?_;refine WE rfl rfl F.ok31 rfl (tick_okR M gb N r Hb hR t_a t_b jC) jA (fun _ _ _ hm hw=>(hw.lower jV).c) (ZT rfl) ?_
        rintro _ M9 hb9 hm9 ⟨rfl,hR9⟩
        iterate 6 refine Stp ?_
        refine ZV (.inr rfl) (.tmp rfl .nil) (fun w hw=>?_)
        have e9:doR K.peerN r ⟨XP,t_a,t_b⟩=_:=do5 (t:=(⟨XP,t_a,t_b⟩:Trn)) jE
        exact ⟨_,M9,hb9,rfl,hm9,hw.c,by rw [e9];rfl,by rw [e9];exact hR9.mono jC (Mem.le.refl _)⟩
       ·iterate 6 refine Stp ?_
        refine ZW rfl (cT fun hc8=>?_) (cF fun hc8=>?_)
        ·refine VP ?_
         refine Wh (l:=[0,1,2,3,4]) (Hin:=Hb) jA rfl ?_;refine Yk ?_;refine Zi F.foff31_1 ?_;refine Zy F.lay3 ?_;refine WE rfl rfl F.ok32 rfl (deliver_okR M gb N r Hb hR t_a jC) jA (fun _ _ _ hm hw=>(hw.lower jV).c) (ZT rfl) ?_
         rintro _ M9 hb9 hm9 ⟨rfl,hR9⟩
         iterate 6 refine Stp ?_
         refine ZV (.inr rfl) (.tmp rfl .nil) (fun w hw=>?_)
         have e9:doR K.peerN r ⟨XP,t_a,t_b⟩=_:=do6 (t:=(⟨XP,t_a,t_b⟩:Trn)) jE
         exact ⟨_,M9,hb9,rfl,hm9,hw.c,by rw [e9];rfl,by rw [e9];exact hR9.mono jC (Mem.le.refl _)⟩
        ·iterate 6 refine Stp ?_
         refine ZW rfl (cT fun hc9=>?_) (cF fun hc9=>?_)
         ·refine VP ?_
          obtain ⟨mb,bb,o,jl,hb,rfl,hbag,hom,hri⟩:=hR
          simp only [List.cons_append]
          refine C_region_anyR (l:=[0,1,2,3,4,5,6,7,8,9,10,11,12]) (Hin:=hb) #[0,1,3,7,0,16,63,127,255,255,0,1535,4095] jA rfl jI jI ?_
          iterate 2 refine Stp ?_
          refine Zi F.foff78_2 ?_;refine Zy F.lay73 ?_;refine Zi F.foff31_1 ?_;refine Zy F.lay3 ?_;refine WE rfl rfl F.ok33 rfl (B.Take_ok M bb r.most N (r.bag.map WX) hb t_a hbag) jA (fun _ _ _ hm hw=>(hw.lower jV).c) (ZT rfl) ?_
          rintro _ M1 hb1 hm1 ⟨hM1,rfl,hbag1⟩;subst M1
          obtain ⟨⟨m_frm,m_to,m_body⟩,hm9⟩:∃ m,atM t_a (r.bag.map WX)=m:=⟨_,rfl⟩
          rw [hm9]
          iterate 3 refine Stp ?_
          refine Yz F.zero82 ?_;intro b10
          refine Ya F.lay82 ?_
          iterate 12 refine Stp ?_
          refine ZV (.inr rfl) (.tmp rfl .nil) (fun w hw=>?_)
          have e9:doR K.peerN r ⟨XP,t_a,t_b⟩=_:=do7 (t:=(⟨XP,t_a,t_b⟩:Trn)) jE
          have g9:=drop_is r t_a
          exact ⟨_,M,((gb,rowO [.one (.int .i64 r.copies),.one (.map (some mb)),.one (.pointer (some ⟨bb,0,none⟩))] 78)::(mb,o)::hb1),rfl,Mem.le.refl M,hw.c,by rw [e9];exact congrArg (Value.int .i64) g9.1,by rw [e9];exact YX.rebag (by rw [← g9.2.1];exact hbag1.mono jC) hom hri g9.2.2.1 g9.2.2.2⟩
         ·iterate 6 refine Stp ?_
          refine ZW rfl (cT fun hc11=>?_) (cF fun hc11=>?_)
          ·refine VP ?_
           obtain ⟨mb,bb,o,jl,hb,rfl,hbag,hom,hri⟩:=hR
           simp only [List.cons_append]
           refine C_region_anyR (l:=[0,1,2,3,4,5,6,7]) (Hin:=hb) #[0,1,3,7,0,16,63,127] jA rfl jI jI ?_
           iterate 2 refine Stp ?_
           refine Zi F.foff78_2 ?_;refine Zy F.lay73 ?_;refine Zi F.foff31_1 ?_;refine Zy F.lay3 ?_;refine WE rfl rfl F.ok34 rfl (B.Twice_ok M bb r.most N (r.bag.map WX) hb t_a jC hbag) jA (fun _ _ _ hm hw=>(hw.lower jV).c) (ZT rfl) ?_
           rintro _ M1 hb1 hm1 ⟨hM1,rfl,hbag1⟩;subst M1
           iterate 6 refine Stp ?_
           refine ZV (.inr rfl) (.tmp rfl .nil) (fun w hw=>?_)
           have e9:doR K.peerN r ⟨XP,t_a,t_b⟩=_:=do8 (t:=(⟨XP,t_a,t_b⟩:Trn)) jE
           have g9:=twice_is t_a hri.mail
           exact ⟨_,M,((gb,rowO [.one (.int .i64 r.copies),.one (.map (some mb)),.one (.pointer (some ⟨bb,0,none⟩))] 78)::(mb,o)::hb1),rfl,Mem.le.refl M,hw.c,by rw [e9];exact congrArg (Value.int .i64) g9.1,by rw [e9];exact YX.rebag (by rw [← g9.2.1];exact hbag1.mono jC) hom hri g9.2.2.1 g9.2.2.2⟩
          ·iterate 6 refine Stp ?_
           refine ZW rfl (cT fun hc12=>?_) (cF fun hc12=>?_)
           ·refine VP ?_
            refine Wh (l:=[0,1]) (Hin:=Hb) jA rfl ?_;refine Yk ?_;refine WE rfl rfl F.ok35 rfl (round_okR M gb N r Hb hR hN) jA (fun _ _ _ hm hw=>(hw.lower jV).c) (ZT rfl) ?_
            rintro _ M9 hb9 hm9 ⟨rfl,hR9⟩
            iterate 10 refine Stp ?_
            refine ZV (.inr rfl) (.tmp rfl .nil) (fun w hw=>?_)
            have e9:doR K.peerN r ⟨XP,t_a,t_b⟩=_:=do9 (t:=(⟨XP,t_a,t_b⟩:Trn)) jE
            exact ⟨_,M9,hb9,rfl,hm9,hw.c,by rw [e9];rfl,by rw [e9];exact hR9.mono jC (Mem.le.refl _)⟩
           ·iterate 9 refine Stp ?_
            refine ZV (.inr rfl) (.tmp rfl .nil) (fun w hw=>?_)
            have e9:doR K.peerN r ⟨XP,t_a,t_b⟩=_:=do0 (t:=(⟨XP,t_a,t_b⟩:Trn)) (by show ¬(1≤XP∧XP≤9);omega)
            exact ⟨_,M,Hb,rfl,Mem.le.refl M,hw.c,by rw [e9];rfl,by rw [e9];exact hR.mono jC (Mem.le.refl _)⟩
theorem F.ok39:okFn Tryz.prog 39=true:=by kernel_rfl
theorem Node_okR (M:Mem) (gb:Nat) (N:Int) (r:Rg) (Hb:Hp) (hR:YX gb N r M Hb) (a:Int):Fo Tryz.prog 13 [.pointer (some ⟨gb,0,none⟩),.int .i64 a] M Hb (fun M' v=>M'=M∧NodeR M r a v):=by
  obtain ⟨mb,bb,o,jl,hb,rfl,hbag,hom,hri⟩:=hR
  refine fo_enterF (fun H=>(gb,rowO [.one (.int .i64 r.copies),.one (.map (some mb)),.one (.pointer (some ⟨bb,0,none⟩))] 78)::(mb,o)::(hb++H)) (fun _=>by simp only [List.append_assoc,List.cons_append,List.nil_append]) Tryz.func13 rfl Tryz.ntmps13 rfl ?_;intro H
  iterate 2 refine Stp ?_
  refine Yz F.zero44 ?_;intro b1
  iterate 7 refine Stp ?_
  refine Tx Tryz.underlying24 ?_
  iterate 2 refine Stp ?_
  refine ZW rfl (fun hc2=>?_) (fun hc2=>?_)
  ·skip
   (exfalso;simp [eqX] at hc2;done)
  ·skip
   iterate 6 refine Stp ?_
   refine Zi F.foff78_1 ?_;refine Zy F.lay76 ?_;refine Yk ?_;refine X_lookup2J (en:=ZJ.enc) (z:=ZJ.zero) rfl rfl rfl rfl ⟨Tryz.underlying3⟩ Tryz.underlying76 (show _=some (ZJ.enc ZJ.zero) from F.zero44) jB hom rfl ?_
   obtain ⟨⟨⟨⟨Xd,XQ⟩,⟨XO,XZ⟩,⟨We,Wd,Wc⟩,⟨XH,XG,XF⟩⟩,UE,UA,TJ,UD,Sq,Tk,UF,Uz,Uc,UB,Ud,UC,⟨Ug,Uf,Ue⟩,TI,TH⟩,hx9⟩:∃ x:ZJ,(Wg jl (a)).getD ZJ.zero=x:=⟨_,rfl⟩
   rw [hx9]
   iterate 3 refine Stp ?_
   refine Yz F.zero44 ?_;intro b3
   refine Wf F.lay44 ?_
   iterate 10 refine Stp ?_
   refine ZW rfl (fun hc4=>?_) (fun hc4=>?_)
   ·skip
    iterate 2 refine Stp ?_
    refine Xo rfl rfl F.bld44 (.nil) rfl rfl ?_;refine Wf F.lay44 ?_
    iterate 5 refine Stp ?_
    refine ZV (.inr rfl) (.cell rfl jB F.lay44 rfl rfl (.tmp rfl .nil)) (fun w hw=>?_)
    exact ⟨_,M,rfl,Mem.le.refl M,hw.c,rfl,ZJ.zero,7,rfl,ZJ.zero_ok M,.inr ⟨hri.none (by exact isS_no jE),rfl⟩⟩
   ·skip
    iterate 4 refine Stp ?_
    refine Zy F.lay44 ?_;refine Wf F.lay44 ?_
    iterate 4 refine Stp ?_
    refine ZV (.inr rfl) (.cell rfl jB F.lay44 rfl rfl (.tmp rfl .nil)) (fun w hw=>?_)
    have hsm:=hri.some hx9 (by exact isS_yes jE)
    exact ⟨_,M,rfl,Mem.le.refl M,hw.c,rfl,⟨⟨⟨Xd,XQ⟩,⟨XO,XZ⟩,⟨We,Wd,Wc⟩,⟨XH,XG,XF⟩⟩,UE,UA,TJ,UD,Sq,Tk,UF,Uz,Uc,UB,Ud,UC,⟨Ug,Uf,Ue⟩,TI,TH⟩,0,rfl,hsm.2,.inl ⟨_,hsm.1,rfl,rfl⟩⟩
theorem F.ok49:okFn Tryz.prog 49=true:=by kernel_rfl
theorem F.ok50:okFn Tryz.prog 50=true:=by kernel_rfl
theorem EqP_ok (M:Mem) (a:(Sl Zs)) (b:(Sl Zs)) (ha0:SlK M Zs.segs 21 a) (hb1:SlK M Zs.segs 21 b):Fs Tryz.prog 50 [Sl.val a,Sl.val b] M (fun v=>v=Value.bool (decide (a.l=b.l))):=by
  obtain ⟨a_a,a_c,a_l⟩:=a
  obtain ⟨b_a,b_c,b_l⟩:=b
  have k_a:SlK M Zs.segs 21 ⟨a_a,a_c,a_l⟩:=ha0
  have s_a:SlM M a_a (a_l.map Zs.segs) 21:=k_a.h1
  have n_a:(a_l.map Zs.segs).length=a_l.length:=List.length_map ..
  have m_a:a_l.length≤9223372036854775807:=k_a.h2
  have c_a:a_l.length≤a_c:=k_a.h3
  have k_b:SlK M Zs.segs 21 ⟨b_a,b_c,b_l⟩:=hb1
  have s_b:SlM M b_a (b_l.map Zs.segs) 21:=k_b.h1
  have n_b:(b_l.map Zs.segs).length=b_l.length:=List.length_map ..
  have m_b:b_l.length≤9223372036854775807:=k_b.h2
  have c_b:b_l.length≤b_c:=k_b.h3
  refine Xe Tryz.func50 rfl Tryz.ntmps50 rfl ?_;intro H
  iterate 9 refine Stp ?_
  refine YA F.elem39 ?_;refine Yk ?_;refine YA F.elem39 ?_
  iterate 3 refine Stp ?_
  refine ZW rfl (eT fun hc1=>?_) (eF fun hc1=>?_)
  ·iterate 7 refine Stp ?_
   refine ZV (.inr rfl) (.tmp rfl .nil) (fun w hw=>?_)
   refine ⟨_,rfl,(hw.c),?_⟩
   clear hw
   refine congrArg Value.bool ?_
   exact (decide_eq_false (fun h9=>by subst h9;simp_all)).symm
  ·iterate 6 refine Stp ?_
   refine YA F.elem39 ?_
   iterate 4 refine Stp ?_
   refine Y_pk [13,12,4,0,1] ?_;refine VI (.succ .zero) (fun (k:Nat) z=>z=[(13,.int .i64 (k:Int))]∧k≤a_l.length∧(∀ j (h2:j<a_l.length) (h3:j<b_l.length),j<k→a_l[j]=b_l[j])) (fun k=>a_l.length-k) (0) (⟨rfl,by omega,by (intro j h2 h3 hj;omega)⟩) ?_
   rintro k _ ⟨rfl,hk,hI⟩
   iterate 6 refine Stp ?_
   refine ZW rfl (cT fun hc2=>?_) (cF fun hc2=>?_)
   ·iterate 11 refine Stp ?_
    refine Yg (l:=[0,1,2,3,4,5,6,7,8]) #[0,0,3,7,0,0,48,112,255] _ rfl jI jI St.drawn (fun _ h=>h) ?_
    iterate 2 refine Stp ?_
    refine Ys rfl rfl rfl rfl F.elem39 jR jC yB rfl ?_;refine Xm rfl rfl rfl jE yC F.lay38 rfl rfl rfl ?_
    iterate 2 refine Stp ?_
    refine Ys rfl rfl rfl rfl F.elem39 jR jC yB rfl ?_;refine Xm rfl rfl rfl jE yC F.lay38 rfl rfl rfl ?_
    refine VE (m:=20) rfl rfl rfl rfl rfl jG jG F.lay38 F.kinds38 rfl F.guard38 (by exact XE _) (by exact XE _) rfl rfl rfl ?_;intro c3 he4
    replace he4:c3=true↔¬(Segs.cells _=Segs.cells _):=he4
    obtain rfl:=neD he4 (Zs.inj (x:=⟨_,_⟩) (y:=⟨_,_⟩));clear he4
    iterate 2 refine Stp ?_
    refine ZW rfl (eT fun hc5=>?_) (eF fun hc5=>?_)
    ·simp only [Zs.eta,ZO.eta,ZJ.eta,ZF.eta,Ym.eta,Yv.eta,Yy.eta,Yq.eta,ZN.eta,YF.eta,ZU.eta] at hc5
     simp only [List.get_eq_getElem] at hc5
     iterate 11 refine Stp ?_
     refine ZV (.inr rfl) (.tmp rfl .nil) (fun w hw=>?_)
     refine ⟨_,rfl,(hw.c),?_⟩
     clear hw
     refine congrArg Value.bool ?_
     exact (decide_eq_false (fun h9=>by subst h9;simp_all)).symm
    ·simp only [Zs.eta,ZO.eta,ZJ.eta,ZF.eta,Ym.eta,Yv.eta,Yy.eta,Yq.eta,ZN.eta,YF.eta,ZU.eta] at hc5
     simp only [List.get_eq_getElem] at hc5
     iterate 4 refine Stp ?_
     refine YO rfl rfl rfl rfl rfl yA rfl ?_
     iterate 2 refine Stp ?_
     refine Vq (a':=[(13,_)]) (k+1) (.cons (k:=13) rfl (.cons (k:=12) rfl (.cons (k:=4) rfl (.cons (k:=0) rfl (.cons (k:=1) rfl (.nil)))))) (fun w hw=>by first|exact hw|exact hw.c) ?_ ?_
     ·refine ⟨rfl,by omega,?_⟩
      (intro j h2 h3 hj;rcases Nat.lt_or_ge j k with h9|h9;exact hI j h2 h3 h9;obtain rfl:j=k:=jC;simp_all)
     ·omega
   ·iterate 11 refine Stp ?_
    refine ZV (.inr rfl) (.tmp rfl .nil) (fun w hw=>?_)
    refine ⟨_,rfl,(hw.c),?_⟩
    clear hw
    refine congrArg Value.bool ?_
    exact (decide_eq_true (List.ext_getElem jC (fun j h2 h3=>hI j h2 h3 jC))).symm
theorem Ideal_okR (M:Mem) (gb:Nat) (N:Int) (r:Rg) (Hb:Hp) (hR:YX gb N r M Hb) (hM:M.dr=0) (hP:PowM M):Fo Tryz.prog 23 [.pointer (some ⟨gb,0,none⟩)] M Hb (fun M' v=>v=.bool (VW K.peerN r)):=by
  obtain ⟨mb,bb,o,jl,hb,rfl,hbag,hom,hri⟩:=hR
  refine fo_enterF (fun H=>(gb,rowO [.one (.int .i64 r.copies),.one (.map (some mb)),.one (.pointer (some ⟨bb,0,none⟩))] 78)::(mb,o)::(hb++H)) (fun _=>by simp only [List.append_assoc,List.cons_append,List.nil_append]) Tryz.func23 rfl Tryz.ntmps23 rfl ?_;intro H
  iterate 8 refine Stp ?_
  refine X_fo rfl rfl F.ok11 rfl (Live_ok M gb N r _ (YX.intro (mb:=mb) hbag hom hri)) jA (ZT rfl) ?_
  rintro _ M1 hm1 ⟨⟨l_a,l_c,l_l⟩,rfl,el,k_l⟩
  try simp only at el
  subst el
  simp only [Sl.val]
  refine X_fn rfl rfl F.ok24 rfl (K.Of_ok M1 ⟨l_a,l_c,Tc r⟩ k_l (hm1.loose hM) (digs_all (hP.mono hm1) _)) rfl ?_
  rintro _ M2 hm2 hv
  obtain ⟨⟨c_a,c_c,c_l⟩,e2,rfl,k_c,hcc⟩:=of_live hv
  try simp only at hcc k_c
  simp only [Sl.val]
  iterate 14 refine Stp ?_
  refine ZW rfl (eT fun hc1=>?_) (eF fun hc1=>?_)
  ·iterate 7 refine Stp ?_
   refine ZV (.inr rfl) (.tmp rfl .nil) (fun w hw=>?_)
   have hno:=(hcc.resolve_left (fun h9=>(by assumption:¬e2=0) h9.1)).2
   exact ⟨_,M2,rfl,hm1.trans hm2,hw.c,by rw [ideal_none hno];rfl⟩
  ·iterate 3 refine Stp ?_
   obtain ⟨-,hcir,hcl⟩:=hcc.resolve_right (fun h9=>h9.1 jE)
   rw [← hcl] at hcir
   have hset:settledT c_l r.copies=(setL c_l r.copies.toNat,0):=by
    have h9:=settledT_yes (r:=r.copies.toNat) hcir (by have:=hri.cop;omega) (by have:=hri.cop;omega)
    rwa [show ((r.copies.toNat:Nat):Int)=r.copies by have:=hri.cop;omega] at h9
   iterate 4 refine Stp ?_
   refine Zi F.foff78_0 ?_;refine Zy F.lay3 ?_;refine X_fn rfl rfl F.ok49 rfl (Settled_ok M2 ⟨c_a,c_c,c_l⟩ r.copies k_c) rfl ?_
   rintro _ M3 hm3 hv
   replace hv:TbsE M3 _ (settledT c_l r.copies):=hv
   rw [hset] at hv
   obtain ⟨_,rfl,⟨t_a,t_c,t_l⟩,rfl,et,k_t,o_t⟩:=hv
   try simp only at et k_t o_t
   have s_t:=k_t.h1
   try simp only at s_t
   have n_t:(t_l.map ZO.segs).length=t_l.length:=List.length_map ..
   have m_t:t_l.length≤9223372036854775807:=k_t.h2
   simp only [Sl.val]
   iterate 11 refine Stp ?_
   refine YA F.elem66 ?_
   iterate 4 refine Stp ?_
   refine Y_pk [28,27,26,4,2,0] ?_;refine VI (.succ .zero) (fun (k:Nat) z=>z=[(28,.int .i64 (k:Int))]∧k≤t_l.length∧∀ j (h2:j<t_l.length),j<k→idealAt r (ZO.tb t_l[j])=true) (fun k=>t_l.length-k) (0) (⟨rfl,by omega,by intro j h2 hj;omega⟩) ?_
   rintro k _ ⟨rfl,hk,hI⟩
   iterate 6 refine Stp ?_
   refine ZW rfl (cT fun hc2=>?_) (cF fun hc2=>?_)
   ·iterate 5 refine Stp ?_
    obtain ⟨⟨⟨u_table_self_addr,u_table_self_id⟩,⟨u_table_pred_addr,u_table_pred_id⟩,⟨u_table_succ_a,u_table_succ_c,u_table_succ_l⟩,⟨u_table_fingers_a,u_table_fingers_c,u_table_fingers_l⟩⟩,hq⟩:∃ t,t_l[k]'jC=t:=⟨_,rfl⟩
    have oku:=o_t _ (List.getElem_mem (show k<t_l.length by omega))
    rw [hq] at oku
    have hk9:(setL c_l r.copies.toNat)[k]?=some (ZO.tb ⟨⟨u_table_self_addr,u_table_self_id⟩,⟨u_table_pred_addr,u_table_pred_id⟩,⟨u_table_succ_a,u_table_succ_c,u_table_succ_l⟩,⟨u_table_fingers_a,u_table_fingers_c,u_table_fingers_l⟩⟩):=by rw [← et,List.getElem?_map,List.getElem?_eq_getElem (show k<t_l.length by omega),hq];rfl
    refine Stp ?_;refine Ys rfl rfl rfl rfl F.elem66 jR jC yB rfl ?_;refine Xm rfl rfl rfl jE yC F.lay41 rfl rfl rfl ?_
    simp only [List.get_eq_getElem,hq]
    refine Yz F.zero41 ?_;intro b3
    refine Ya F.lay41 ?_
    iterate 3 refine Stp ?_
    refine Yg (l:=[0,1,2,3,4,5,6,7,8,9]) #[0,1,3,7,0,16,48,127,0,511] _ rfl jI jI St.drawn (fun _ h=>h) ?_
    iterate 2 refine Stp ?_
    refine Zi F.foff78_1 ?_;refine Zy F.lay76 ?_;refine Zi F.foff41_0 ?_;refine Zi F.foff38_0 ?_;refine Zy F.lay3 ?_;refine X_lookupJ (en:=ZJ.enc) (z:=ZJ.zero) rfl rfl rfl rfl ⟨Tryz.underlying3⟩ Tryz.underlying76 (show _=some (ZJ.enc ZJ.zero) from F.zero44) jB hom rfl ?_
    obtain ⟨⟨⟨⟨Xd,XQ⟩,⟨XO,XZ⟩,⟨We,Wd,Wc⟩,⟨XH,XG,XF⟩⟩,UE,UA,TJ,UD,Sq,Tk,UF,Uz,Uc,UB,Ud,UC,⟨Ug,Uf,Ue⟩,TI,TH⟩,hx9⟩:∃ x:ZJ,(Wg jl u_table_self_addr).getD ZJ.zero=x:=⟨_,rfl⟩
    have okx:=(hri.okD hx9).mono ((hm1.trans hm2).trans hm3)
    have hlk:=hri.like (t:=ZO.tb ⟨⟨u_table_self_addr,u_table_self_id⟩,⟨u_table_pred_addr,u_table_pred_id⟩,⟨u_table_succ_a,u_table_succ_c,u_table_succ_l⟩,⟨u_table_fingers_a,u_table_fingers_c,u_table_fingers_l⟩⟩) hx9 rfl
    rw [hx9]
    refine Yz F.zero44 ?_;intro b4
    refine Wf F.lay44 ?_
    iterate 4 refine Stp ?_
    refine Zi F.foff44_2 ?_;refine Zy F.lay4 ?_
    iterate 2 refine Stp ?_
    refine Yt 43 rfl (fun hc5=>?_) (fun hc5=>?_)
    ·skip
     iterate 39 refine Stp ?_
     refine ZV (.inr rfl) (.tmp rfl .nil) (fun w hw=>?_)
     refine ⟨_,M3,rfl,(hm1.trans hm2).trans hm3,hw.c,?_⟩
     rw [ideal_no hcl.symm hk9 zG];rfl
    ·skip
     refine Zi F.foff44_0 ?_;refine Zi F.foff41_1 ?_;refine Zy F.lay38 ?_;refine Zi F.foff41_1 ?_;refine Zy F.lay38 ?_
     refine VE (m:=20) rfl rfl rfl rfl rfl jG jG F.lay38 F.kinds38 rfl F.guard38 jS jS rfl rfl rfl ?_;intro c6 he7
     replace he7:c6=true↔¬(Segs.cells _=Segs.cells _):=he7
     obtain rfl:=neD he7 (Zs.inj (x:=⟨_,_⟩) (y:=⟨_,_⟩));clear he7
     iterate 2 refine Stp ?_
     refine Yt 51 rfl (eT fun hc8=>?_) (eF fun hc8=>?_)
     ·iterate 31 refine Stp ?_
      refine ZV (.inr rfl) (.tmp rfl .nil) (fun w hw=>?_)
      refine ⟨_,M3,rfl,(hm1.trans hm2).trans hm3,hw.c,?_⟩
      rw [ideal_no hcl.symm hk9 zG];rfl
     ·refine Zi F.foff44_0 ?_
      refine Zi F.foff41_2 ?_;refine Zy F.lay39 ?_;refine Zi F.foff41_2 ?_;refine Zy F.lay39 ?_;refine X_fs rfl rfl F.ok50 rfl (EqP_ok _ ⟨We,Wd,Wc⟩ ⟨u_table_succ_a,u_table_succ_c,u_table_succ_l⟩ okx.h0.h0 oku.h0) rfl ?_
      rintro _ rfl
      iterate 3 refine Stp ?_
      refine Yt 60 rfl (eT fun hc9=>?_) (eF fun hc9=>?_)
      ·simp only [Zs.eta,ZO.eta,ZJ.eta,ZF.eta,Ym.eta,Yv.eta,Yy.eta,Yq.eta,ZN.eta,YF.eta,ZU.eta] at hc9
       iterate 22 refine Stp ?_
       refine ZV (.inr rfl) (.tmp rfl .nil) (fun w hw=>?_)
       refine ⟨_,M3,rfl,(hm1.trans hm2).trans hm3,hw.c,?_⟩
       rw [ideal_no hcl.symm hk9 zG];rfl
      ·simp only [Zs.eta,ZO.eta,ZJ.eta,ZF.eta,Ym.eta,Yv.eta,Yy.eta,Yq.eta,ZN.eta,YF.eta,ZU.eta] at hc9
       refine Zi F.foff44_0 ?_;refine Zi F.foff41_3 ?_;refine Zy F.lay39 ?_;refine Zi F.foff41_3 ?_;refine Zy F.lay39 ?_;refine X_fs rfl rfl F.ok50 rfl (EqP_ok _ ⟨XH,XG,XF⟩ ⟨u_table_fingers_a,u_table_fingers_c,u_table_fingers_l⟩ okx.h0.h1 oku.h1) rfl ?_
       rintro _ rfl
       iterate 4 refine Stp ?_
       refine ZW rfl (eT fun hc10=>?_) (eF fun hc10=>?_)
       ·simp only [Zs.eta,ZO.eta,ZJ.eta,ZF.eta,Ym.eta,Yv.eta,Yy.eta,Yq.eta,ZN.eta,YF.eta,ZU.eta] at hc10
        iterate 11 refine Stp ?_
        refine ZV (.inr rfl) (.tmp rfl .nil) (fun w hw=>?_)
        refine ⟨_,M3,rfl,(hm1.trans hm2).trans hm3,hw.c,?_⟩
        rw [ideal_no hcl.symm hk9 zG];rfl
       ·simp only [Zs.eta,ZO.eta,ZJ.eta,ZF.eta,Ym.eta,Yv.eta,Yy.eta,Yq.eta,ZN.eta,YF.eta,ZU.eta] at hc10
        iterate 4 refine Stp ?_
        refine YO rfl rfl rfl rfl rfl yA rfl ?_
        iterate 2 refine Stp ?_
        refine Vq (a':=[(28,_)]) (k+1) (.cons (k:=28) rfl (.cons (k:=27) rfl (.cons (k:=26) rfl (.cons (k:=4) rfl (.cons (k:=2) rfl (.cons (k:=0) rfl (.nil))))))) (fun w hw=>by first|exact hw|exact hw.c) ?_ ?_
        ·refine ⟨rfl,by omega,fun j h2 hj=>?_⟩
         rcases Nat.lt_or_ge j k with h9|h9
         ·exact hI j h2 h9
         ·obtain rfl:j=k:=by omega
          rw [hq,hlk]
          refine like_yes.2 ⟨?_,?_,?_,?_⟩ <;> (show _=_;simp_all [ZJ.nd,ZO.tb])
        ·omega
   ·iterate 13 refine Stp ?_
    refine ZV (.inr rfl) (.tmp rfl .nil) (fun w hw=>?_)
    obtain rfl:k=t_l.length:=by omega
    refine ⟨_,M3,rfl,(hm1.trans hm2).trans hm3,hw.c,?_⟩
    have hall:∀ j (hj:j<(setL c_l r.copies.toNat).length),idealAt r (setL c_l r.copies.toNat)[j]=true:=by
     rw [← et]
     intro j hj
     rw [List.getElem_map]
     rw [List.length_map] at hj
     exact hI j hj hj
    rw [ideal_yes hcl.symm hcir hall];rfl
theorem F.ok23:okFn Tryz.prog 23=true:=by kernel_rfl
theorem Settle_okR (M:Mem) (gb:Nat) (N:Int) (r:Rg) (Hb:Hp) (hR:YX gb N r M Hb) (mn:Nat) (hM:M.dr=0) (hP:PowM M) (hmn:mn≤1000000) (hN:N+1000000 * (mn:Int)≤1000000000000000):Fh Tryz.prog 22 [.pointer (some ⟨gb,0,none⟩),.int .i64 (mn:Int)] M Hb (fun M' v Hb'=>v=.tuple #[.int .i64 ((UN K.peerN mn r).1:Int),.bool (VW K.peerN (UN K.peerN mn r).2)]∧YX gb (N+1000000 * (mn:Int)) (UN K.peerN mn r).2 M' Hb'):=by
  refine YR (fun H=>Hb++H) (fun _=>rfl) Tryz.func22 rfl Tryz.ntmps22 rfl ?_;intro H
  iterate 10 refine Stp ?_
  refine Tx Tryz.underlying24 ?_
  iterate 2 refine Stp ?_
  refine ZW rfl (fun hc1=>?_) (fun hc1=>?_)
  ·skip
   (exfalso;simp [eqX] at hc1;done)
  ·skip
   iterate 9 refine Stp ?_
   refine Y_pk [6,5,4,0,1] ?_;refine Wt (Hin:=Hb) (.succ .zero) jA (fun (k:Nat) M1 h1 z=>∃ r1,z=[(6,.int .i64 (k:Int))]∧k≤mn∧YX gb (N+1000000 * (k:Int)) r1 M1 h1∧Sg K.peerN mn k r r1) (fun k=>mn-k) (0) (⟨r,rfl,by omega,by simpa using hR,Sg.start⟩) ?_
   rintro k M1 h1 z hm1 ⟨r1,rfl,hk,hR1,hs1⟩
   iterate 7 refine Stp ?_
   refine Yt 12 rfl (cT fun hc2=>?_) (cF fun hc2=>?_)
   ·refine Yk ?_
    refine X_fo rfl rfl F.ok23 rfl (Ideal_okR M1 gb _ r1 h1 hR1 (hm1.loose hM) (hP.mono hm1)) jA (ZT rfl) ?_
    rintro _ M2 hm2 rfl
    have hR2:=hR1.mono (Int.le_refl _) hm2
    iterate 4 refine Stp ?_
    refine ZW rfl (fun hc3=>?_) (fun hc3=>?_)
    ·skip
     iterate 4 refine Stp ?_
     refine Wh (l:=[0,1]) (Hin:=h1) jA rfl ?_;refine Yk ?_;refine WE rfl rfl F.ok35 rfl (round_okR M2 gb _ r1 h1 hR2 jC) jA (fun _ _ _ hm hw=>(hw.lower jV).c) (ZT rfl) ?_
     rintro _ M3 hb3 hm3 ⟨rfl,hR3⟩
     iterate 4 refine Stp ?_
     refine YO rfl rfl rfl rfl rfl yA rfl ?_
     iterate 3 refine Stp ?_
     refine Xa (a':=[(6,_)]) (k+1) (hb3) (.cons (k:=6) rfl (.cons (k:=5) rfl (.cons (k:=4) rfl (.cons (k:=0) rfl (.cons (k:=1) rfl (.nil)))))) ((hm1.trans hm2).trans hm3) (fun w hw=>by first|exact hw|exact hw.c) ?_ ?_
     ·exact ⟨TC r1,rfl,by omega,by rw [show N+1000000 * ((k+1:Nat):Int)=N+1000000 * (k:Int)+1000000 by omega];exact hR3,hs1.step jC (by (simp_all;done))⟩
     ·omega
    ·skip
     iterate 9 refine Stp ?_
     refine X_fo rfl rfl F.ok23 rfl (Ideal_okR M2 gb _ r1 h1 hR2 (Mem.le.loose (hm1.trans hm2) hM) (hP.mono (hm1.trans hm2))) jA (ZT rfl) ?_
     rintro _ M4 hm4 rfl
     iterate 5 refine Stp ?_
     refine ZV (.inr rfl) (.tmp rfl (.tmp rfl .nil)) (fun w hw=>?_)
     have e9:=hs1.ends (.inr (by (simp_all;done)))
     exact ⟨_,M4,h1,rfl,((hm1.trans hm2).trans hm4),hw.c,by rw [e9];rfl,by rw [e9];exact hR2.mono jC hm4⟩
   ·iterate 16 refine Stp ?_
    refine X_fo rfl rfl F.ok23 rfl (Ideal_okR M1 gb _ r1 h1 hR1 (Mem.le.loose hm1 hM) (hP.mono hm1)) jA (ZT rfl) ?_
    rintro _ M4 hm4 rfl
    iterate 5 refine Stp ?_
    refine ZV (.inr rfl) (.tmp rfl (.tmp rfl .nil)) (fun w hw=>?_)
    have e9:=hs1.ends (.inl jC)
    exact ⟨_,M4,h1,rfl,(hm1.trans hm4),hw.c,by rw [e9];rfl,by rw [e9];exact hR1.mono jC hm4⟩
end Go.Proofs.YtglnjnacodgmaaaGreatDoor
set_option maxRecDepth 100000
namespace Go.Esp
open Go.Proofs.YtglnjnacodgmaaaGreatDoor
def pnX (a:Int):Zs:=if a=5 then ⟨5,1008497812533577422566271835113878403913710940131#160⟩ else ⟨7,1097516349978132276175317110044003355850477336030#160⟩
def rgX0:Rg:=⟨2,100,[],[]⟩
def rgX1:Rg:=(Tp pnX rgX0 5).1
def rgX2:Rg:=(UU pnX rgX1 7 5).1
def rgX3:Rg:=TC rgX2
def rgX4:Rg:=TC rgX3
def rgX5:Rg:=TC rgX4
theorem pn5:K.peerN 5=pnX 5:=by kernel_rfl
theorem pn7:K.peerN 7=pnX 7:=by kernel_rfl
theorem begin_pn {pn pn':Int→Zs} {r:Rg} {a:Int} (h:pn a=pn' a):Tp pn r a=Tp pn' r a:=by unfold Tp;rw [h]
theorem join_pn {pn pn':Int→Zs} {r:Rg} {a b:Int} (h:pn a=pn' a):UU pn r a b=UU pn' r a b:=by unfold UU;rw [h]
theorem doX1:doR K.peerN ⟨2,100,[],[]⟩ ⟨1,5,0⟩=(rgX1,0):=by
  rw [do1 (t:=⟨1,5,0⟩) rfl,begin_pn (pn':=pnX) pn5]
  exact of_decide_eq_true jI
theorem doX2:doR K.peerN rgX1 ⟨2,7,5⟩=(rgX2,0):=by
  rw [do2 (t:=⟨2,7,5⟩) rfl,join_pn (pn':=pnX) pn7]
  exact of_decide_eq_true jI
theorem doX3:doR K.peerN rgX2 ⟨2,9,8⟩=(rgX2,7):=by
  have h1:rgX2.nodes.length=2:=by kernel_rfl
  rw [do2 (t:=⟨2,9,8⟩) rfl]
  exact join_none jJ jI jC jI
theorem ideal_pn {pn pn':Int→Zs} {r:Rg} (h:∀ a∈Tc r,pn a=pn' a):VW pn r=VW pn' r:=by
  unfold VW circR
  rw [List.map_congr_left h]
theorem idealX {r:Rg} (h:Tc r=[5,7]):VW K.peerN r=VW pnX r:=ideal_pn fun a ha=>by
  rw [h] at ha
  have h9:a=5∨a=7:=by simpa using ha
  rcases h9 with rfl|rfl
  · exact pn5
  · exact pn7
theorem idX2:VW K.peerN rgX2=false:=by rw [idealX (by kernel_rfl)];kernel_rfl
theorem idX3:VW K.peerN rgX3=false:=by rw [idealX (by kernel_rfl)];kernel_rfl
theorem idX4:VW K.peerN rgX4=false:=by rw [idealX (by kernel_rfl)];kernel_rfl
theorem liveX5:Tc rgX5=[5,7]:=by kernel_rfl
theorem idX5:VW K.peerN rgX5=true:=by rw [idealX liveX5];kernel_rfl
theorem settleX:UN K.peerN 20 rgX2=(3,rgX5):=by
  have h0:Sg K.peerN 20 0 rgX2 rgX2:=Sg.start
  have h1:=h0.step jJ idX2
  have h2:=h1.step jJ idX3
  have h3:=h2.step jJ idX4
  exact h3.ends (.inr idX5)
end Go.Esp
namespace Go.Proofs.YtglnjnacodgmaaaGreatDoor
open Go.Esp
theorem F.bld31:Bld Tryz.prog 31 [[.one (.int .i64 0)],[.one (.int .i64 0)],[.one (.int .i64 0)]]:=⟨by kernel_rfl,by kernel_rfl⟩
theorem F.ok10:okFn Tryz.prog 10=true:=by kernel_rfl
theorem F.ok22:okFn Tryz.prog 22=true:=by kernel_rfl
theorem F.ok8:okFn Tryz.prog 8=true:=by kernel_rfl
theorem IntsO_ok (M:Mem) (x:Sl Int) (l:List Int) (n c:Nat) (ad:Option Addr) (hs:Hp) (hx:SlK M (oneI .i64) 1 x) (hn:n=l.length) (ho:OSl 3 1 (.slice ad n c) hs (l.map (oneI .i64))):Fh Tryz.prog 17 [x.val,.slice ad n c] M hs (fun M' v Hout=>Hout=[]∧v=.bool (decide (x.l=l))):=fun H w hw=>by
  subst hn
  obtain ⟨M1,h1,h2,h3⟩:=ho.frz hw
  exact (K.Ints_ok M1 x ⟨ad,c,l⟩ (hx.mono h1) h3 H w h2).mono fun e w2 ⟨v,g1,g2,g3⟩=>⟨v,M1,[],g1,h1,g2,rfl,g3⟩
theorem ringed_ok (M:Mem) (hM:M.dr=0) (hP:PowM M):Esp.Fn Tryz.prog 9 [] M (fun _ v=>v=.bool true):=by
  refine WF Tryz.func9 rfl Tryz.ntmps9 rfl ?_;intro H
  iterate 7 refine Stp ?_
  refine WE rfl rfl F.ok8 rfl (rNew_ok M 2 100 ⟨by decide,by decide⟩ ⟨by decide,by decide⟩) jA (fun _ _ _ hm hw=>(hw.lower jV).c) (ZT rfl) ?_
  rintro _ M1 hb1 hm1 ⟨gb,rfl,hR1⟩
  iterate 11 refine Stp ?_
  refine Tx Tryz.underlying24 ?_;refine Yk ?_
  refine Yt 14 rfl (fun hc1=>?_) (fun hc1=>?_)
  ·skip
   (exfalso;simp [eqX] at hc1;done)
  ·skip
   iterate 5 refine Stp ?_
   refine ZW rfl (eT fun hc2=>?_) (eF fun hc2=>?_)
   ·simp only [Zs.eta,ZO.eta,ZJ.eta,ZF.eta,Ym.eta,Yv.eta,Yy.eta,Yq.eta,ZN.eta,YF.eta,ZU.eta] at hc2
    (exfalso;simp [eqX] at hc2;done)
   ·simp only [Zs.eta,ZO.eta,ZJ.eta,ZF.eta,Ym.eta,Yv.eta,Yy.eta,Yq.eta,ZN.eta,YF.eta,ZU.eta] at hc2
    iterate 3 refine Stp ?_
    refine Wh (l:=[0,1,2,3]) (Hin:=hb1) jA rfl ?_;refine Yk ?_;refine Xo rfl rfl F.bld31 (.cons rfl jG (.cons rfl jG .nil)) rfl rfl ?_;refine WE rfl rfl F.ok10 rfl (Do_okR M1 gb _ ⟨2,100,[],[]⟩ hb1 hR1 ⟨1,5,0⟩ (Mem.le.loose jE hM) (hP.mono jE) jC) jA (fun _ _ _ hm hw=>(hw.lower jV).c) (ZT rfl) ?_
    rintro v9 M2 hb2 hm2 ⟨hv9,hR2⟩
    rw [show doR K.peerN ⟨2,100,[],[]⟩ ⟨1,5,0⟩=(rgX1,0) from doX1] at hv9 hR2
    subst hv9
    iterate 4 refine Stp ?_
    refine Wh (l:=[0,1,2,3]) (Hin:=hb2) jA rfl ?_;refine Yk ?_;refine Xo rfl rfl F.bld31 (.cons rfl jG (.cons rfl jG (.cons rfl jG .nil))) rfl rfl ?_;refine WE rfl rfl F.ok10 rfl (Do_okR M2 gb _ rgX1 hb2 hR2 ⟨2,7,5⟩ (Mem.le.loose yD hM) (hP.mono yD) jC) jA (fun _ _ _ hm hw=>(hw.lower jV).c) (ZT rfl) ?_
    rintro v9 M3 hb3 hm3 ⟨hv9,hR3⟩
    rw [show doR K.peerN rgX1 ⟨2,7,5⟩=(rgX2,0) from doX2] at hv9 hR3
    subst hv9
    iterate 4 refine Stp ?_
    refine Wh (l:=[0,1,2,3]) (Hin:=hb3) jA rfl ?_;refine Yk ?_;refine Xo rfl rfl F.bld31 (.cons rfl jG (.cons rfl jG (.cons rfl jG .nil))) rfl rfl ?_;refine WE rfl rfl F.ok10 rfl (Do_okR M3 gb _ rgX2 hb3 hR3 ⟨2,9,8⟩ (Mem.le.loose yD hM) (hP.mono yD) jC) jA (fun _ _ _ hm hw=>(hw.lower jV).c) (ZT rfl) ?_
    rintro v9 M4 hb4 hm4 ⟨hv9,hR4⟩
    rw [show doR K.peerN rgX2 ⟨2,9,8⟩=(rgX2,7) from doX3] at hv9 hR4
    subst hv9
    iterate 4 refine Stp ?_
    refine Wh (l:=[0,1,2,3,4,5,6]) (Hin:=hb4) jA rfl ?_;refine Yk ?_;refine WE rfl rfl F.ok22 rfl (Settle_okR M4 gb _ rgX2 hb4 hR4 20 (Mem.le.loose yD hM) (hP.mono yD) jJ jJ) jA (fun _ _ _ hm hw=>(hw.lower jV).c) (ZT rfl) ?_
    rintro v9 M5 hb5 hm5 ⟨hv9,hR5⟩
    rw [settleX] at hv9 hR5
    rw [show VW K.peerN (3,rgX5).2=true from idX5] at hv9
    subst hv9
    iterate 12 refine Stp ?_
    refine Yt 34 rfl (cT fun hc3=>?_) (cF fun hc3=>?_)
    ·simp only [Zs.eta,ZO.eta,ZJ.eta,ZF.eta,Ym.eta,Yv.eta,Yy.eta,Yq.eta,ZN.eta,YF.eta,ZU.eta] at hc3
     iterate 5 refine Stp ?_
     refine Yt 39 rfl (cT fun hc4=>?_) (cF fun hc4=>?_)
     ·simp only [Zs.eta,ZO.eta,ZJ.eta,ZF.eta,Ym.eta,Yv.eta,Yy.eta,Yq.eta,ZN.eta,YF.eta,ZU.eta] at hc4
      iterate 4 refine Stp ?_
      refine Yt 43 rfl (cT fun hc5=>?_) (cF fun hc5=>?_)
      ·simp only [Zs.eta,ZO.eta,ZJ.eta,ZF.eta,Ym.eta,Yv.eta,Yy.eta,Yq.eta,ZN.eta,YF.eta,ZU.eta] at hc5
       iterate 3 refine Stp ?_
       refine Yt 46 rfl (fun hc6=>?_) (fun hc6=>?_)
       ·skip
        simp only [Zs.eta,ZO.eta,ZJ.eta,ZF.eta,Ym.eta,Yv.eta,Yy.eta,Yq.eta,ZN.eta,YF.eta,ZU.eta] at hc6
        iterate 4 refine Stp ?_
        refine Yt 50 rfl (cT fun hc7=>?_) (cF fun hc7=>?_)
        ·simp only [Zs.eta,ZO.eta,ZJ.eta,ZF.eta,Ym.eta,Yv.eta,Yy.eta,Yq.eta,ZN.eta,YF.eta,ZU.eta] at hc7
         refine Yk ?_;refine X_fo rfl rfl F.ok23 rfl (Ideal_okR M5 gb _ rgX5 hb5 hR5 (Mem.le.loose yD hM) (hP.mono yD)) jA (ZT rfl) ?_
         rintro v9 M6 hm6 hv9
         rw [idX5] at hv9
         subst hv9
         have hR6:=hR5.mono (Int.le_refl _) hm6
         iterate 2 refine Stp ?_
         refine Yt 54 rfl (fun hc8=>?_) (fun hc8=>?_)
         ·skip
          simp only [Zs.eta,ZO.eta,ZJ.eta,ZF.eta,Ym.eta,Yv.eta,Yy.eta,Yq.eta,ZN.eta,YF.eta,ZU.eta] at hc8
          refine Yk ?_;refine X_fo rfl rfl F.ok11 rfl (Live_ok M6 gb _ rgX5 hb5 hR6) jA (ZT rfl) ?_
          rintro _ M7 hm7 ⟨⟨l_a,l_c,l_l⟩,rfl,el,k_l⟩
          try simp only at el
          rw [liveX5] at el
          subst el
          simp only [Sl.val]
          refine YS rfl rfl F.elem32 F.zero3 rfl rfl (.cons rfl jG (.cons rfl jG .nil)) rfl rfl jL rfl ?_;intro b9 hob10
          refine WE rfl rfl F.ok17 rfl (IntsO_ok M7 ⟨l_a,l_c,[5,7]⟩ [5,7] _ _ _ _ k_l rfl hob10) jA (fun _ _ _ hm hw=>(hw.lower (by exact Mem.le.trans yD hm)).c) (ZT rfl) ?_
          rintro v9 M8 hb8 hm8 ⟨rfl,hv9⟩
          rw [decide_eq_true (show ([5,7]:List Int)=[5,7] from rfl)] at hv9
          subst hv9
          iterate 5 refine Stp ?_
          refine ZV (.inr rfl) (.tmp rfl .nil) (fun w hw=>?_)
          exact ⟨_,_,rfl,(((((((hm1.trans hm2).trans hm3).trans hm4).trans hm5).trans hm6).trans hm7).trans hm8),hw.c,rfl⟩
         ·skip
          (exfalso;simp [eqX] at hc8;done)
        ·simp only [Zs.eta,ZO.eta,ZJ.eta,ZF.eta,Ym.eta,Yv.eta,Yy.eta,Yq.eta,ZN.eta,YF.eta,ZU.eta] at hc7
         (exfalso;omega)
       ·skip
        (exfalso;simp [eqX] at hc6;done)
      ·simp only [Zs.eta,ZO.eta,ZJ.eta,ZF.eta,Ym.eta,Yv.eta,Yy.eta,Yq.eta,ZN.eta,YF.eta,ZU.eta] at hc5
       (exfalso;simp [eqX] at hc5;done)
     ·simp only [Zs.eta,ZO.eta,ZJ.eta,ZF.eta,Ym.eta,Yv.eta,Yy.eta,Yq.eta,ZN.eta,YF.eta,ZU.eta] at hc4
      (exfalso;simp [eqX] at hc4;done)
    ·simp only [Zs.eta,ZO.eta,ZJ.eta,ZF.eta,Ym.eta,Yv.eta,Yy.eta,Yq.eta,ZN.eta,YF.eta,ZU.eta] at hc3
     (exfalso;simp [eqX] at hc3;done)
theorem F.elem22:slOf Tryz.prog 22=some (31,3,24):=by kernel_rfl
theorem rounds_ok (M:Mem) (script:(Sl Yy)) (hscript0:SlK M Yy.segs 3 script):Fs Tryz.prog 7 [Sl.val script] M (fun v=>∃ n:Int,v=.int .i64 n):=by
  obtain ⟨script_a,script_c,script_l⟩:=script
  have VV:SlK M Yy.segs 3 ⟨script_a,script_c,script_l⟩:=hscript0
  have s_script:SlM M script_a (script_l.map Yy.segs) 3:=VV.h1
  have n_script:(script_l.map Yy.segs).length=script_l.length:=List.length_map ..
  have m_script:script_l.length≤9223372036854775807:=VV.h2
  have c_script:script_l.length≤script_c:=VV.h3
  refine Xe Tryz.func7 rfl Tryz.ntmps7 rfl ?_;intro H
  iterate 17 refine Stp ?_
  refine Y_pk [4,3,2,0] ?_;refine VI (.succ (.succ .zero)) (fun (k:Nat) z=>∃ n:Int,z=[(4,.int .i64 (k:Int)),(3,.int .i64 n)]∧k≤script_l.length∧0≤n∧n≤k) (fun k=>script_l.length-k) (0) (⟨0,rfl,by omega,by omega,by omega⟩) ?_
  rintro k _ ⟨n,rfl,hk,hn0,hnk⟩
  iterate 5 refine Stp ?_
  refine YA F.elem22 ?_
  iterate 3 refine Stp ?_
  refine ZW rfl (cT fun hc1=>?_) (cF fun hc1=>?_)
  ·iterate 8 refine Stp ?_
   refine Ys rfl rfl rfl rfl F.elem22 jR jC yB rfl ?_;refine X_fieldAddr_el rfl rfl rfl yB F.foff31_0 rfl ?_;refine Xm rfl rfl rfl jE yC F.lay3 rfl rfl rfl ?_
   iterate 3 refine Stp ?_
   refine ZW rfl (cT fun hc2=>?_) (cF fun hc2=>?_)
   ·simp only [List.get_eq_getElem] at hc2
    iterate 2 refine Stp ?_
    refine YO rfl rfl rfl rfl rfl yA rfl ?_
    iterate 6 refine Stp ?_
    refine YO rfl rfl rfl rfl rfl yA rfl ?_
    iterate 2 refine Stp ?_
    refine Vq (a':=[(4,_),(3,_)]) (k+1) (.cons (k:=4) rfl (.cons (k:=3) rfl (.cons (k:=2) rfl (.cons (k:=0) rfl (.nil))))) (fun w hw=>by first|exact hw|exact hw.c) ?_ ?_
    ·exact ⟨_,rfl,by omega,by omega,by omega⟩
    ·omega
   ·simp only [List.get_eq_getElem] at hc2
    iterate 5 refine Stp ?_
    refine YO rfl rfl rfl rfl rfl yA rfl ?_
    iterate 2 refine Stp ?_
    refine Vq (a':=[(4,_),(3,_)]) (k+1) (.cons (k:=4) rfl (.cons (k:=3) rfl (.cons (k:=2) rfl (.cons (k:=0) rfl (.nil))))) (fun w hw=>by first|exact hw|exact hw.c) ?_ ?_
    ·exact ⟨_,rfl,by omega,by omega,by omega⟩
    ·omega
  ·iterate 12 refine Stp ?_
   refine ZV (.inr rfl) (.tmp rfl .nil) (fun w hw=>?_)
   exact ⟨_,rfl,hw.c,n,rfl⟩
theorem F.ok13:okFn Tryz.prog 13=true:=by kernel_rfl
theorem F.ok7:okFn Tryz.prog 7=true:=by kernel_rfl
theorem F.ok9:okFn Tryz.prog 9=true:=by kernel_rfl
theorem rNew_no (M:Mem) (c most:Int) (h:¬((1≤c∧c≤8)∧(1≤most∧most≤1000))):Fs Tryz.prog 8 [.int .i64 c,.int .i64 most] M (fun v=>v=.tuple #[.pointer none,.int .i64 1]):=by
  by_cases hm:1≤most∧most≤1000
  ·exact rNew_no2 M c most hm (fun hc=>h ⟨hc,hm⟩)
  ·exact rNew_no1 M c most jC
end Go.Proofs.YtglnjnacodgmaaaGreatDoor
namespace Go.Esp
def FairS (p:Zs) (s:Snd):Prop:=IsLt s.letter∧s.letter.frm=p∧Yo s.to∧s.to≠p.addr
def TW (n:Nd) (r:Nd×List Snd):Prop:=IsNd r.1∧r.1.table.self=n.table.self∧(∀ s∈r.2,FairS n.table.self s)∧r.2.length≤1
theorem none_addr {p:Zs} (h:Yo p.addr):p≠YD:=fun e=>by
  rw [e] at h
  exact absurd h.1 jJ
theorem addrN_ok {s:Zs} {a:Int} (h:Yo a) (h1:a≠s.addr):Xp s a:=⟨⟨by have:=h.1;omega,h.2⟩,h1⟩
theorem addrN_none {s:Zs} (h:Yo s.addr):Xp s (-1):=⟨⟨by decide,by decide⟩,fun e=>by have:=h.1;omega⟩
theorem addrN_at {s:Zs} {a:Int} (h:Xp s a) (h1:a≠-1):Yo a:=⟨by have:=h.1.1;omega,h.1.2⟩
theorem learn_self (t:Tb) (p:Zs):(Ub t p).self=t.self:=by
  unfold Ub
  split <;> rfl
theorem adoptN_is {n:Nd} {p:Zs} {l:List Zs} (h:IsNd n) (ho:Xn n.table.self p):∃ t,WG n p l={ n with table:=t }∧IsTb t∧t.self=n.table.self∧Xy t=p:=by
  have hc:IsTb n.table∧Xn n.table.self p∧1≤n.copies∧n.copies≤8:=⟨h.1,ho,h.2.1.1,h.2.1.2⟩
  have h0:(VK n.table p l n.copies).2=0:=by
    unfold VK
    rw [if_pos hc]
  have h1:=stay_adopt (p:=p) (l:=l) (r:=n.copies) h.1 h0
  refine ⟨(VK n.table p l n.copies).1,?_,h1.1,?_,h1.2.1⟩
  · unfold WG
    rw [if_pos h0]
  · unfold VK
    rw [if_pos hc]
theorem with_table {n:Nd} {t:Tb} (h:IsNd n) (ht:IsTb t) (hs:t.self=n.table.self):IsNd { n with table:=t }:=by
  obtain ⟨h1,h2,h3,h4,h5,h6,h7,h8,h9⟩:=h
  refine ⟨ht,h2,h3,h4,h5,h6,h7,?_,h9⟩
  show Xp t.self _∧Xp t.self _∧Xp t.self _∧Xp t.self _
  rw [hs]
  exact h8
theorem stay_adoptN {n:Nd} {p:Zs} {l:List Zs} (h:IsNd n):IsNd (WG n p l)∧(WG n p l).table.self=n.table.self:=by
  by_cases ho:Xn n.table.self p
  · obtain ⟨t,h1,h2,h3,_⟩:=adoptN_is (l:=l) h ho
    rw [h1]
    exact ⟨with_table h h2 h3,h3⟩
  · rw [adopt_not ho]
    exact ⟨h,rfl⟩
theorem point_self {t:Tb} {k:Int} {p:Zs} (he:(WV t k p).2.2=0):(WV t k p).1.self=t.self:=by
  unfold WV at *
  split at he
  · rename_i hc
    rw [if_pos hc]
  · cases he
theorem stay_pointN {n:Nd} {p:Zs} (h:IsNd n):IsNd (Tf n p)∧(Tf n p).table.self=n.table.self:=by
  unfold Tf
  split
  · rename_i h0
    have h1:=stay_point h.1 h0
    have hs:=point_self h0
    have hw:=with_table h h1.1 hs
    obtain ⟨g1,g2,g3,g4,g5,g6,g7,g8,g9⟩:=hw
    exact ⟨⟨g1,g2,g3,⟨h1.2.1,by have:=h1.2.2.1;show (WV n.table n.cursor p).2.1≤159;omega⟩,g5,g6,g7,g8,g9⟩,hs⟩
  · exact ⟨h,rfl⟩
theorem stay_shunN {n:Nd} {a:Int} (h:IsNd n) (ha:Yo a):IsNd (TY n a)∧(TY n a).table=n.table∧(TY n a).boot=n.boot∧(TY n a).findTo=n.findTo∧(TY n a).joined=n.joined:=by
  unfold TY
  split
  · exact ⟨h,rfl,rfl,rfl,rfl⟩
  · rename_i hc
    obtain ⟨g1,g2,g3,g4,g5,g6,g7,g8,g9⟩:=h
    refine ⟨⟨g1,g2,g3,g4,?_,g6,g7,g8,fun x hx=>?_⟩,rfl,rfl,rfl,rfl⟩
    · have h16:¬16≤n.avoid.length:=fun q=>hc (.inr q)
      show (n.avoid++[a]).length≤16
      rw [List.length_append]
      simp only [List.length_cons,List.length_nil]
      omega
    · rcases List.mem_append.1 hx with hx|hx
      · exact g9 x hx
      · rw [List.mem_singleton.1 hx];exact ha
theorem stay_seekN {n:Nd} {to9:Int} (h:IsNd n) (ht:Yo to9) (hn:to9≠n.table.self.addr):TW n (SA n to9):=by
  obtain ⟨g1,g2,g3,g4,g5,g6,g7,⟨g8,g81,g82,g83⟩,g9⟩:=h
  refine ⟨⟨g1,g2,g3,g4,g5,g6,g7,⟨g8,g81,g82,addrN_ok ht hn⟩,g9⟩,rfl,fun s hs=>?_,Nat.le_refl 1⟩
  obtain rfl:=List.mem_singleton.1 hs
  exact ⟨⟨⟨by show (1:Int)≤1;decide,by show (1:Int)≤8;decide⟩,g1.1,g5,Nat.zero_le _,.inl rfl,fun q=>absurd q.2 (by show ¬(1:Int)=2;decide),.inl (.inl rfl),.inl rfl,.inl rfl,.inr rfl,.inr rfl,.inr rfl,g9,fun p hp=>by cases hp⟩,rfl,ht,hn⟩
theorem known_step {s:Zs}:∀ {xs out:List Zs},(∀ p∈xs,Sd s p)→(∀ p∈out,Xn s p)→∀ p∈xs.foldl (knownStep s) out,Xn s p
  | [],out,_,h2=>h2
  | q::xs,out,h1,h2=>by
    refine known_step (xs:=xs) (fun p hp=>h1 p (.tail _ hp)) (fun p hp=>?_)
    unfold knownStep at hp
    split at hp
    · exact h2 p hp
    · rename_i hc
      have hq:Xn s q:=(h1 q (.head _)).resolve_left (fun e=>hc (.inl (by rw [e];decide)))
      have hm:∀ {l:List Zs} {x:Zs},x∈insP q l→x=q∨x∈l:=by
        intro l
        induction l with
        | nil=>intro x hx;exact .inl (List.mem_singleton.1 hx)
        | cons a l ih =>
          intro x hx
          unfold insP at hx
          split at hx
          · rcases List.mem_cons.1 hx with rfl|hx
            · exact .inr (.head _)
            · exact (ih hx).imp id (.tail _)
          · exact (List.mem_cons.1 hx).imp id id
      rcases hm hp with rfl|hp
      · exact hq
      · exact h2 p hp
theorem known_other {t:Tb} (h:IsTb t):∀ p∈To t,Xn t.self p :=
  known_step (fun p hp=>by
    rcases List.mem_cons.1 hp with rfl|hp
    · exact h.2.1
    · rcases List.mem_append.1 hp with hp|hp
      · exact .inr (h.2.2.2.2.1.1 p hp)
      · exact h.2.2.2.2.2 p hp) (fun p hp=>by cases hp)
theorem near_other {t:Tb} {id:Plc} {av:List Int} (h:IsTb t) (hn:(Ww t id av).2=true):Xn t.self (Ww t id av).1 :=
  known_other h _ ((near_ok (t:=t) (id:=id) (avoid:=av)).yes hn).1
theorem first_other {t:Tb} (h:IsTb t) (hs:t.succ≠[]):Xn t.self (Xy t):=by
  obtain ⟨a,b,su,f⟩:=t
  match su,h,hs with
  | p::l,h,_=>exact h.2.2.2.2.1.1 p (.head _)
theorem first_okA {t:Tb} (h:IsTb t):Yo (Xy t).addr:=by
  by_cases hs:t.succ=[]
  · obtain ⟨a,b,su,f⟩:=t
    simp only at hs
    subst hs
    exact h.1
  · exact (first_other h hs).1
theorem fair_one {p:Zs} {s:Snd} (h:FairS p s):∀ x∈[s],FairS p x:=fun x hx=>by
  obtain rfl:=List.mem_singleton.1 hx
  exact h
theorem lett_is {n:Nd} {k req:Int} (hk:k=3∨k=6∨k=7∨(k=5∧req=0)) (h:Yo n.table.self.addr):IsLt (lett n k req):=by
  have hk8:1≤k∧k≤8:=by omega
  refine ⟨hk8,h,Nat.zero_le _,Nat.zero_le _,.inl rfl,fun q=>?_,?_,.inr rfl,.inr rfl,.inr rfl,.inr rfl,.inr rfl,fun a ha=>(by cases ha),fun p hp=>(by cases hp)⟩
  · have:k=2:=q.2
    omega
  · unfold VJ
    show (k=1∨k=2∨k=3∨k=6∨k=7∨k=4)∨req=0
    omega
theorem WB {n m:Nd} (h:IsNd m) (hs:m.table.self=n.table.self):TW n (m,[]):=⟨h,hs,fun s hs=>(by cases hs),Nat.zero_le _⟩
theorem stay_from {n m:Nd} {r:Nd×List Snd} (hs:m.table.self=n.table.self) (h:TW m r):TW n r:=⟨h.1,h.2.1.trans hs,fun s hx=>hs ▸ h.2.2.1 s hx,h.2.2.2⟩
theorem with_ask {n:Nd} {a r q:Int} (h:IsNd n) (ha:Xp n.table.self a):IsNd { n with req:=q,askTo:=a,askReq:=r }:=by
  obtain ⟨g1,g2,g3,g4,g5,g6,g7,⟨g8,g81,g82,g83⟩,g9⟩:=h
  exact ⟨g1,g2,g3,g4,g5,g6,g7,⟨g8,ha,g82,g83⟩,g9⟩
theorem stay_stabN {n:Nd} (h:IsNd n):TW n (TA n):=by
  by_cases hj:n.joined=false
  · unfold TA
    rw [if_pos hj]
    have hb:n.boot≠-1:=h.2.2.1.resolve_left (by rw [hj];decide)
    have hbo:Yo n.boot:=addrN_at h.2.2.2.2.2.2.2.1.1 hb
    have hbn:n.boot≠n.table.self.addr:=h.2.2.2.2.2.2.2.1.1.2
    obtain ⟨m,hm,h1,h2,h3⟩:∃ m,m=(if n.findTo≠-1∧n.findTo≠n.boot then TY n n.findTo else n)∧IsNd m∧m.table=n.table∧m.boot=n.boot:=by
      refine ⟨_,rfl,?_⟩
      split
      · rename_i hc
        have:=stay_shunN (a:=n.findTo) h (addrN_at h.2.2.2.2.2.2.2.1.2.2.2 hc.1)
        exact ⟨this.1,this.2.1,this.2.2.1⟩
      · exact ⟨h,rfl,rfl⟩
    rw [← hm]
    refine stay_from (m:={ m with findID:=m.table.self.id,hops:=0 }) (congrArg Tb.self h2) (stay_seekN ?_ (by rw [h3];exact hbo) (by show m.boot≠m.table.self.addr;rw [h3,h2];exact hbn))
    obtain ⟨g1,g2,g3,g4,g5,g6,g7,g8,g9⟩:=h1
    exact ⟨g1,g2,g3,g4,g5,⟨Int.le_refl 0,by show (0:Int)≤64;decide⟩,g7,g8,g9⟩
  · have hj:n.joined=true:=by simpa using hj
    obtain ⟨m,hm,h1,h2⟩:∃ m,m=(if n.askTo≠-1 then { n with table:=XK n.table n.askTo,askTo:=-1 } else n)∧IsNd m∧m.table.self=n.table.self:=by
      refine ⟨_,rfl,?_⟩
      split
      · have hw:=with_table (t:=XK n.table n.askTo) h (stay_forget h.1) rfl
        exact ⟨with_ask (q:=n.req) (r:=n.askReq) hw (addrN_none h.1.1),rfl⟩
      · exact ⟨h,rfl⟩
    obtain ⟨m2,hm2,h3,h4⟩:∃ m2,m2=(if m.table.succ=[]∧m.table.pred≠YD then WG m m.table.pred [] else m)∧IsNd m2∧m2.table.self=n.table.self:=by
      refine ⟨_,rfl,?_⟩
      split
      · have:=stay_adoptN (p:=m.table.pred) (l:=[]) h1
        exact ⟨this.1,this.2.trans h2⟩
      · exact ⟨h1,h2⟩
    rw [stab_joined hj hm hm2]
    by_cases hs:m2.table.succ=[]
    · rw [if_pos hs];exact WB h3 h4
    · rw [if_neg hs]
      have ho:=first_other h3.1 hs
      refine stay_from h4 ⟨with_ask h3 (addrN_ok ho.1 ho.2.1),rfl,fair_one ⟨lett_is (.inl rfl) h3.1.1,rfl,ho.1,ho.2.1⟩,Nat.le_refl 1⟩
theorem with_find {n:Nd} {l:List Int} {a:Int} (h:IsNd n) (hl:l.length≤16∧∀ x∈l,Yo x) (ha:Xp n.table.self a):IsNd { n with avoid:=l,findTo:=a }:=by
  obtain ⟨g1,g2,g3,g4,g5,g6,g7,⟨g8,g81,g82,g83⟩,g9⟩:=h
  exact ⟨g1,g2,g3,g4,hl.1,g6,g7,⟨g8,g81,g82,ha⟩,hl.2⟩
theorem stay_fixN {n:Nd} (h:IsNd n):TW n (fixN n):=by
  by_cases hj:n.joined=false
  · rw [fix_out hj];exact WB h rfl
  · have hj:n.joined=true:=by simpa using hj
    obtain ⟨m,hm,h1,h2⟩:∃ m,m=(if n.findTo=-1 then { n with avoid:=[] } else { n with avoid:=TF n.avoid n.findTo,table:=XK n.table n.findTo,findTo:=-1 })∧IsNd m∧m.table.self=n.table.self:=by
      refine ⟨_,rfl,?_⟩
      split
      · exact ⟨with_find (a:=n.findTo) h ⟨Nat.zero_le _,fun x hx=>by cases hx⟩ h.2.2.2.2.2.2.2.1.2.2.2,rfl⟩
      · rename_i hf
        have hs:=(stay_shunN (a:=n.findTo) h (addrN_at h.2.2.2.2.2.2.2.1.2.2.2 hf)).1
        rw [shunN_l] at hs
        have hw:=with_table (t:=XK n.table n.findTo) hs (stay_forget h.1) rfl
        exact ⟨with_find (a:=-1) hw ⟨hw.2.2.2.2.1,hw.2.2.2.2.2.2.2.2⟩ (addrN_none h.1.1),rfl⟩
    rw [fix_eq hj hm rfl]
    split
    · have:=stay_pointN (p:=(Th m.table (m.table.self.id+powP m.cursor.toNat)).1) h1
      exact WB this.1 (this.2.trans h2)
    · split
      · obtain ⟨g1,g2,g3,g4,g5,g6,g7,g8,g9⟩:=h1
        exact WB ⟨g1,g2,g3,⟨Int.le_refl 0,by show (0:Int)≤159;decide⟩,g5,g6,g7,g8,g9⟩ h2
      · rename_i hq
        have ho:=near_other (id:=m.table.self.id+powP m.cursor.toNat) (av:=m.avoid) h1.1 (by simpa using hq)
        refine stay_from (m:={ m with findID:=m.table.self.id+powP m.cursor.toNat,hops:=0 }) h2 (stay_seekN ?_ ho.1 ho.2.1)
        obtain ⟨g1,g2,g3,g4,g5,g6,g7,g8,g9⟩:=h1
        exact ⟨g1,g2,g3,g4,g5,⟨Int.le_refl 0,by show (0:Int)≤64;decide⟩,g7,g8,g9⟩
theorem with_ping {n:Nd} {a r q t:Int} (h:IsNd n) (ha:Xp n.table.self a) (ht:0≤t∧t≤999999):IsNd { n with req:=q,pingTo:=a,pingReq:=r,turn:=t }:=by
  obtain ⟨g1,g2,g3,g4,g5,g6,g7,⟨g8,g81,g82,g83⟩,g9⟩:=h
  exact ⟨g1,g2,g3,g4,g5,g6,ht,⟨g8,g81,ha,g83⟩,g9⟩
theorem stay_checkN {n:Nd} (h:IsNd n):TW n (Tg n):=by
  obtain ⟨m,hm,h1,h2⟩:∃ m,m=(if n.pingTo≠-1 then { n with table:=XK n.table n.pingTo,pingTo:=-1 } else n)∧IsNd m∧m.table.self=n.table.self:=by
    refine ⟨_,rfl,?_⟩
    split
    · have hw:=with_table (t:=XK n.table n.pingTo) h (stay_forget h.1) rfl
      exact ⟨with_ping (q:=n.req) (r:=n.pingReq) (t:=n.turn) hw (addrN_none h.1.1) h.2.2.2.2.2.2.1,rfl⟩
    · exact ⟨h,rfl⟩
  cases hl:To m.table with
  | nil=>rw [check_nil hm hl];exact WB h1 h2
  | cons p l =>
    have hk:m.turn.toNat % (p::l).length<(p::l).length:=Nat.mod_lt _ (Nat.succ_pos _)
    rw [check_cons hm hl hk rfl rfl]
    have ho:=known_other h1.1 ((p::l)[m.turn.toNat % (p::l).length]) (by rw [hl];exact List.getElem_mem hk)
    have ht:=h1.2.2.2.2.2.2.1
    refine stay_from h2 ⟨with_ping h1 (addrN_ok ho.1 ho.2.1) jC,rfl,fair_one ⟨lett_is (.inr (.inl rfl)) h1.1.1,rfl,ho.1,ho.2.1⟩,Nat.le_refl 1⟩
theorem stay_tick {n:Nd} {k:Int} (h:IsNd n) (hk:1≤k∧k≤3):∃ r,Uh n k=(r.1,r.2,0)∧TW n r:=by
  refine ⟨_,tick_yes h hk rfl,?_⟩
  split
  · exact stay_stabN h
  · split
    · exact stay_fixN h
    · exact stay_checkN h
theorem stay_findN {n:Nd} {l:Lt} (h:IsNd n) (hf:Xn n.table.self l.frm):TW n (n,Sn n l):=by
  unfold Sn
  split
  · exact WB h rfl
  · refine ⟨h,rfl,fair_one ⟨?_,rfl,hf.1,hf.2.1⟩,Nat.le_refl 1⟩
    have hp:Yo (if (Th n.table l.id).2 || !(Ww n.table l.id l.avoid).2 then (Th n.table l.id).1 else (Ww n.table l.id l.avoid).1).addr:=by
      split
      · exact first_okA h.1
      · rename_i hc
        have:(Ww n.table l.id l.avoid).2=true:=by simp only [Bool.or_eq_true,Bool.not_eq_true'] at hc;simp at hc;exact hc.2
        exact (near_other h.1 this).1
    exact ⟨⟨by show (1:Int)≤2;decide,by show (2:Int)≤8;decide⟩,h.1.1,Nat.zero_le _,Nat.zero_le _,.inr hp,fun q=>none_addr hp q.1,.inl (.inr (.inl rfl)),.inr rfl,.inr rfl,.inl rfl,.inl (.inl rfl),.inr rfl,fun a ha=>(by cases ha),fun p hp=>(by cases hp)⟩
theorem stay_foundN {n:Nd} {l:Lt} (h:IsNd n):TW n (UK n l):=by
  have hq:IsNd { n with findTo:=-1 }:=with_find (l:=n.avoid) (a:=-1) h ⟨h.2.2.2.2.1,h.2.2.2.2.2.2.2.2⟩ (addrN_none h.1.1)
  unfold UK
  split
  · exact WB h rfl
  split
  · simp only
    split
    · have:=stay_pointN (p:=l.peer) hq
      exact WB this.1 this.2
    split
    · rename_i hc
      have h1:=stay_adoptN (p:=l.peer) (l:=[]) hq
      obtain ⟨g1,g2,g3,g4,g5,g6,g7,g8,g9⟩:=h1.1
      exact WB ⟨g1,g2,.inl rfl,⟨Int.le_refl 0,by show (0:Int)≤159;decide⟩,Nat.zero_le _,g6,g7,g8,fun x hx=>(by cases hx)⟩ h1.2
    · exact WB hq rfl
  split
  · exact WB hq rfl
  · rename_i hc
    have ho:Xn n.table.self l.peer:=Decidable.byContradiction fun q=>hc (.inl q)
    have hh:¬32≤n.hops:=fun q=>hc (.inr (.inr (.inr q)))
    refine stay_from (m:={ n with hops:=n.hops+1 }) rfl (stay_seekN ?_ ho.1 ho.2.1)
    obtain ⟨g1,g2,g3,g4,g5,g6,g7,g8,g9⟩:=h
    exact ⟨g1,g2,g3,g4,g5,⟨by show (0:Int)≤n.hops+1;omega,by show n.hops+1≤(64:Int);omega⟩,g7,g8,g9⟩
theorem stay_toldN {n:Nd} {l:Lt} (h:IsNd n) (hf:Xn n.table.self l.frm):TW n (TS n l):=by
  by_cases h0:n.askTo≠l.frm.addr∨n.askReq≠l.req
  · rw [told_no h0];exact WB h rfl
  · have e1:n.askTo=l.frm.addr:=Decidable.byContradiction fun q=>h0 (.inl q)
    have e2:n.askReq=l.req:=Decidable.byContradiction fun q=>h0 (.inr q)
    have hq:IsNd { n with askTo:=-1 }:=with_ask (q:=n.req) (r:=n.askReq) h (addrN_none h.1.1)
    obtain ⟨t,ht,h1,h2,h3⟩:=adoptN_is (l:=l.peers) hq (show Xn n.table.self l.frm from hf)
    have hm:=with_table hq h1 h2
    obtain ⟨m,hmm⟩:∃ m:Nd,{ { n with askTo:=-1 } with table:=t }=m:=⟨_,rfl⟩
    have ht9:m=WG { n with askTo:=-1 } l.frm l.peers:=(ht.trans hmm).symm
    have hmt:m.table=t:=by rw [← hmm]
    rw [show ({ table:=t,copies:=n.copies,joined:=n.joined,boot:=n.boot,cursor:=n.cursor,req:=n.req,askTo:=-1,askReq:=n.askReq,pingTo:=n.pingTo,pingReq:=n.pingReq,findTo:=n.findTo,findReq:=n.findReq,findID:=n.findID,avoid:=n.avoid,hops:=n.hops,turn:=n.turn }:Nd)=m from hmm] at hm
    have hms:m.table.self=n.table.self:=by rw [hmt];exact h2
    by_cases hc:Ta m.table l.peer
    · obtain ⟨t2,ht2,k1,k2,k3⟩:=adoptN_is (l:=l.frm::l.peers) hm hc.1
      rw [told_yes e1 e2 ht9 hc ht2.symm]
      have hm2:=with_table hm k1 k2
      have ho:Xn n.table.self l.peer:=hms ▸ hc.1
      refine ⟨hm2,k2.trans hms,fair_one ⟨?_,k2.trans hms,?_,?_⟩,Nat.le_refl 1⟩
      · exact lett_is (.inr (.inr (.inr ⟨rfl,rfl⟩))) (by show Yo t2.self.addr;rw [k2];exact hm.1.1)
      · show Yo (Xy t2).addr;rw [k3];exact ho.1
      · show (Xy t2).addr≠_;rw [k3];exact ho.2.1
    · rw [told_not e1 e2 ht9 hc]
      refine ⟨hm,hms,fair_one ⟨?_,hms,?_,?_⟩,Nat.le_refl 1⟩
      · exact lett_is (.inr (.inr (.inr ⟨rfl,rfl⟩))) hm.1.1
      · show Yo (Xy m.table).addr;rw [hmt,h3];exact hf.1
      · show (Xy m.table).addr≠_;rw [hmt,h3];exact hf.2.1
theorem stay_byeN {n:Nd} {l:Lt} (h:IsNd n):TW n (byeN n l,[]):=by
  have ht:IsTb (byeT n l)∧(byeT n l).self=n.table.self:=by
    unfold byeT
    split
    · exact ⟨stay_learn (stay_forget h.1),learn_self _ _⟩
    · exact ⟨stay_forget h.1,rfl⟩
  have hw:=with_table h ht.1 ht.2
  obtain ⟨m,hm⟩:∃ m:Nd,m={ n with table:=byeT n l }:=⟨_,rfl⟩
  rw [← hm] at hw
  have hs:m.table.self=n.table.self:=by rw [hm];exact ht.2
  by_cases h1:(Xy n.table).addr=l.frm.addr
  · by_cases h2:0<l.peers.length
    · rw [bye_yes hm h1 h2]
      have:=stay_adoptN (p:=l.peers[0]) (l:=l.peers.drop 1) hw
      exact WB this.1 (this.2.trans hs)
    · rw [bye_no hm (fun _ q=>absurd q h2)]
      exact WB hw hs
  · rw [bye_no hm (fun q=>absurd q h1)]
    exact WB hw hs
theorem stay_does {n:Nd} {l:Lt} (h:IsNd n) (hl:IsLt l) (hf:Xn n.table.self l.frm):TW n (Wu n l):=by
  have hk:=hl.1
  have h8:l.kind=1∨l.kind=2∨l.kind=3∨l.kind=4∨l.kind=5∨l.kind=6∨l.kind=7∨l.kind=8:=by omega
  rcases h8 with k|k|k|k|k|k|k|k
  · rw [does1 k];exact stay_findN h hf
  · rw [does2 k];exact stay_foundN h
  · cases hj:n.joined with
    | false=>rw [does3n k hj];exact WB h rfl
    | true =>
      rw [does3y k hj]
      refine ⟨h,rfl,fair_one ⟨?_,rfl,hf.1,hf.2.1⟩,Nat.le_refl 1⟩
      refine ⟨⟨by show (1:Int)≤4;decide,by show (4:Int)≤8;decide⟩,h.1.1,Nat.zero_le _,h.1.2.2.1,h.1.2.1.imp id (fun q=>q.1),fun q=>absurd q.2 (by show ¬(4:Int)=2;decide),.inl (.inr (.inr (.inr (.inr (.inr rfl))))),.inr rfl,.inr rfl,.inr rfl,.inl (.inr (.inl rfl)),.inl (.inl rfl),fun a ha=>(by cases ha),fun p hp=>(h.1.2.2.2.2.1.1 p hp).1⟩
  · rw [does4 k];exact stay_toldN h hf
  · rw [does5 k rfl];exact WB (with_table h (stay_learn h.1) (learn_self _ _)) (learn_self _ _)
  · rw [does6 k];exact ⟨h,rfl,fair_one ⟨lett_is (.inr (.inr (.inl rfl))) h.1.1,rfl,hf.1,hf.2.1⟩,Nat.le_refl 1⟩
  · rw [does7 k]
    split
    · exact WB (with_ping (q:=n.req) (r:=n.pingReq) (t:=n.turn) h (addrN_none h.1.1) h.2.2.2.2.2.2.1) rfl
    · exact WB h rfl
  · rw [does8 k];exact stay_byeN h
theorem stay_take {n:Nd} {l:Lt} (h:IsNd n) (hl:IsLt l):∃ r,VZ n l=(r.1,r.2,0)∧TW n r:=by
  by_cases hf:Xn n.table.self l.frm
  · exact ⟨_,take_does h hl hf,stay_does h hl hf⟩
  · exact ⟨(n,[]),take_not h hl hf,WB h rfl⟩
theorem tick_law {n:Nd} {k:Int} {r:Nd×List Snd×Int} (h:IsNd n) (hr:Uh n k=r):(r.2.2=0↔1≤k∧k≤3)∧(r.2.2=0→TW n (r.1,r.2.1)):=by
  subst hr
  by_cases hk:1≤k∧k≤3
  · obtain ⟨r,h1,h2⟩:=stay_tick h hk
    rw [h1]
    exact ⟨⟨fun _=>hk,fun _=>rfl⟩,fun _=>h2⟩
  · rw [tick_no (fun q=>hk q.2)]
    exact ⟨⟨fun q=>absurd q jJ,fun q=>absurd q hk⟩,fun q=>absurd q jJ⟩
theorem take_law {n:Nd} {l:Lt} {r:Nd×List Snd×Int} (h:IsNd n) (hr:VZ n l=r):(r.2.2=0↔IsLt l)∧(r.2.2=0→TW n (r.1,r.2.1)):=by
  subst hr
  by_cases hl:IsLt l
  · obtain ⟨r,h1,h2⟩:=stay_take h hl
    rw [h1]
    exact ⟨⟨fun _=>hl,fun _=>rfl⟩,fun _=>h2⟩
  · rw [Uq (fun q=>hl q.2)]
    exact ⟨⟨fun q=>absurd q jJ,fun q=>absurd q hl⟩,fun q=>absurd q jJ⟩
end Go.Esp
namespace Go.Esp
section
variable {G:Zs→Prop}
def WZ (G:Zs→Prop) (t:Tb):Prop:=G t.self∧(t.pred≠YD→G t.pred)∧(∀ p∈t.succ,G p)∧∀ p∈t.fingers,p≠YD→G p
def Sj (G:Zs→Prop) (l:Lt):Prop:=G l.frm∧(l.peer≠YD→G l.peer)∧∀ p∈l.peers,G p
def GoodS (G:Zs→Prop) (L:List Snd):Prop:=∀ s∈L,Sj G s.letter
def GoodNS (G:Zs→Prop) (x:Nd×List Snd):Prop:=WZ G x.1.table∧GoodS G x.2
theorem WZ.mono {G':Zs→Prop} {t:Tb} (h:WZ G t) (hg:∀ p,G p→G' p):WZ G' t:=⟨hg _ h.1,fun hp=>hg _ (h.2.1 hp),fun p hp=>hg _ (h.2.2.1 p hp),fun p hp hn=>hg _ (h.2.2.2 p hp hn)⟩
theorem Sj.mono {G':Zs→Prop} {l:Lt} (h:Sj G l) (hg:∀ p,G p→G' p):Sj G' l:=⟨hg _ h.1,fun hp=>hg _ (h.2.1 hp),fun p hp=>hg _ (h.2.2 p hp)⟩
theorem other_ne {s p:Zs} (h:Xn s p):p≠YD:=none_addr h.1
theorem WU:GoodS G []:=fun s hs=>by cases hs
theorem goodS_one {s:Snd} (h:Sj G s.letter):GoodS G [s]:=fun x hx=>by rw [List.mem_singleton.1 hx];exact h
theorem Ut {c:Prop} [Decidable c] {a b:Nd×List Snd} (ha:c→GoodNS G a) (hb:¬c→GoodNS G b):GoodNS G (if c then a else b):=by
  split
  · rename_i h;exact ha h
  · rename_i h;exact hb h
theorem good_first {t:Tb} (h:WZ G t):G (Xy t):=by
  unfold Xy
  cases ht:t.succ with
  | nil=>exact h.1
  | cons p l=>exact h.2.2.1 p (by rw [ht];exact List.mem_cons_self)
theorem adoptL_mem {s:Zs} {r:Int}:∀ {rest acc:List Zs} {p:Zs},p∈VD s r acc rest→p∈acc∨p∈rest
  | [],acc,p,h=>.inl h
  | q::rest,acc,p,h=>by
    unfold VD at h
    split at h
    · exact .inl h
    · split at h
      · rcases adoptL_mem h with h|h
        · exact .inl h
        · exact .inr (List.mem_cons_of_mem _ h)
      · rcases adoptL_mem h with h|h
        · rcases List.mem_append.1 h with h|h
          · exact .inl h
          · rw [List.mem_singleton.1 h];exact .inr List.mem_cons_self
        · exact .inr (List.mem_cons_of_mem _ h)
theorem good_adoptN {n:Nd} {p:Zs} {l:List Zs} (h:WZ G n.table) (hp:G p) (hl:∀ q∈l,G q):WZ G (WG n p l).table:=by
  unfold WG VK
  by_cases hc:IsTb n.table∧Xn n.table.self p∧1≤n.copies∧n.copies≤8
  · rw [if_pos hc,if_pos rfl]
    refine ⟨h.1,h.2.1,fun q hq=>?_,h.2.2.2⟩
    rcases adoptL_mem hq with hq|hq
    · rw [List.mem_singleton.1 hq];exact hp
    · exact hl q hq
  · rw [if_neg hc,if_neg (show ¬((1:Int)=0) by decide)]
    exact h
theorem good_learn {t:Tb} {p:Zs} (h:WZ G t) (hp:p≠YD→G p):WZ G (Ub t p):=by
  unfold Ub
  split
  · rename_i hc
    exact ⟨h.1,hp,h.2.2.1,h.2.2.2⟩
  · exact h
theorem good_forget {t:Tb} {a:Int} (h:WZ G t):WZ G (XK t a):=by
  refine ⟨h.1,fun hp=>?_,fun q hq=>h.2.2.1 q (List.mem_filter.1 hq).1,fun q hq hn=>?_⟩
  · show G (if t.pred.addr=a then YD else t.pred)
    have hp2:(if t.pred.addr=a then YD else t.pred)≠YD:=hp
    split
    · rename_i e;rw [if_pos e] at hp2;exact absurd rfl hp2
    · rename_i e;rw [if_neg e] at hp2;exact h.2.1 hp2
  · obtain ⟨x,hx,rfl⟩:=List.mem_map.1 hq
    by_cases e:x.addr=a
    · rw [if_pos e] at hn;exact absurd rfl hn
    · rw [if_neg e] at hn ⊢;exact h.2.2.2 x hx hn
theorem good_pointN {n:Nd} {p:Zs} (h:WZ G n.table) (hp:p≠YD→G p):WZ G (Tf n p).table:=by
  unfold Tf WV
  by_cases hc:IsTb n.table∧(0≤n.cursor∧n.cursor<160)∧(p=n.table.self∨Xn n.table.self p)
  · rw [if_pos hc,if_pos rfl]
    refine ⟨h.1,h.2.1,h.2.2.1,fun q hq hn=>?_⟩
    simp only [List.mem_append] at hq
    rcases hq with (hq|hq)|hq
    · exact h.2.2.2 q (List.mem_of_mem_take hq) hn
    · have:=(List.mem_replicate.1 hq).2
      subst this
      unfold fingerOf at hn ⊢
      split
      · rename_i e;rw [if_pos e] at hn;exact absurd rfl hn
      · rename_i e;rw [if_neg e] at hn;exact hp hn
    · exact h.2.2.2 q (List.mem_of_mem_drop hq) hn
  · rw [if_neg hc,if_neg (show ¬((1:Int)=0) by decide)]
    exact h
theorem insP_mem {p q:Zs}:∀ {l:List Zs},q∈insP p l↔q=p∨q∈l
  | []=>by simp [insP]
  | x::l=>by
    unfold insP
    split
    · rw [List.mem_cons,insP_mem (l:=l),List.mem_cons]
      constructor
      · rintro (h|h|h)
        · exact .inr (.inl h)
        · exact .inl h
        · exact .inr (.inr h)
      · rintro (h|h|h)
        · exact .inr (.inl h)
        · exact .inl h
        · exact .inr (.inr h)
    · simp
theorem knownS_mem {s:Zs} {q:Zs}:∀ {xs out:List Zs},q∈xs.foldl (knownStep s) out→q∈out∨(q∈xs∧0≤q.addr)
  | [],out,h=>.inl h
  | x::xs,out,h=>by
    rcases knownS_mem (xs:=xs) h with h|h
    · unfold knownStep at h
      split at h
      · exact .inl h
      · rename_i hc
        rcases insP_mem.1 h with rfl|h
        · exact .inr ⟨List.mem_cons_self,by
            have:¬q.addr<0:=fun h9=>hc (.inl h9)
            omega⟩
        · exact .inl h
    · exact .inr ⟨List.mem_cons_of_mem _ h.1,h.2⟩
theorem good_known {t:Tb} (h:WZ G t):∀ p∈To t,G p:=by
  intro p hp
  rcases knownS_mem hp with hp|⟨hp,h0⟩
  · cases hp
  · have hn:p≠YD:=fun e=>by subst e;exact absurd h0 jJ
    rcases List.mem_cons.1 hp with rfl|hp
    · exact h.2.1 hn
    · rcases List.mem_append.1 hp with hp|hp
      · exact h.2.2.1 p hp
      · exact h.2.2.2 p hp hn
theorem near_mem {s:Zs} {id:Plc} {av:List Int}:∀ {xs:List Zs} {b:Zs×Bool},(xs.foldl (VB s id av) b)=b∨(xs.foldl (VB s id av) b).1∈xs
  | [],b=>.inl rfl
  | x::xs,b=>by
    have h:=near_mem (s:=s) (id:=id) (av:=av) (xs:=xs) (b:=VB s id av b x)
    rw [List.foldl_cons]
    rcases h with h|h
    · rw [h]
      unfold VB
      split
      · exact .inl rfl
      · split
        · exact .inr List.mem_cons_self
        · exact .inl rfl
    · exact .inr (List.mem_cons_of_mem _ h)
theorem good_near {t:Tb} {id:Plc} {av:List Int} (h:WZ G t) (hn:(Ww t id av).2=true):G (Ww t id av).1:=by
  rcases near_mem (s:=t.self) (id:=id) (av:=av) (xs:=To t) (b:=(YD,false)) with h1|h1
  · have:(Ww t id av).2=false:=by
      show ((To t).foldl (VB t.self id av) (YD,false)).2=false
      rw [h1]
    rw [this] at hn;cases hn
  · exact good_known h _ h1
theorem good_seek {n:Nd} {to9:Int} (h:WZ G n.table):GoodNS G (SA n to9):=⟨h,goodS_one ⟨h.1,fun e=>absurd rfl e,fun p hp=>(by cases hp)⟩⟩
theorem good_lett {n:Nd} {k q:Int} (h:WZ G n.table):Sj G (lett n k q):=⟨h.1,fun e=>absurd rfl e,fun p hp=>(by cases hp)⟩
theorem good_stab {n:Nd} (h:WZ G n.table):GoodNS G (TA n):=by
  unfold TA
  refine Ut (fun hj=>?_) (fun hj=>?_)
  · refine good_seek ?_
    show WZ G (if n.findTo≠-1∧n.findTo≠n.boot then TY n n.findTo else n).table
    split
    · unfold TY;split <;> exact h
    · exact h
  · have h1:WZ G (if n.askTo≠-1 then { n with table:=XK n.table n.askTo,askTo:=-1 } else n).table:=by
      split
      · exact good_forget h
      · exact h
    revert h1
    generalize (if n.askTo≠-1 then { n with table:=XK n.table n.askTo,askTo:=-1 } else n)=m
    intro h1
    have h2:WZ G (if m.table.succ=[]∧m.table.pred≠YD then WG m m.table.pred [] else m).table:=by
      split
      · rename_i hc;exact good_adoptN h1 (h1.2.1 hc.2) (fun q hq=>by cases hq)
      · exact h1
    revert h2
    dsimp only
    generalize (if m.table.succ=[]∧m.table.pred≠YD then WG m m.table.pred [] else m)=m2
    intro h2
    refine Ut (fun _=>⟨h2,WU⟩) (fun _=>⟨h2,goodS_one (good_lett h2)⟩)
theorem good_fix {n:Nd} (h:WZ G n.table):GoodNS G (fixN n):=by
  unfold fixN
  refine Ut (fun hj=>⟨h,WU⟩) (fun hj=>?_)
  have h1:WZ G (if n.findTo=-1 then { n with avoid:=[] } else { TY n n.findTo with table:=XK n.table n.findTo,findTo:=-1 }).table:=by
    split
    · exact h
    · exact good_forget h
  revert h1
  generalize (if n.findTo=-1 then { n with avoid:=[] } else { TY n n.findTo with table:=XK n.table n.findTo,findTo:=-1 })=m
  intro h1
  dsimp only
  refine Ut (fun _=>⟨good_pointN h1 (fun _=>good_first h1),WU⟩) (fun _=>Ut (fun _=>⟨h1,WU⟩) (fun _=>good_seek h1))
theorem good_check {n:Nd} (h:WZ G n.table):GoodNS G (Tg n):=by
  unfold Tg
  have h1:WZ G (if n.pingTo≠-1 then { n with table:=XK n.table n.pingTo,pingTo:=-1 } else n).table:=by
    split
    · exact good_forget h
    · exact h
  revert h1
  generalize (if n.pingTo≠-1 then { n with table:=XK n.table n.pingTo,pingTo:=-1 } else n)=m
  intro h1
  dsimp only
  cases To m.table with
  | nil=>exact ⟨h1,WU⟩
  | cons p l=>exact ⟨h1,goodS_one (good_lett h1)⟩
theorem good_tick {n:Nd} {k:Int} (h:WZ G n.table) (h0:(Uh n k).2.2=0):WZ G (Uh n k).1.table∧GoodS G (Uh n k).2.1:=by
  unfold Uh at *
  split
  · exact Ut (fun _=>good_stab h) (fun _=>Ut (fun _=>good_fix h) (fun _=>good_check h))
  · rename_i hc
    rw [if_neg hc] at h0
    cases h0
theorem good_find {n:Nd} {l:Lt} (h:WZ G n.table):GoodS G (Sn n l):=by
  unfold Sn
  split
  · exact WU
  · refine goodS_one ⟨h.1,fun _=>?_,fun p hp=>(by cases hp)⟩
    show G (if ((Th n.table l.id).2 || !(Ww n.table l.id l.avoid).2)=true then (Th n.table l.id).1 else (Ww n.table l.id l.avoid).1)
    split
    · exact good_first h
    · rename_i hc
      refine good_near h ?_
      cases hb:(Ww n.table l.id l.avoid).2 with
      | true=>rfl
      | false=>rw [hb] at hc;simp at hc
theorem good_found {n:Nd} {l:Lt} (h:WZ G n.table) (hl:Sj G l):GoodNS G (UK n l):=by
  unfold UK
  refine Ut (fun _=>⟨h,WU⟩) (fun _=>Ut (fun _=>?_) (fun _=>Ut (fun _=>⟨h,WU⟩) (fun _=>good_seek h)))
  refine Ut (fun hc=>⟨good_pointN (n:={ n with findTo:=-1 }) h hl.2.1,WU⟩) (fun _=>Ut (fun hc=>⟨?_,WU⟩) (fun _=>⟨h,WU⟩))
  exact good_adoptN (n:={ n with findTo:=-1 }) h (hl.2.1 (other_ne hc.2)) (fun q hq=>by cases hq)
theorem good_told {n:Nd} {l:Lt} (h:WZ G n.table) (hl:Sj G l):GoodNS G (TS n l):=by
  unfold TS
  refine Ut (fun _=>⟨h,WU⟩) (fun _=>?_)
  have h1:WZ G (WG { n with askTo:=-1 } l.frm l.peers).table:=good_adoptN (n:={ n with askTo:=-1 }) h hl.1 hl.2.2
  revert h1
  generalize WG { n with askTo:=-1 } l.frm l.peers=m
  intro h1
  have h2:WZ G (if Ta m.table l.peer then WG m l.peer (l.frm::l.peers) else m).table:=by
    split
    · rename_i hc
      refine good_adoptN h1 (hl.2.1 (other_ne hc.1)) (fun q hq=>?_)
      rcases List.mem_cons.1 hq with rfl|hq
      · exact hl.1
      · exact hl.2.2 q hq
    · exact h1
  revert h2
  dsimp only
  generalize (if Ta m.table l.peer then WG m l.peer (l.frm::l.peers) else m)=m2
  intro h2
  exact ⟨h2,goodS_one (good_lett h2)⟩
theorem good_bye {n:Nd} {l:Lt} (h:WZ G n.table) (hl:Sj G l):WZ G (byeN n l).table:=by
  unfold byeN
  have h1:WZ G (if n.table.pred.addr=l.frm.addr then Ub (XK n.table l.frm.addr) l.peer else XK n.table l.frm.addr):=by
    split
    · exact good_learn (good_forget h) hl.2.1
    · exact good_forget h
  revert h1
  dsimp only
  generalize (if n.table.pred.addr=l.frm.addr then Ub (XK n.table l.frm.addr) l.peer else XK n.table l.frm.addr)=t
  intro h1
  cases hp:l.peers with
  | nil=>exact h1
  | cons p ps =>
    dsimp only
    split
    · exact good_adoptN (n:={ n with table:=t }) h1 (hl.2.2 p (by rw [hp];exact List.mem_cons_self)) (fun q hq=>hl.2.2 q (by rw [hp];exact List.mem_cons_of_mem _ hq))
    · exact h1
theorem good_take {n:Nd} {l:Lt} (h:WZ G n.table) (hl:Sj G l) (h0:(VZ n l).2.2=0):WZ G (VZ n l).1.table∧GoodS G (VZ n l).2.1:=by
  unfold VZ at *
  by_cases hc:IsNd n∧IsLt l
  · rw [if_pos hc]
    split
    · exact ⟨h,WU⟩
    split
    · exact ⟨h,good_find h⟩
    split
    · exact good_found h hl
    split
    · refine ⟨h,?_⟩
      show GoodS G (if n.joined=true then _ else _)
      split
      · exact goodS_one ⟨h.1,h.2.1,h.2.2.1⟩
      · exact WU
    split
    · exact good_told h hl
    split
    · exact ⟨good_learn h (fun _=>hl.1),WU⟩
    split
    · exact ⟨h,goodS_one (good_lett h)⟩
    split
    · refine ⟨?_,WU⟩
      show WZ G (if n.pingTo=l.frm.addr∧n.pingReq=l.req then _ else _:Nd).table
      split <;> exact h
    · exact ⟨good_bye h hl,WU⟩
  · rw [if_neg hc] at h0
    cases h0
theorem good_leave {n:Nd} (h:WZ G n.table):GoodS G (TL n).1:=by
  unfold TL
  split
  · intro s hs
    have key:Sj G { lett n 8 0 with peer:=n.table.pred,peers:=n.table.succ }:=⟨h.1,h.2.1,h.2.2.1⟩
    rcases List.mem_append.1 hs with hs|hs
    · split at hs
      · cases hs
      · rw [List.mem_singleton.1 hs];exact key
    · split at hs
      · rw [List.mem_singleton.1 hs];exact key
      · cases hs
  · exact WU
end
structure Wo (pn:Int→Zs) (G:Zs→Prop) (r:Rg):Prop where
  nd:∀ p∈r.nodes,IsNd p.2∧p.2.table.self=pn p.1∧WZ G p.2.table
  ml:∀ m∈r.bag,Sj G m.lt
theorem Wo.mono {pn:Int→Zs} {G G':Zs→Prop} {r:Rg} (h:Wo pn G r) (hg:∀ p,G p→G' p):Wo pn G' r:=⟨fun p hp=>⟨(h.nd p hp).1,(h.nd p hp).2.1,(h.nd p hp).2.2.mono hg⟩,fun m hm=>(h.ml m hm).mono hg⟩
section
variable {pn:Int→Zs} {G:Zs→Prop}
theorem bagSend_good {most frm:Int}:∀ {l:List Snd} {b:List Ml},(∀ x∈b,Sj G x.lt)→GoodS G l→∀ x∈bagSend most frm b l,Sj G x.lt
  | [],_,hb,_=>hb
  | s::l,b,hb,hl=>by
    refine bagSend_good (l:=l) (b:=Tw most b ⟨frm,s.to,s.letter⟩) (fun x hx=>?_) fun x hx=>hl x (List.mem_cons_of_mem _ hx)
    unfold Tw at hx
    split at hx
    · rcases List.mem_append.1 hx with hx|hx
      · exact hb x hx
      · rw [List.mem_singleton.1 hx];exact hl s List.mem_cons_self
    · exact hb x hx
theorem Wo.send {r:Rg} (h:Wo pn G r) {frm:Int} {l:List Snd} (hl:GoodS G l):Wo pn G (UO r frm l):=by
  rw [sendR_bag]
  exact ⟨h.nd,bagSend_good h.ml hl⟩
theorem putA_memE {α:Type} {a:Int} {x:α} {p:Int×α}:∀ {l:List (Int×α)},p∈putA a x l→p=(a,x)∨p∈l
  | [],h=>.inl (by simpa [putA] using h)
  | (c,y)::l,h=>by
    unfold putA at h
    split at h
    · rcases List.mem_cons.1 h with h|h
      · exact .inl h
      · exact .inr h
    · split at h
      · rcases List.mem_cons.1 h with h|h
        · exact .inl h
        · exact .inr (List.mem_cons_of_mem _ h)
      · rcases List.mem_cons.1 h with h|h
        · exact .inr (by rw [h];exact List.mem_cons_self)
        · rcases putA_memE h with h|h
          · exact .inl h
          · exact .inr (List.mem_cons_of_mem _ h)
theorem Wo.put {r:Rg} (h:Wo pn G r) {a:Int} {n:Nd} (h1:IsNd n) (h2:n.table.self=pn a) (h3:WZ G n.table):Wo pn G { r with nodes:=putA a n r.nodes } :=
  ⟨fun p hp=>by
    rcases putA_memE hp with rfl|hp
    · exact ⟨h1,h2,h3⟩
    · exact h.nd p hp,h.ml⟩
theorem Wo.bag {r:Rg} (h:Wo pn G r) {b:List Ml} (hb:∀ m∈b,m∈r.bag):Wo pn G { r with bag:=b }:=⟨h.nd,fun m hm=>h.ml m (hb m hm)⟩
theorem Wo.deliver {r:Rg} (h:Wo pn G r) (i:Int):Wo pn G (Ws r i).1:=by
  by_cases hi:0≤i∧i<r.bag.length
  · obtain ⟨k,rfl⟩:∃ k:Nat,i=k:=⟨i.toNat,by omega⟩
    have hk:k<r.bag.length:=by omega
    have hb:=h.bag (b:=r.bag.eraseIdx k) fun m hm=>List.mem_of_mem_eraseIdx hm
    cases hg:getA (r.bag[k]).zto r.nodes with
    | none=>rw [deliver_gone hk rfl hg];exact hb
    | some n =>
      by_cases h0:(VZ n (r.bag[k]).lt).2.2=0
      · rw [deliver_yes hk rfl hg rfl rfl h0]
        obtain ⟨g1,g2,g3⟩:=h.nd _ (getA_mem hg)
        have h4:=good_take g3 (h.ml _ (List.getElem_mem hk)) h0
        have h5:=(take_law g1 rfl).2 h0
        exact Wo.send (frm:=(r.bag[k]).zto) (r:={ r with bag:=r.bag.eraseIdx k,nodes:=putA (r.bag[k]).zto (VZ n (r.bag[k]).lt).1 r.nodes }) (hb.put h5.1 (h5.2.1.trans g2) h4.1) h4.2
      · rw [deliver_not hk rfl hg h0];exact hb
  · rw [deliver_none hi];exact h
theorem Wo.flush:∀ (n:Nat) {r:Rg},Wo pn G r→Wo pn G (VX n r)
  | 0,_,h=>h
  | n+1,r,h=>by
    unfold VX
    split
    · exact Wo.flush n (h.deliver 0)
    · exact h
theorem Wo.tick {r:Rg} (h:Wo pn G r) (a k:Int):Wo pn G (TX r a k).1:=by
  cases hg:getA a r.nodes with
  | none=>rw [tick_none hg];exact h
  | some n =>
    by_cases h0:(Uh n k).2.2=0
    · rw [tick_good hg rfl rfl h0]
      obtain ⟨g1,g2,g3⟩:=h.nd _ (getA_mem hg)
      have h4:=good_tick g3 h0
      have h5:=(tick_law g1 rfl).2 h0
      exact Wo.send (r:={ r with nodes:=putA a (Uh n k).1 r.nodes }) (h.put h5.1 (h5.2.1.trans g2) h4.1) h4.2
    · rw [tick_bad hg h0];exact h
theorem Wo.tickL (N:Nat) (a:Int):∀ (ks:List Int) {r:Rg},Wo pn G r→Wo pn G (ks.foldl (fun r k=>VX N (TX r a k).1) r)
  | [],_,h=>h
  | k::ks,_,h=>Wo.tickL N a ks ((h.tick a k).flush N)
theorem Wo.ticks {r:Rg} (h:Wo pn G r) (a:Int):Wo pn G (ticksR r a):=Wo.tickL 10000 a [1,3,2] h
theorem Wo.round {r:Rg} (h:Wo pn G r):Wo pn G (TC r):=by
  have key:∀ (l:List Int) {r1:Rg},Wo pn G r1→Wo pn G (l.foldl ticksR r1):=by
    intro l
    induction l with
    | nil=>exact fun h=>h
    | cons a l ih=>exact fun h1=>ih (h1.ticks a)
  exact key _ (h.flush 10000)
theorem Wo.goes {r:Rg} (h:Wo pn G r) (kind a:Int):Wo pn G (Sa r kind a).1:=by
  unfold Sa
  cases hg:getA a r.nodes with
  | none=>exact h
  | some n =>
    have hd:∀ {r:Rg},Wo pn G r→Wo pn G { r with nodes:=delA a r.nodes }:=fun h=>⟨fun p hp=>h.nd p (List.mem_filter.1 hp).1,h.ml⟩
    dsimp only
    split
    · have h1:=h.send (frm:=a) (good_leave (h.nd _ (getA_mem hg)).2.2)
      have h2:=hd h1
      rw [(sendR_most r a (TL n).1).2.2] at h2
      exact h2
    · exact hd h
end
def InW (pn:Int→Zs) (were:List Int) (p:Zs):Prop:=∃ a∈were,p=pn a
theorem new_is {s:Zs} (h:Yo s.addr):IsTb (newT s).1∧(newT s).1=⟨s,YD,[],List.replicate 160 YD⟩:=by
  unfold newT
  rw [if_pos h]
  refine ⟨⟨h,.inl rfl,Nat.zero_le _,List.length_replicate ..,⟨fun p hp=>(by cases hp),List.nodup_nil⟩,fun p hp=>.inl (List.mem_replicate.1 hp).2⟩,rfl⟩
theorem alone_stays {s:Zs} {r:Int} (h0:(Uw s r).2=0):IsNd (Uw s r).1∧(Uw s r).1.table=⟨s,YD,[],List.replicate 160 YD⟩:=by
  unfold Uw at *
  split at h0
  · rename_i hc
    rw [if_pos hc]
    obtain ⟨h1,h2⟩:=new_is hc.1
    have hs:(newT s).1.self=s:=by rw [h2]
    refine ⟨⟨h1,⟨hc.2.1,hc.2.2⟩,.inl rfl,⟨(by decide:(0:Int)≤0),(by decide:(0:Int)≤159)⟩,Nat.zero_le _,⟨(by decide:(0:Int)≤0),(by decide:(0:Int)≤64)⟩,⟨(by decide:(0:Int)≤0),(by decide:(0:Int)≤999999)⟩,?_,fun a ha=>(by cases ha)⟩,h2⟩
    have hn:Xp (newT s).1.self (-1):=by rw [hs];exact addrN_none hc.1
    exact ⟨hn,hn,hn,hn⟩
  · cases h0
theorem joining_stays {s:Zs} {r b:Int} (h0:(UT s r b).2=0):IsNd (UT s r b).1∧(UT s r b).1.table=⟨s,YD,[],List.replicate 160 YD⟩:=by
  unfold UT at *
  split at h0
  · rename_i hc
    rw [if_pos hc]
    obtain ⟨⟨g1,g2,g3,g4,g5,g6,g7,g8,g9⟩,h2⟩:=alone_stays hc.1
    have hs:(Uw s r).1.table.self=s:=by rw [h2]
    refine ⟨⟨g1,g2,.inr (by show b≠-1;have:=hc.2.1.1;omega),g4,g5,g6,g7,⟨?_,g8.2⟩,g9⟩,h2⟩
    show Xp (Uw s r).1.table.self b
    rw [hs]
    exact addrN_ok hc.2.1 hc.2.2
  · cases h0
theorem good_new {G:Zs→Prop} {s:Zs} (h:G s):WZ G ⟨s,YD,[],List.replicate 160 YD⟩:=⟨h,fun hn=>absurd rfl hn,fun p hp=>(by cases hp),fun p hp hn=>absurd (List.mem_replicate.1 hp).2 hn⟩
def Sr (pn:Int→Zs) (were:List Int) (r:Rg) (t:Trn):List Int:=if (doR pn r t).2=0∧(t.kind=1∨t.kind=2) then were++[t.a] else were
theorem inW_more {pn:Int→Zs} {were:List Int} {a:Int} {p:Zs} (h:InW pn were p):InW pn (were++[a]) p:=by
  obtain ⟨b,hb,e⟩:=h
  exact ⟨b,List.mem_append_left _ hb,e⟩
theorem start_stays {pn:Int→Zs} {were:List Int} {r:Rg} {a:Int} {X:Nd×Int} (h:Wo pn (InW pn were) r) (hX:X.2=0→IsNd X.1∧X.1.table=⟨pn a,YD,[],List.replicate 160 YD⟩) :
    ((UR r a X).2=0→Wo pn (InW pn (were++[a])) (UR r a X).1)∧(¬(UR r a X).2=0→Wo pn (InW pn were) (UR r a X).1):=by
  by_cases h0:X.2=0
  · rw [start_good h0 rfl]
    refine ⟨fun _=>?_,fun h9=>absurd rfl h9⟩
    obtain ⟨g1,g2⟩:=hX h0
    refine (h.mono fun p hp=>inW_more hp).put g1 (by rw [g2]) ?_
    rw [g2]
    exact good_new ⟨a,List.mem_append_right _ (List.mem_singleton.2 rfl),rfl⟩
  · rw [start_bad h0]
    exact ⟨fun h9=>absurd h9 h0,fun _=>h⟩
theorem twice_sub (r:Rg) (i:Int):(TB r i).1={ r with bag:=(TB r i).1.bag }∧∀ m∈(TB r i).1.bag,m∈r.bag:=by
  unfold TB
  split
  · rename_i h
    obtain ⟨k,rfl⟩:∃ k:Nat,i=k:=⟨i.toNat,by omega⟩
    simp only [Int.toNat_natCast,List.getElem?_eq_getElem (show k<r.bag.length by omega)]
    split
    · refine ⟨rfl,fun m hm=>?_⟩
      rcases List.mem_append.1 hm with hm|hm
      · exact hm
      · rw [List.mem_singleton.1 hm];exact List.getElem_mem _
    · exact ⟨rfl,fun m hm=>hm⟩
  · exact ⟨rfl,fun m hm=>hm⟩
theorem Wo.do {pn:Int→Zs} {were:List Int} {r:Rg} (h:Wo pn (InW pn were) r) (hw:∀ a∈were,Yo a) (t:Trn) :
    Wo pn (InW pn (Sr pn were r t)) (doR pn r t).1∧∀ a∈Sr pn were r t,Yo a:=by
  have same:∀ {r2:Rg},Wo pn (InW pn were) r2→¬((doR pn r t).2=0∧(t.kind=1∨t.kind=2))→(doR pn r t).1=r2→Wo pn (InW pn (Sr pn were r t)) (doR pn r t).1∧∀ a∈Sr pn were r t,Yo a:=by
    intro r2 h2 hn he
    unfold Sr
    rw [if_neg hn,he]
    exact ⟨h2,hw⟩
  have more:∀ {X:Nd×Int},Yo t.a→(t.kind=1∨t.kind=2)→(X.2=0→IsNd X.1∧X.1.table=⟨pn t.a,YD,[],List.replicate 160 YD⟩)→doR pn r t=UR r t.a X→Wo pn (InW pn (Sr pn were r t)) (doR pn r t).1∧∀ a∈Sr pn were r t,Yo a:=by
    intro X ha hk hX he
    have hs:=start_stays (a:=t.a) h hX
    unfold Sr
    rw [he]
    by_cases h0:(UR r t.a X).2=0
    · rw [if_pos ⟨h0,hk⟩]
      refine ⟨hs.1 h0,fun a h9=>?_⟩
      rcases List.mem_append.1 h9 with h9|h9
      · exact hw a h9
      · rw [List.mem_singleton.1 h9];exact ha
    · rw [if_neg (fun h9=>h0 h9.1)]
      exact ⟨hs.2 h0,hw⟩
  by_cases k1:t.kind=1
  · by_cases ha:Yo t.a
    · by_cases hn:0<r.nodes.length
      · have e:doR pn r t=(r,13):=(do1 k1).trans (begin_kind ha hn)
        exact same h zN (by rw [e])
      · exact more ha (.inl k1) alone_stays ((do1 k1).trans (begin_good ha hn))
    · have e:doR pn r t=(r,1):=(do1 k1).trans (begin_bad ha)
      exact same h zN (by rw [e])
  by_cases k2:t.kind=2
  · by_cases ho:Yo t.a∧Yo t.b∧¬t.a=t.b
    · cases h1:(getA t.a r.nodes).isSome with
      | true =>
        have e:doR pn r t=(r,9):=(do2 k2).trans (join_twice ho h1)
        exact same h zN (by rw [e])
      | false =>
        by_cases h2:16≤r.nodes.length
        · have e:doR pn r t=(r,12):=(do2 k2).trans (join_full ho h1 h2)
          exact same h zN (by rw [e])
        · cases h3:(getA t.b r.nodes).isSome with
          | false =>
            have e:doR pn r t=(r,7):=(do2 k2).trans (join_none ho h1 h2 h3)
            exact same h zN (by rw [e])
          | true=>exact more ho.1 (.inr k2) joining_stays ((do2 k2).trans (join_good ho h1 h2 h3))
    · have e:doR pn r t=(r,1):=(do2 k2).trans (join_bad (by
        apply Decidable.byContradiction
        intro h9
        rw [not_or,not_or] at h9
        exact ho ⟨Decidable.not_not.1 h9.1,Decidable.not_not.1 h9.2.1,h9.2.2⟩))
      exact same h zN (by rw [e])
  have no:¬((doR pn r t).2=0∧(t.kind=1∨t.kind=2)):=fun h9=>h9.2.elim k1 k2
  by_cases k3:t.kind=3∨t.kind=4
  · exact same (h.goes t.kind t.a) no (by rw [do34 k3])
  by_cases k5:t.kind=5
  · exact same (h.tick t.a t.b) no (by rw [do5 k5])
  by_cases k6:t.kind=6
  · exact same (h.deliver t.a) no (by rw [do6 k6])
  by_cases k7:t.kind=7
  · have g:=drop_is r t.a
    refine same (r2:=(dropR r t.a).1) ?_ no (by rw [do7 k7])
    rw [g.2.2.1]
    exact h.bag g.2.2.2
  by_cases k8:t.kind=8
  · have g:=twice_sub r t.a
    refine same (r2:=(TB r t.a).1) ?_ no (by rw [do8 k8])
    rw [g.1]
    exact h.bag g.2
  by_cases k9:t.kind=9
  · exact same h.round no (by rw [do9 k9])
  · exact same h no (by rw [do0 jC])
theorem Wo.nil (pn:Int→Zs) (G:Zs→Prop) (c k:Int):Wo pn G ⟨c,k,[],[]⟩:=⟨fun p hp=>(by cases hp),fun m hm=>(by cases hm)⟩
theorem Wo.at {pn:Int→Zs} {were:List Int} {r:Rg} {a:Int} {n:Nd} (h:Wo pn (InW pn were) r) (hn:getA a r.nodes=some n):IsNd n∧n.table.self=pn a∧InW pn were n.table.self∧∀ p∈To n.table,InW pn were p:=by
  obtain ⟨g1,g2,g3⟩:=h.nd _ (getA_mem hn)
  exact ⟨g1,g2,g3.1,good_known g3⟩
end Go.Esp
namespace Go.Proofs.YtglnjnacodgmaaaGreatDoor
open Go.Esp
theorem F.ok19:okFn Tryz.prog 19=true:=by kernel_rfl
theorem known_ok (M:Mem) (p:Zs) (were:(Sl Int)) (hwere0:SlK M (oneI .i64) 1 were) (ha:Yo p.addr) (hw9:p.addr∈were.l) (hp:K.peerN p.addr=p) (hM:M.dr=0) (hP:PowM M):Esp.Fn Tryz.prog 19 [p.enc,Sl.val were] M (fun _ v=>v=.bool true):=by
  obtain ⟨YI,p_id⟩:=p
  obtain ⟨were_a,were_c,were_l⟩:=were
  have k_were:SlK M (oneI .i64) 1 ⟨were_a,were_c,were_l⟩:=hwere0
  have s_were:SlM M were_a (were_l.map (oneI .i64)) 1:=k_were.h1
  have n_were:(were_l.map (oneI .i64)).length=were_l.length:=List.length_map ..
  have m_were:were_l.length≤9223372036854775807:=k_were.h2
  have c_were:were_l.length≤were_c:=k_were.h3
  try simp only at ha hw9 hp
  refine WF Tryz.func19 rfl Tryz.ntmps19 rfl ?_;intro H
  iterate 2 refine Stp ?_
  refine Xq ?_;intro b1
  iterate 10 refine Stp ?_
  refine Y_pk [5,4,2,1] ?_;refine VI (.succ .zero) (fun (k:Nat) z=>z=[(5,.int .i64 (k:Int))]∧k≤were_l.length∧∀ j (h2:j<were_l.length),j<k→¬were_l[j]=YI) (fun k=>were_l.length-k) (0) (⟨rfl,by omega,by intro j h2 hj;omega⟩) ?_
  rintro k _ ⟨rfl,hk,hI⟩
  iterate 5 refine Stp ?_
  refine YA F.elem32 ?_
  iterate 3 refine Stp ?_
  refine ZW rfl (cT fun hc2=>?_) (cF fun hc2=>?_)
  ·iterate 5 refine Stp ?_
   refine Yg (l:=[0,1,2,3,4,5,6]) #[0,0,3,7,0,16,63] _ rfl jI jI St.drawn (fun _ h=>h) ?_
   iterate 2 refine Stp ?_
   refine Ys rfl rfl rfl rfl F.elem32 jR jC yB rfl ?_;refine Xm rfl rfl rfl jE yC F.lay3 rfl rfl rfl ?_;refine Zi F.foff38_0 ?_;refine Zy F.lay3 ?_
   iterate 3 refine Stp ?_
   refine ZW rfl (cT fun hc3=>?_) (cF fun hc3=>?_)
   ·iterate 2 refine Stp ?_
    refine Zi F.foff38_0 ?_;refine Zy F.lay3 ?_
    refine YS rfl rfl F.elem32 F.zero3 rfl rfl (.cons rfl jG .nil) rfl rfl jL rfl ?_;intro b4 hob5
    refine WE rfl rfl F.ok24 rfl (OfF_ok M _ _ _ [YI] rfl _ hob5 hM (digs_all hP _)) jA (fun _ _ _ hm hw=>(hw.lower jV).c) (ZT rfl) ?_
    rintro _ M1 _ hm1 ⟨rfl,hv⟩
    obtain ⟨⟨q_a,q_c,q_l⟩,rfl,k_q,hq1⟩:=of1 ha hv
    rw [hp] at hq1
    simp only at hq1
    subst hq1
    have s_q:=k_q.h1
    try simp only at s_q
    simp only [Sl.val]
    iterate 8 refine Stp ?_
    refine Yg (l:=[0,1,2,3,4,5,6,7,8,9,10,11,12,13,14]) #[0,1,3,7,15,31,63,127,255,511,1023,255,4095,8191,16383] _ rfl jI jI St.drawn (fun _ h=>h) ?_
    iterate 3 refine Stp ?_
    refine Yt 30 rfl (cT fun hc6=>?_) (cF fun hc6=>?_)
    ·simp only [Zs.eta,ZO.eta,ZJ.eta,ZF.eta,Ym.eta,Yv.eta,Yy.eta,Yq.eta,ZN.eta,YF.eta,ZU.eta] at hc6
     refine Yk ?_;refine YA F.elem39 ?_
     iterate 3 refine Stp ?_
     refine Yt 35 rfl (cT fun hc7=>?_) (cF fun hc7=>?_)
     ·refine Yk ?_
      refine Ys rfl rfl rfl rfl F.elem39 jR zK (by exact SlM.plain jE zK) rfl ?_;refine Xm rfl rfl rfl jE (by exact rfl) F.lay38 rfl rfl rfl ?_;refine Zy F.lay38 ?_
      refine VE (m:=20) rfl rfl rfl rfl rfl jG jG F.lay38 F.kinds38 rfl F.guard38 jS jS rfl rfl rfl ?_;intro c8 he9
      replace he9:c8=true↔Segs.cells _=Segs.cells _:=he9
      obtain rfl:=eqD he9 (Zs.inj (x:=⟨_,_⟩) (y:=⟨_,_⟩));clear he9
      iterate 10 refine Stp ?_
      refine ZV (.inr rfl) (.tmp rfl .nil) (fun w hw=>?_)
      exact ⟨_,M1,rfl,hm1,hw.c,by simp [resV]⟩
     ·(exfalso;simp [eqX] at hc7;done)
    ·simp only [Zs.eta,ZO.eta,ZJ.eta,ZF.eta,Ym.eta,Yv.eta,Yy.eta,Yq.eta,ZN.eta,YF.eta,ZU.eta] at hc6
     (exfalso;simp [eqX] at hc6;done)
   ·iterate 5 refine Stp ?_
    refine YO rfl rfl rfl rfl rfl yA rfl ?_
    iterate 2 refine Stp ?_
    refine Vq (a':=[(5,_)]) (k+1) (.cons (k:=5) rfl (.cons (k:=4) rfl (.cons (k:=2) rfl (.cons (k:=1) rfl (.nil))))) (fun w hw=>by first|exact hw|exact hw.c) ?_ ?_
    ·refine ⟨rfl,by omega,?_⟩
     intro j h2 hj
     rcases Nat.lt_or_ge j k with h9|h9
     ·exact hI j h2 h9
     ·obtain rfl:j=k:=by omega
      assumption
    ·omega
  ·iterate 11 refine Stp ?_
   refine ZV (.inr rfl) (.tmp rfl .nil) (fun w hw=>?_)
   exfalso
   obtain ⟨j,hj,hj2⟩:=List.getElem_of_mem hw9
   exact hI j hj jC hj2
theorem lawStays_no (M:Mem) (r:Int) (most:Int) (script:(Sl Yy)) (hscript0:SlK M Yy.segs 3 script) (hM:M.dr=0) (hP:PowM M) (h:¬((1≤r∧r≤8)∧(1≤most∧most≤1000))):Esp.Fn Tryz.prog 4 [.int .i64 r,.int .i64 most,Sl.val script] M (fun _ v=>v=.bool true):=by
  obtain ⟨script_a,script_c,script_l⟩:=script
  have VV:SlK M Yy.segs 3 ⟨script_a,script_c,script_l⟩:=hscript0
  have s_script:SlM M script_a (script_l.map Yy.segs) 3:=VV.h1
  have n_script:(script_l.map Yy.segs).length=script_l.length:=List.length_map ..
  have m_script:script_l.length≤9223372036854775807:=VV.h2
  have c_script:script_l.length≤script_c:=VV.h3
  refine WF Tryz.func4 rfl Tryz.ntmps4 rfl ?_;intro H
  iterate 9 refine Stp ?_
  refine YA F.elem22 ?_
  iterate 2 refine Stp ?_
  refine Yt 21 rfl (cT fun hc1=>?_) (cF fun hc1=>?_)
  ·iterate 14 refine Stp ?_
   refine ZV (.inr rfl) (.tmp rfl .nil) (fun w hw=>?_)
   exact ⟨_,_,rfl,Mem.le.refl _,hw.c,rfl⟩
  ·refine Yk ?_
   refine X_fs rfl rfl F.ok7 rfl (rounds_ok M ⟨script_a,script_c,script_l⟩ jE) rfl ?_
   rintro _ ⟨nr,rfl⟩
   iterate 4 refine Stp ?_
   refine ZW rfl (cT fun hc2=>?_) (cF fun hc2=>?_)
   ·iterate 7 refine Stp ?_
    refine ZV (.inr rfl) (.tmp rfl .nil) (fun w hw=>?_)
    exact ⟨_,_,rfl,Mem.le.refl _,hw.c,rfl⟩
   ·iterate 6 refine Stp ?_
    refine X_fs rfl rfl F.ok8 rfl (rNew_no M r most h) rfl ?_
    rintro _ rfl
    iterate 11 refine Stp ?_
    refine Tx Tryz.underlying24 ?_
    iterate 2 refine Stp ?_
    refine ZW rfl (fun hc3=>?_) (fun hc3=>?_)
    ·skip
     iterate 2 refine Stp ?_
     refine X_fn rfl rfl F.ok9 rfl (ringed_ok M (Mem.le.loose (Mem.le.refl M) hM) (hP.mono (Mem.le.refl M))) rfl ?_
     rintro _ M9 hm9 rfl
     refine Yk ?_
     refine Yt 35 rfl (fun hc4=>?_) (fun hc4=>?_)
     ·skip
      simp only [Zs.eta,ZO.eta,ZJ.eta,ZF.eta,Ym.eta,Yv.eta,Yy.eta,Yq.eta,ZN.eta,YF.eta,ZU.eta] at hc4
      iterate 8 refine Stp ?_
      refine ZV (.inr rfl) (.tmp rfl .nil) (fun w hw=>?_)
      exact ⟨_,_,rfl,hm9,hw.c,rfl⟩
     ·skip
      (exfalso;simp [eqX] at hc4;done)
    ·skip
     (exfalso;simp [eqX] at hc3;done)
theorem lawStays_far (M:Mem) (r:Int) (most:Int) (script:(Sl Yy)) (hscript0:SlK M Yy.segs 3 script) (h40:40<script.l.length):Esp.Fn Tryz.prog 4 [.int .i64 r,.int .i64 most,Sl.val script] M (fun _ v=>v=.bool true):=by
  obtain ⟨script_a,script_c,script_l⟩:=script
  have VV:SlK M Yy.segs 3 ⟨script_a,script_c,script_l⟩:=hscript0
  have s_script:SlM M script_a (script_l.map Yy.segs) 3:=VV.h1
  have n_script:(script_l.map Yy.segs).length=script_l.length:=List.length_map ..
  have m_script:script_l.length≤9223372036854775807:=VV.h2
  have c_script:script_l.length≤script_c:=VV.h3
  simp only at h40
  refine WF Tryz.func4 rfl Tryz.ntmps4 rfl ?_;intro H
  iterate 9 refine Stp ?_
  refine YA F.elem22 ?_
  iterate 2 refine Stp ?_
  refine Yt 21 rfl (cT fun hc1=>?_) (cF fun hc1=>?_)
  ·iterate 14 refine Stp ?_
   refine ZV (.inr rfl) (.tmp rfl .nil) (fun w hw=>?_)
   exact ⟨_,_,rfl,Mem.le.refl _,hw.c,rfl⟩
  ·(exfalso;omega)
theorem lawStays_yes (M:Mem) (r:Int) (most:Int) (script:(Sl Yy)) (hscript0:SlK M Yy.segs 3 script) (hM:M.dr=0) (hP:PowM M) (h:(1≤r∧r≤8)∧(1≤most∧most≤1000)) (h40:script.l.length≤40):Esp.Fn Tryz.prog 4 [.int .i64 r,.int .i64 most,Sl.val script] M (fun _ v=>v=.bool true):=by
  obtain ⟨script_a,script_c,script_l⟩:=script
  have VV:SlK M Yy.segs 3 ⟨script_a,script_c,script_l⟩:=hscript0
  have s_script:SlM M script_a (script_l.map Yy.segs) 3:=VV.h1
  have n_script:(script_l.map Yy.segs).length=script_l.length:=List.length_map ..
  have m_script:script_l.length≤9223372036854775807:=VV.h2
  have c_script:script_l.length≤script_c:=VV.h3
  simp only at h40
  refine WF Tryz.func4 rfl Tryz.ntmps4 rfl ?_;intro H
  iterate 9 refine Stp ?_
  refine YA F.elem22 ?_
  iterate 2 refine Stp ?_
  refine Yt 21 rfl (cT fun hc1=>?_) (cF fun hc1=>?_)
  ·(exfalso;omega)
  ·refine Yk ?_
   refine X_fs rfl rfl F.ok7 rfl (rounds_ok M ⟨script_a,script_c,script_l⟩ jE) rfl ?_
   rintro _ ⟨nr,rfl⟩
   iterate 4 refine Stp ?_
   refine ZW rfl (cT fun hc2=>?_) (cF fun hc2=>?_)
   ·iterate 7 refine Stp ?_
    refine ZV (.inr rfl) (.tmp rfl .nil) (fun w hw=>?_)
    exact ⟨_,_,rfl,Mem.le.refl _,hw.c,rfl⟩
   ·iterate 6 refine Stp ?_
    refine WE rfl rfl F.ok8 rfl (rNew_ok M r most h.1 h.2) jA (fun _ _ _ hm hw=>(hw.lower jV).c) (ZT rfl) ?_
    rintro _ M1 hA1 hm1 ⟨ga,rfl,hA⟩
    iterate 11 refine Stp ?_
    refine Tx Tryz.underlying24 ?_
    iterate 2 refine Stp ?_
    refine ZW rfl (fun hc3=>?_) (fun hc3=>?_)
    ·skip
     (exfalso;simp [eqX] at hc3;done)
    ·skip
     iterate 14 refine Stp ?_
     refine Y_pk [10,9,7,6,2] ?_;refine Wt (Hin:=hA1) (.succ (.succ .zero)) jA (fun (k:Nat) M3 h3 z=>∃ (rr:Rg) (wl:List Int) (v:Value) (hA3 hs3:Hp),z=[(10,.int .i64 (k:Int)),(9,v)]∧k≤script_l.length∧h3=hA3++hs3∧YX ga (1000000 * (k:Int)) rr M3 hA3∧OSl 3 1 v hs3 (wl.map (oneI .i64))∧wl.length≤k∧Wo K.peerN (InW K.peerN wl) rr∧∀ a∈wl,Yo a) (fun k=>script_l.length-k) (0) (⟨_,[],_,hA1,[],rfl,by omega,by simp,by simpa using hA,OSl.nil,by simp,Wo.nil _ _ _ _,fun a ha=>(by cases ha)⟩) ?_
     rintro k M3 h3 z hm3 ⟨rr,wl,v0,hA3,hs3,rfl,hk,rfl,hRA,ho,hwl,hW,hwa⟩
     obtain ⟨ad0,cp0,rfl⟩:=ho.valL
     have hml:(wl.map (oneI .i64)).length=wl.length:=List.length_map ..
     have s_script3:=(s_script.mono hm1).mono hm3
     simp only [List.append_assoc]
     iterate 5 refine Stp ?_
     refine YA F.elem22 ?_
     iterate 3 refine Stp ?_
     refine ZW rfl (cT fun hc4=>?_) (cF fun hc4=>?_)
     ·iterate 5 refine Stp ?_
      obtain ⟨⟨XP,t_a,t_b⟩,hq⟩:∃ t,script_l[k]'jC=t:=⟨_,rfl⟩
      refine Wh (l:=[0,1,2,3,4,5,6]) (Hin:=hA3) jA rfl ?_
      iterate 3 refine Stp ?_
      refine Ys rfl rfl rfl rfl F.elem22 jR jC yB rfl ?_;refine Xm rfl rfl rfl jE yC F.lay31 rfl rfl rfl ?_
      simp only [List.get_eq_getElem,hq]
      refine WE rfl rfl F.ok10 rfl (Do_okR M3 ga _ rr hA3 hRA ⟨XP,t_a,t_b⟩ (Mem.le.loose (hm1.trans hm3) hM) (hP.mono (hm1.trans hm3)) jC) jA (fun _ _ _ hm hw=>(hw.lower jV).c) (ZT rfl) ?_
      rintro _ M4 hA4 hm4 ⟨rfl,hRA4⟩
      have s_script4:=s_script3.mono hm4
      iterate 8 refine Stp ?_
      refine Yt 53 rfl (cT fun hc5=>?_) (cF fun hc5=>?_)
      ·simp only [Zs.eta,ZO.eta,ZJ.eta,ZF.eta,Ym.eta,Yv.eta,Yy.eta,Yq.eta,ZN.eta,YF.eta,ZU.eta] at hc5
       iterate 2 refine Stp ?_
       refine Ys rfl rfl rfl rfl F.elem22 jR jC yB rfl ?_;refine X_fieldAddr_el rfl rfl rfl yB F.foff31_0 rfl ?_;refine Xm rfl rfl rfl jE yC F.lay3 rfl rfl rfl ?_
       simp only [List.get_eq_getElem,hq]
       iterate 2 refine Stp ?_
       refine Yt 60 rfl (cT fun hc6=>?_) (cF fun hc6=>?_)
       ·iterate 15 refine Stp ?_
        refine Ys rfl rfl rfl rfl F.elem22 jR jC yB rfl ?_;refine X_fieldAddr_el rfl rfl rfl yB F.foff31_1 rfl ?_;refine Xm rfl rfl rfl jE yC F.lay3 rfl rfl rfl ?_
        simp only [List.get_eq_getElem,hq]
        refine YS rfl rfl F.elem32 F.zero3 rfl rfl (.cons rfl jG .nil) rfl rfl jL rfl ?_;intro b7 hob8
        refine WT (m:=1000000) rfl rfl rfl rfl rfl F.elem32 F.zero3 jR rfl jE jA (Src.own hob8.lens jO rfl jB) jN jJ rfl ?_;intro v11 hs10 ho9;obtain ⟨adv11,cpv11,rfl⟩:=ho9.val
        iterate 6 refine Stp ?_
        refine YO rfl rfl rfl rfl rfl yA rfl ?_
        iterate 2 refine Stp ?_
        refine Xa (a':=[(10,_),(9,_)]) (k+1) ((hA4++hs10)) (.cons (k:=10) rfl (.cons (k:=9) rfl (.cons (k:=7) rfl (.cons (k:=6) rfl (.cons (k:=2) rfl (.nil)))))) (hm3.trans hm4) (fun w hw=>by first|exact hw|exact hw.c) ?_ ?_
        ·have hWd:=Wo.do hW hwa ⟨XP,t_a,t_b⟩
         have hRA5:YX ga (1000000 * ((k+1:Nat):Int)) (doR K.peerN rr ⟨XP,t_a,t_b⟩).1 M4 hA4:=by rw [show 1000000 * ((k+1:Nat):Int)=1000000 * (k:Int)+1000000 by omega];exact hRA4
         have ew:Sr K.peerN wl rr ⟨XP,t_a,t_b⟩=wl++[t_a]:=if_pos ⟨by assumption,by show XP=1∨XP=2;omega⟩
         rw [ew] at hWd
         exact ⟨_,wl++[t_a],_,hA4,_,rfl,by omega,rfl,hRA5,by rw [List.map_append];exact ho9,by simp;omega,hWd.1,hWd.2⟩
        ·omega
       ·iterate 2 refine Stp ?_
        refine Ys rfl rfl rfl rfl F.elem22 jR jC yB rfl ?_;refine X_fieldAddr_el rfl rfl rfl yB F.foff31_0 rfl ?_;refine Xm rfl rfl rfl jE yC F.lay3 rfl rfl rfl ?_
        simp only [List.get_eq_getElem,hq]
        iterate 5 refine Stp ?_
        refine ZW rfl (cT fun hc12=>?_) (cF fun hc12=>?_)
        ·iterate 4 refine Stp ?_
         refine Ys rfl rfl rfl rfl F.elem22 jR jC yB rfl ?_;refine X_fieldAddr_el rfl rfl rfl yB F.foff31_1 rfl ?_;refine Xm rfl rfl rfl jE yC F.lay3 rfl rfl rfl ?_
         simp only [List.get_eq_getElem,hq]
         refine YS rfl rfl F.elem32 F.zero3 rfl rfl (.cons rfl jG .nil) rfl rfl jL rfl ?_;intro b13 hob14
         refine WT (m:=1000000) rfl rfl rfl rfl rfl F.elem32 F.zero3 jR rfl jE jA (Src.own hob14.lens jO rfl jB) jN jJ rfl ?_;intro v17 hs16 ho15;obtain ⟨adv17,cpv17,rfl⟩:=ho15.val
         iterate 6 refine Stp ?_
         refine YO rfl rfl rfl rfl rfl yA rfl ?_
         iterate 2 refine Stp ?_
         refine Xa (a':=[(10,_),(9,_)]) (k+1) ((hA4++hs16)) (.cons (k:=10) rfl (.cons (k:=9) rfl (.cons (k:=7) rfl (.cons (k:=6) rfl (.cons (k:=2) rfl (.nil)))))) (hm3.trans hm4) (fun w hw=>by first|exact hw|exact hw.c) ?_ ?_
         ·have hWd:=Wo.do hW hwa ⟨XP,t_a,t_b⟩
          have hRA5:YX ga (1000000 * ((k+1:Nat):Int)) (doR K.peerN rr ⟨XP,t_a,t_b⟩).1 M4 hA4:=by rw [show 1000000 * ((k+1:Nat):Int)=1000000 * (k:Int)+1000000 by omega];exact hRA4
          have ew:Sr K.peerN wl rr ⟨XP,t_a,t_b⟩=wl++[t_a]:=if_pos ⟨by assumption,by show XP=1∨XP=2;omega⟩
          rw [ew] at hWd
          exact ⟨_,wl++[t_a],_,hA4,_,rfl,by omega,rfl,hRA5,by rw [List.map_append];exact ho15,by simp;omega,hWd.1,hWd.2⟩
         ·omega
        ·iterate 5 refine Stp ?_
         refine YO rfl rfl rfl rfl rfl yA rfl ?_
         iterate 2 refine Stp ?_
         refine Xa (a':=[(10,_),(9,_)]) (k+1) ((hA4++hs3)) (.cons (k:=10) rfl (.cons (k:=9) rfl (.cons (k:=7) rfl (.cons (k:=6) rfl (.cons (k:=2) rfl (.nil)))))) (hm3.trans hm4) (fun w hw=>by first|exact hw|exact hw.c) ?_ ?_
         ·have hWd:=Wo.do hW hwa ⟨XP,t_a,t_b⟩
          have hRA5:YX ga (1000000 * ((k+1:Nat):Int)) (doR K.peerN rr ⟨XP,t_a,t_b⟩).1 M4 hA4:=by rw [show 1000000 * ((k+1:Nat):Int)=1000000 * (k:Int)+1000000 by omega];exact hRA4
          have ew:Sr K.peerN wl rr ⟨XP,t_a,t_b⟩=wl:=if_neg (by rintro ⟨g1,g2⟩;change XP=1∨XP=2 at g2;first|exact absurd g1 jE|omega|(simp_all;done))
          rw [ew] at hWd
          exact ⟨_,wl,_,hA4,hs3,rfl,by omega,rfl,hRA5,ho,by omega,hWd.1,hWd.2⟩
         ·omega
      ·simp only [Zs.eta,ZO.eta,ZJ.eta,ZF.eta,Ym.eta,Yv.eta,Yy.eta,Yq.eta,ZN.eta,YF.eta,ZU.eta] at hc5
       iterate 23 refine Stp ?_
       refine YO rfl rfl rfl rfl rfl yA rfl ?_
       iterate 2 refine Stp ?_
       refine Xa (a':=[(10,_),(9,_)]) (k+1) ((hA4++hs3)) (.cons (k:=10) rfl (.cons (k:=9) rfl (.cons (k:=7) rfl (.cons (k:=6) rfl (.cons (k:=2) rfl (.nil)))))) (hm3.trans hm4) (fun w hw=>by first|exact hw|exact hw.c) ?_ ?_
       ·have hWd:=Wo.do hW hwa ⟨XP,t_a,t_b⟩
        have hRA5:YX ga (1000000 * ((k+1:Nat):Int)) (doR K.peerN rr ⟨XP,t_a,t_b⟩).1 M4 hA4:=by rw [show 1000000 * ((k+1:Nat):Int)=1000000 * (k:Int)+1000000 by omega];exact hRA4
        have ew:Sr K.peerN wl rr ⟨XP,t_a,t_b⟩=wl:=if_neg (by rintro ⟨g1,g2⟩;change XP=1∨XP=2 at g2;first|exact absurd g1 jE|omega|(simp_all;done))
        rw [ew] at hWd
        exact ⟨_,wl,_,hA4,hs3,rfl,by omega,rfl,hRA5,ho,by omega,hWd.1,hWd.2⟩
       ·omega
     ·iterate 6 refine Stp ?_
      refine Sp ho jA (fun M5 hm5 k_w=>?_)
      have hRA5:=hRA.mono (Int.le_refl _) hm5
      have hz5:=(hm1.trans hm3).trans hm5
      iterate 2 refine Stp ?_
      refine X_fo rfl rfl F.ok11 rfl (Live_ok M5 ga _ rr hA3 hRA5) jA (ZT rfl) ?_
      rintro _ M6 hm6 ⟨⟨l_a,l_c,l_l⟩,rfl,el,k_l⟩
      try simp only at el
      have hz6:=hz5.trans hm6
      have hRA6:=hRA5.mono (Int.le_refl _) hm6
      have s_l:=k_l.h1
      try simp only at s_l
      have n_l:(l_l.map (oneI .i64)).length=l_l.length:=List.length_map ..
      have m_l:l_l.length≤9223372036854775807:=k_l.h2
      simp only [Sl.val]
      iterate 10 refine Stp ?_
      refine Y_pk [13,12,9,7,6] ?_;refine Wt (Hin:=[]) (.succ .zero) jA (fun (k:Nat) M7 h7 z=>z=[(13,.int .i64 (k:Int))]∧k≤l_l.length∧h7=[]) (fun k=>l_l.length-k) (0) (⟨rfl,by omega,rfl⟩) ?_
      rintro k9 M7 h7 z hm7 ⟨rfl,hk9,rfl⟩
      have s_l7:=s_l.mono hm7
      have hRA7:=hRA6.mono (Int.le_refl _) hm7
      have hz7:=hz6.trans hm7
      iterate 5 refine Stp ?_
      refine YA F.elem32 ?_
      iterate 3 refine Stp ?_
      refine ZW rfl (cT fun hc18=>?_) (cF fun hc18=>?_)
      ·iterate 5 refine Stp ?_
       obtain ⟨a,ha⟩:∃ a,l_l[k9]'jC=a:=⟨_,rfl⟩
       obtain ⟨n9,hn9⟩:=live_at (r:=rr) (a:=a) (by rw [← el,← ha];exact List.getElem_mem _)
       obtain ⟨g1,g2,⟨b9,g3,g4⟩,g5⟩:=hW.at hn9
       iterate 4 refine Stp ?_
       refine Ys rfl rfl rfl rfl F.elem32 jR jC yB rfl ?_;refine Xm rfl rfl rfl jE yC F.lay3 rfl rfl rfl ?_
       simp only [List.get_eq_getElem,ha]
       refine X_fo rfl rfl F.ok13 rfl (Node_okR M7 ga _ _ hA3 hRA7 a) jA (ZT rfl) ?_
       rintro _ MX hmX ⟨hMX,hv9⟩;subst MX
       obtain ⟨⟨⟨⟨Xd,XQ⟩,⟨XO,XZ⟩,⟨We,Wd,Wc⟩,⟨XH,XG,XF⟩⟩,UE,UA,TJ,UD,Sq,Tk,UF,Uz,Uc,UB,Ud,UC,⟨Ug,Uf,Ue⟩,TI,TH⟩,rfl,okx,ex⟩:=hv9.live hn9
       try simp only at ex
       subst ex
       have hself:(⟨Xd,XQ⟩:Zs)=K.peerN a:=g2
       have hsa:Xd=a:=congrArg Zs.addr hself
       iterate 3 refine Stp ?_
       refine Yz F.zero44 ?_;intro b19
       refine Wf F.lay44 ?_
       iterate 5 refine Stp ?_
       refine Yg (l:=[0,1,2,3,4,5,6,7,8,9,10,11,12,13,14,15,16,17,18,19,20,21,22,23,24,25]) #[0,1,3,7,15,31,63,127,255,511,1023,2047,255,255,12543,28927,65535,131071,262143,524287,1048575,2097151,524287,8388607,16777215,33554431] _ rfl jI jI St.drawn (fun _ h=>h) ?_
       iterate 3 refine Stp ?_
       refine Yt 96 rfl (eT fun hc20=>?_) (eF fun hc20=>?_)
       ·simp only [Zs.eta,ZO.eta,ZJ.eta,ZF.eta,Ym.eta,Yv.eta,Yy.eta,Yq.eta,ZN.eta,YF.eta,ZU.eta] at hc20
        (exfalso;simp [eqX] at hc20;done)
       ·simp only [Zs.eta,ZO.eta,ZJ.eta,ZF.eta,Ym.eta,Yv.eta,Yy.eta,Yq.eta,ZN.eta,YF.eta,ZU.eta] at hc20
        refine Zy F.lay44 ?_;refine X_fs rfl rfl F.ok18 rfl (IsN_ok M7 ⟨⟨⟨Xd,XQ⟩,⟨XO,XZ⟩,⟨We,Wd,Wc⟩,⟨XH,XG,XF⟩⟩,UE,UA,TJ,UD,Sq,Tk,UF,Uz,Uc,UB,Ud,UC,⟨Ug,Uf,Ue⟩,TI,TH⟩ okx) rfl ?_
        rintro _ hv
        rw [decide_eq_true g1] at hv
        subst hv
        iterate 3 refine Stp ?_
        refine Yt 101 rfl (fun hc21=>?_) (fun hc21=>?_)
        ·skip
         (exfalso;simp [eqX] at hc21;done)
        ·skip
         refine Zi F.foff44_0 ?_;refine Zi F.foff41_0 ?_;refine Zi F.foff38_0 ?_;refine Zy F.lay3 ?_
         iterate 2 refine Stp ?_
         refine Ys rfl rfl rfl rfl F.elem32 jR jC yB rfl ?_;refine Xm rfl rfl rfl jE yC F.lay3 rfl rfl rfl ?_
         simp only [List.get_eq_getElem,ha]
         iterate 3 refine Stp ?_
         refine Yt 112 rfl (eT fun hc22=>?_) (eF fun hc22=>?_)
         ·(exfalso;omega)
         ·refine Zi F.foff44_0 ?_
          refine Zi F.foff41_0 ?_;refine Zy F.lay38 ?_;refine Yk ?_;refine X_fn rfl rfl F.ok19 rfl (known_ok M7 ⟨Xd,XQ⟩ ⟨ad0,cp0,wl⟩ (k_w.mono (hm6.trans hm7)) (by show Yo Xd;rw [hsa];have:=congrArg Zs.addr g4;exact hwa a (by have h9:Xd=b9:=this;rw [← hsa,h9];exact g3)) (by show Xd∈wl;have h9:Xd=b9:=congrArg Zs.addr g4;rw [h9];exact g3) ((congrArg K.peerN hsa).trans hself.symm) (Mem.le.loose hz7 hM) (hP.mono hz7)) rfl ?_
          rintro _ M8 hm8 rfl
          iterate 4 refine Stp ?_
          refine ZW rfl (fun hc23=>?_) (fun hc23=>?_)
          ·skip
           (exfalso;simp [eqX] at hc23;done)
          ·skip
           iterate 4 refine Stp ?_
           refine Zi F.foff44_0 ?_;refine Zy F.lay41 ?_;refine X_fn rfl rfl F.ok20 rfl (Known_ok M8 ⟨⟨Xd,XQ⟩,⟨XO,XZ⟩,⟨We,Wd,Wc⟩,⟨XH,XG,XF⟩⟩ (okx.h0.mono hm8) (isTb_small (t:=⟨⟨Xd,XQ⟩,⟨XO,XZ⟩,⟨We,Wd,Wc⟩,⟨XH,XG,XF⟩⟩) g1.1)) rfl ?_
           rintro _ M9 hm9 ⟨⟨q_a,q_c,q_l⟩,rfl,eq9,k_q⟩
           try simp only at eq9
           have s_q:=k_q.h1
           try simp only at s_q
           have n_q:(q_l.map Zs.segs).length=q_l.length:=List.length_map ..
           have m_q:q_l.length≤9223372036854775807:=k_q.h2
           have hz9:=(hz7.trans hm8).trans hm9
           simp only [Sl.val]
           iterate 9 refine Stp ?_
           refine Y_pk [17,16,122,121,120,119,118,117,116,115,114,113,112,111,110,109,108,107,106,105,104,103,102,101,100,99,98,97,96,95,94,15,14,93,92,85,91,90,89,88,87,86,82,81,80,79,13,12,9,7,6] ?_;refine Wt (Hin:=[]) (.succ .zero) jA (fun (k:Nat) M10 h10 z=>z=[(17,.int .i64 (k:Int))]∧k≤q_l.length∧h10=[]) (fun k=>q_l.length-k) (0) (⟨rfl,by omega,rfl⟩) ?_
           rintro kq M10 h10 z hm10 ⟨rfl,hkq,rfl⟩
           have s_q10:=s_q.mono hm10
           have hz10:=hz9.trans hm10
           iterate 5 refine Stp ?_
           refine YA F.elem39 ?_
           iterate 3 refine Stp ?_
           refine ZW rfl (cT fun hc24=>?_) (cF fun hc24=>?_)
           ·iterate 5 refine Stp ?_
            obtain ⟨⟨YI,p_id⟩,hp⟩:∃ p,q_l[kq]'jC=p:=⟨_,rfl⟩
            obtain ⟨c9,c1,c2⟩:=g5 ⟨YI,p_id⟩ (by rw [← hp];exact eq9 ▸ List.getElem_mem _)
            have cA:YI=c9:=congrArg Zs.addr c2
            iterate 3 refine Stp ?_
            refine Ys rfl rfl rfl rfl F.elem39 jR jC yB rfl ?_;refine Xm rfl rfl rfl jE yC F.lay38 rfl rfl rfl ?_
            simp only [List.get_eq_getElem,hp]
            refine Yk ?_;refine X_fn rfl rfl F.ok19 rfl (known_ok M10 ⟨YI,p_id⟩ ⟨ad0,cp0,wl⟩ (k_w.mono ((((hm6.trans hm7).trans hm8).trans hm9).trans hm10)) (by show Yo YI;rw [cA];exact hwa c9 c1) (by show YI∈wl;rw [cA];exact c1) ((congrArg K.peerN cA).trans c2.symm) (Mem.le.loose hz10 hM) (hP.mono hz10)) rfl ?_
            rintro _ M11 hm11 rfl
            iterate 3 refine Stp ?_
            refine ZW rfl (fun hc25=>?_) (fun hc25=>?_)
            ·skip
             (exfalso;simp [eqX] at hc25;done)
            ·skip
             iterate 5 refine Stp ?_
             refine YO rfl rfl rfl rfl rfl yA rfl ?_
             iterate 2 refine Stp ?_
             refine Xa (a':=[(17,_)]) (kq+1) ([]) (.cons (k:=17) rfl (.cons (k:=16) rfl (.cons (k:=122) rfl (.cons (k:=121) rfl (.cons (k:=120) rfl (.cons (k:=119) rfl (.cons (k:=118) rfl (.cons (k:=117) rfl (.cons (k:=116) rfl (.cons (k:=115) rfl (.cons (k:=114) rfl (.cons (k:=113) rfl (.cons (k:=112) rfl (.cons (k:=111) rfl (.cons (k:=110) rfl (.cons (k:=109) rfl (.cons (k:=108) rfl (.cons (k:=107) rfl (.cons (k:=106) rfl (.cons (k:=105) rfl (.cons (k:=104) rfl (.cons (k:=103) rfl (.cons (k:=102) rfl (.cons (k:=101) rfl (.cons (k:=100) rfl (.cons (k:=99) rfl (.cons (k:=98) rfl (.cons (k:=97) rfl (.cons (k:=96) rfl (.cons (k:=95) rfl (.cons (k:=94) rfl (.cons (k:=15) rfl (.cons (k:=14) rfl (.cons (k:=93) rfl (.cons (k:=92) rfl (.cons (k:=85) rfl (.cons (k:=91) rfl (.cons (k:=90) rfl (.cons (k:=89) rfl (.cons (k:=88) rfl (.cons (k:=87) rfl (.cons (k:=86) rfl (.cons (k:=82) rfl (.cons (k:=81) rfl (.cons (k:=80) rfl (.cons (k:=79) rfl (.cons (k:=13) rfl (.cons (k:=12) rfl (.cons (k:=9) rfl (.cons (k:=7) rfl (.cons (k:=6) rfl (.nil)))))))))))))))))))))))))))))))))))))))))))))))))))) (hm10.trans hm11) (fun w hw=>by first|exact hw|exact hw.c) ?_ ?_
             ·exact ⟨rfl,by omega,rfl⟩
             ·omega
           ·iterate 8 refine Stp ?_
            refine YO rfl rfl rfl rfl rfl yA rfl ?_
            iterate 2 refine Stp ?_
            refine Xa (a':=[(13,_)]) (k9+1) ([]) (.cons (k:=13) rfl (.cons (k:=12) rfl (.cons (k:=9) rfl (.cons (k:=7) rfl (.cons (k:=6) rfl (.nil)))))) (((hm7.trans hm8).trans hm9).trans hm10) (fun w hw=>by first|exact hw|exact hw.c) ?_ ?_
            ·exact ⟨rfl,by omega,rfl⟩
            ·omega
      ·iterate 7 refine Stp ?_
       refine X_fn rfl rfl F.ok9 rfl (ringed_ok M7 (Mem.le.loose hz7 hM) (hP.mono hz7)) rfl ?_
       rintro _ M12 hm12 rfl
       iterate 4 refine Stp ?_
       refine ZV (.inr rfl) (.tmp rfl .nil) (fun w hw=>?_)
       exact ⟨_,_,rfl,hz7.trans hm12,hw.c,rfl⟩
theorem lawStays_ok (M:Mem) (r:Int) (most:Int) (script:(Sl Yy)) (hscript0:SlK M Yy.segs 3 script) (hM:M.dr=0) (hP:PowM M):Esp.Fn Tryz.prog 4 [.int .i64 r,.int .i64 most,Sl.val script] M (fun _ v=>v=.bool true):=by
  by_cases h40:script.l.length≤40
  ·by_cases h:(1≤r∧r≤8)∧(1≤most∧most≤1000)
   ·exact lawStays_yes M r most script hscript0 hM hP h h40
   ·exact lawStays_no M r most script hscript0 hM hP h
  ·exact lawStays_far M r most script hscript0 jC
end Go.Proofs.YtglnjnacodgmaaaGreatDoor
