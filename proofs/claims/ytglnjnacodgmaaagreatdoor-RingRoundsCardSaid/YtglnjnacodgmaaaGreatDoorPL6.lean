/-
  Texts of this claim, one behind the other: R7, R8, R9, R10, RingX, U1, U2, U3.
-/
import Derived.Test.YtglnjnacodgmaaaGreatDoorPL5
import Derived.KernelRfl
set_option linter.unusedSimpArgs false
set_option linter.unusedVariables false
set_option linter.unnecessarySimpa false
set_option maxRecDepth 8000
set_option maxHeartbeats 1000000
namespace Go.Proofs.YtglnjnacodgmaaaGreatDoor
open Go.Esp
theorem F.foff31_2:foff Tryz.prog 31 2=some 2:=by kernel_rfl
theorem F.lay31:lay Tryz.prog 31=some (true,3):=by kernel_rfl
theorem F.ok28:okFn Tryz.prog 28=true:=by kernel_rfl
theorem F.ok29:okFn Tryz.prog 29=true:=by kernel_rfl
theorem F.ok30:okFn Tryz.prog 30=true:=by kernel_rfl
theorem F.ok34:okFn Tryz.prog 34=true:=by kernel_rfl
theorem F.ok35:okFn Tryz.prog 35=true:=by kernel_rfl
theorem Do_okR (M:Mem) (gb:Nat) (N:Int) (r:Rg) (Hb:Hp) (hR:YT gb N r M Hb) (t:Yx) (hM:M.dr=0) (hP:PowM M) (hN:N+1000000≤1000000000000000):Fh Tryz.prog 10 [.pointer (some ⟨gb,0,none⟩),t.enc] M Hb (fun M' v Hb'=>v=.int .i64 (doR K.peerN r ⟨t.kind,t.a,t.b⟩).2∧YT gb (N+1000000) (doR K.peerN r ⟨t.kind,t.a,t.b⟩).1 M' Hb'):=by
  obtain ⟨WM,t_a,t_b⟩:=t
  refine YR (fun H=>Hb++H) (fun _=>rfl) Tryz.func10 rfl Tryz.ntmps10 rfl ?_;intro H
  iterate 2 refine Stp ?_
  refine Xp ?_;intro b1
  iterate 7 refine Stp ?_
  refine UG Tryz.underlying24 ?_
  iterate 2 refine Stp ?_
  refine ZW rfl (fun hc2=>?_) (fun hc2=>?_)
  ·skip
   (exfalso;simp [eqX] at hc2;done)
  ·skip
   iterate 5 refine Stp ?_
   refine Zi F.foff31_0 ?_;refine Zy F.lay3 ?_
   iterate 9 refine Stp ?_
   refine ZW rfl (cT fun hc3=>?_) (cF fun hc3=>?_)
   ·refine VB ?_
    refine Xy (l:=[0,1,2,3,4]) (Hin:=Hb) jA rfl ?_;refine Yh ?_;refine Zi F.foff31_1 ?_;refine Zy F.lay3 ?_;refine XX rfl rfl F.ok28 rfl (begin_okR M gb N r Hb hR t_a hM hP) jA (fun _ _ _ hm hw=>(hw.lower jT).c) (ZQ rfl) ?_
    rintro _ M9 hb9 hm9 ⟨rfl,hR9⟩
    iterate 6 refine Stp ?_
    refine ZV (.inr rfl) (.tmp rfl .nil) (fun w hw=>?_)
    have e9:doR K.peerN r ⟨WM,t_a,t_b⟩=_:=do1 (t:=(⟨WM,t_a,t_b⟩:Trn)) jE
    exact ⟨_,M9,hb9,rfl,hm9,hw.c,by rw [e9];rfl,by rw [e9];exact hR9.mono jC (Mem.le.refl _)⟩
   ·iterate 6 refine Stp ?_
    refine ZW rfl (cT fun hc4=>?_) (cF fun hc4=>?_)
    ·refine VB ?_
     refine Xy (l:=[0,1,2,3,4,5,6]) (Hin:=Hb) jA rfl ?_;refine Yh ?_;refine Zi F.foff31_1 ?_;refine Zy F.lay3 ?_;refine Zi F.foff31_2 ?_;refine Zy F.lay3 ?_;refine XX rfl rfl F.ok29 rfl (join_okR M gb N r Hb hR t_a t_b hM hP) jA (fun _ _ _ hm hw=>(hw.lower jT).c) (ZQ rfl) ?_
     rintro _ M9 hb9 hm9 ⟨rfl,hR9⟩
     iterate 6 refine Stp ?_
     refine ZV (.inr rfl) (.tmp rfl .nil) (fun w hw=>?_)
     have e9:doR K.peerN r ⟨WM,t_a,t_b⟩=_:=do2 (t:=(⟨WM,t_a,t_b⟩:Trn)) jE
     exact ⟨_,M9,hb9,rfl,hm9,hw.c,by rw [e9];rfl,by rw [e9];exact hR9.mono jC (Mem.le.refl _)⟩
    ·iterate 7 refine Stp ?_
     refine C_part 25 rfl (cT fun hc5=>?_) (cF fun hc5=>?_)
     ·iterate 5 refine Stp ?_
      refine Xy (l:=[0,1,2,3]) (Hin:=Hb) jA rfl ?_;refine Yh ?_;refine Zy F.lay31 ?_;refine XX rfl rfl F.ok30 rfl (goes_okR M gb N r Hb hR ⟨WM,t_a,t_b⟩ jC) jA (fun _ _ _ hm hw=>(hw.lower jT).c) (ZQ rfl) ?_
      rintro _ M9 hb9 hm9 ⟨rfl,hR9⟩
      iterate 6 refine Stp ?_
      refine ZV (.inr rfl) (.tmp rfl .nil) (fun w hw=>?_)
      have e9:doR K.peerN r ⟨WM,t_a,t_b⟩=_:=do34 (t:=(⟨WM,t_a,t_b⟩:Trn)) (by show WM=3∨WM=4;omega)
      exact ⟨_,M9,hb9,rfl,hm9,hw.c,by rw [e9];rfl,by rw [e9];exact hR9.mono jC (Mem.le.refl _)⟩
     ·iterate 6 refine Stp ?_
      refine ZW rfl (cT fun hc6=>?_) (cF fun hc6=>?_)
      ·refine VB ?_
       refine Xy (l:=[0,1,2,3]) (Hin:=Hb) jA rfl ?_;refine Yh ?_;refine Zy F.lay31 ?_;refine XX rfl rfl F.ok30 rfl (goes_okR M gb N r Hb hR ⟨WM,t_a,t_b⟩ jC) jA (fun _ _ _ hm hw=>(hw.lower jT).c) (ZQ rfl) ?_
       rintro _ M9 hb9 hm9 ⟨rfl,hR9⟩
       iterate 6 refine Stp ?_
       refine ZV (.inr rfl) (.tmp rfl .nil) (fun w hw=>?_)
       have e9:doR K.peerN r ⟨WM,t_a,t_b⟩=_:=do34 (t:=(⟨WM,t_a,t_b⟩:Trn)) (by show WM=3∨WM=4;omega)
       exact ⟨_,M9,hb9,rfl,hm9,hw.c,by rw [e9];rfl,by rw [e9];exact hR9.mono jC (Mem.le.refl _)⟩
      ·iterate 6 refine Stp ?_
       refine ZW rfl (cT fun hc7=>?_) (cF fun hc7=>?_)
       ·refine VB ?_
        refine Xy (l:=[0,1,2,3,4,5,6]) (Hin:=Hb) jA rfl ?_;refine Yh ?_;refine Zi F.foff31_1 ?_;refine Zy F.lay3 ?_;refine Zi F.foff31_2 ?_;refine Zy F.lay3 ?_;refine XX rfl rfl F.ok31 rfl (tick_okR M gb N r Hb hR t_a t_b jC) jA (fun _ _ _ hm hw=>(hw.lower jT).c) (ZQ rfl) ?_
        rintro _ M9 hb9 hm9 ⟨rfl,hR9⟩
        iterate 6 refine Stp ?_
        refine ZV (.inr rfl) (.tmp rfl .nil) (fun w hw=>?_)
        have e9:doR K.peerN r ⟨WM,t_a,t_b⟩=_:=do5 (t:=(⟨WM,t_a,t_b⟩:Trn)) jE
        exact ⟨_,M9,hb9,rfl,hm9,hw.c,by rw [e9];rfl,by rw [e9];exact hR9.mono jC (Mem.le.refl _)⟩
       ·iterate 6 refine Stp ?_
        refine ZW rfl (cT fun hc8=>?_) (cF fun hc8=>?_)
        ·refine VB ?_
         refine Xy (l:=[0,1,2,3,4]) (Hin:=Hb) jA rfl ?_;refine Yh ?_;refine Zi F.foff31_1 ?_;refine Zy F.lay3 ?_;refine XX rfl rfl F.ok32 rfl (deliver_okR M gb N r Hb hR t_a jC) jA (fun _ _ _ hm hw=>(hw.lower jT).c) (ZQ rfl) ?_
         rintro _ M9 hb9 hm9 ⟨rfl,hR9⟩
         iterate 6 refine Stp ?_
         refine ZV (.inr rfl) (.tmp rfl .nil) (fun w hw=>?_)
         have e9:doR K.peerN r ⟨WM,t_a,t_b⟩=_:=do6 (t:=(⟨WM,t_a,t_b⟩:Trn)) jE
         exact ⟨_,M9,hb9,rfl,hm9,hw.c,by rw [e9];rfl,by rw [e9];exact hR9.mono jC (Mem.le.refl _)⟩
        ·iterate 6 refine Stp ?_
         refine ZW rfl (cT fun hc9=>?_) (cF fun hc9=>?_)
         ·refine VB ?_
          obtain ⟨mb,bb,o,jl,hb,rfl,hbag,hom,hri⟩:=hR
          simp only [List.cons_append]
          refine C_region_anyR (l:=[0,1,2,3,4,5,6,7,8,9,10,11,12]) (Hin:=hb) #[0,1,3,7,0,16,63,127,255,255,0,1535,4095] jA rfl jI jI ?_
          iterate 2 refine Stp ?_
          refine Zi F.foff78_2 ?_;refine Zy F.lay73 ?_;refine Zi F.foff31_1 ?_;refine Zy F.lay3 ?_;refine XX rfl rfl F.ok33 rfl (B.Take_ok M bb r.most N (r.bag.map WF) hb t_a hbag) jA (fun _ _ _ hm hw=>(hw.lower jT).c) (ZQ rfl) ?_
          rintro _ M1 hb1 hm1 ⟨hM1,rfl,hbag1⟩;subst M1
          obtain ⟨⟨m_frm,m_to,m_body⟩,hm9⟩:∃ m,atM t_a (r.bag.map WF)=m:=⟨_,rfl⟩
          rw [hm9]
          iterate 3 refine Stp ?_
          refine YA F.zero82 ?_;intro b10
          refine Ya F.lay82 ?_
          iterate 12 refine Stp ?_
          refine ZV (.inr rfl) (.tmp rfl .nil) (fun w hw=>?_)
          have e9:doR K.peerN r ⟨WM,t_a,t_b⟩=_:=do7 (t:=(⟨WM,t_a,t_b⟩:Trn)) jE
          have g9:=drop_is r t_a
          exact ⟨_,M,((gb,rowO [.one (.int .i64 r.copies),.one (.map (some mb)),.one (.pointer (some ⟨bb,0,none⟩))] 78)::(mb,o)::hb1),rfl,Mem.le.refl M,hw.c,by rw [e9];exact congrArg (Value.int .i64) g9.1,by rw [e9];exact YT.rebag (by rw [← g9.2.1];exact hbag1.mono jC) hom hri g9.2.2.1 g9.2.2.2⟩
         ·iterate 6 refine Stp ?_
          refine ZW rfl (cT fun hc11=>?_) (cF fun hc11=>?_)
          ·refine VB ?_
           obtain ⟨mb,bb,o,jl,hb,rfl,hbag,hom,hri⟩:=hR
           simp only [List.cons_append]
           refine C_region_anyR (l:=[0,1,2,3,4,5,6,7]) (Hin:=hb) #[0,1,3,7,0,16,63,127] jA rfl jI jI ?_
           iterate 2 refine Stp ?_
           refine Zi F.foff78_2 ?_;refine Zy F.lay73 ?_;refine Zi F.foff31_1 ?_;refine Zy F.lay3 ?_;refine XX rfl rfl F.ok34 rfl (B.Twice_ok M bb r.most N (r.bag.map WF) hb t_a jC hbag) jA (fun _ _ _ hm hw=>(hw.lower jT).c) (ZQ rfl) ?_
           rintro _ M1 hb1 hm1 ⟨hM1,rfl,hbag1⟩;subst M1
           iterate 6 refine Stp ?_
           refine ZV (.inr rfl) (.tmp rfl .nil) (fun w hw=>?_)
           have e9:doR K.peerN r ⟨WM,t_a,t_b⟩=_:=do8 (t:=(⟨WM,t_a,t_b⟩:Trn)) jE
           have g9:=twice_is t_a hri.mail
           exact ⟨_,M,((gb,rowO [.one (.int .i64 r.copies),.one (.map (some mb)),.one (.pointer (some ⟨bb,0,none⟩))] 78)::(mb,o)::hb1),rfl,Mem.le.refl M,hw.c,by rw [e9];exact congrArg (Value.int .i64) g9.1,by rw [e9];exact YT.rebag (by rw [← g9.2.1];exact hbag1.mono jC) hom hri g9.2.2.1 g9.2.2.2⟩
          ·iterate 6 refine Stp ?_
           refine ZW rfl (cT fun hc12=>?_) (cF fun hc12=>?_)
           ·refine VB ?_
            refine Xy (l:=[0,1]) (Hin:=Hb) jA rfl ?_;refine Yh ?_;refine XX rfl rfl F.ok35 rfl (round_okR M gb N r Hb hR hN) jA (fun _ _ _ hm hw=>(hw.lower jT).c) (ZQ rfl) ?_
            rintro _ M9 hb9 hm9 ⟨rfl,hR9⟩
            iterate 10 refine Stp ?_
            refine ZV (.inr rfl) (.tmp rfl .nil) (fun w hw=>?_)
            have e9:doR K.peerN r ⟨WM,t_a,t_b⟩=_:=do9 (t:=(⟨WM,t_a,t_b⟩:Trn)) jE
            exact ⟨_,M9,hb9,rfl,hm9,hw.c,by rw [e9];rfl,by rw [e9];exact hR9.mono jC (Mem.le.refl _)⟩
           ·iterate 9 refine Stp ?_
            refine ZV (.inr rfl) (.tmp rfl .nil) (fun w hw=>?_)
            have e9:doR K.peerN r ⟨WM,t_a,t_b⟩=_:=do0 (t:=(⟨WM,t_a,t_b⟩:Trn)) (by show ¬(1≤WM∧WM≤9);omega)
            exact ⟨_,M,Hb,rfl,Mem.le.refl M,hw.c,by rw [e9];rfl,by rw [e9];exact hR.mono jC (Mem.le.refl _)⟩
theorem F.elem49:slOf Tryz.prog 49=some (82,3,32):=by kernel_rfl
theorem F.ok38:okFn Tryz.prog 38=true:=by kernel_rfl
theorem F.ok39:okFn Tryz.prog 39=true:=by kernel_rfl
theorem Node_okR (M:Mem) (gb:Nat) (N:Int) (r:Rg) (Hb:Hp) (hR:YT gb N r M Hb) (a:Int):Fo Tryz.prog 13 [.pointer (some ⟨gb,0,none⟩),.int .i64 a] M Hb (fun M' v=>M'=M∧NodeR M r a v):=by
  obtain ⟨mb,bb,o,jl,hb,rfl,hbag,hom,hri⟩:=hR
  refine fo_enterF (fun H=>(gb,rowO [.one (.int .i64 r.copies),.one (.map (some mb)),.one (.pointer (some ⟨bb,0,none⟩))] 78)::(mb,o)::(hb++H)) (fun _=>by simp only [List.append_assoc,List.cons_append,List.nil_append]) Tryz.func13 rfl Tryz.ntmps13 rfl ?_;intro H
  iterate 2 refine Stp ?_
  refine YA F.zero44 ?_;intro b1
  iterate 7 refine Stp ?_
  refine UG Tryz.underlying24 ?_
  iterate 2 refine Stp ?_
  refine ZW rfl (fun hc2=>?_) (fun hc2=>?_)
  ·skip
   (exfalso;simp [eqX] at hc2;done)
  ·skip
   iterate 6 refine Stp ?_
   refine Zi F.foff78_1 ?_;refine Zy F.lay76 ?_;refine Yh ?_;refine X_lookup2J (en:=ZJ.enc) (z:=ZJ.zero) rfl rfl rfl rfl ⟨Tryz.underlying3⟩ Tryz.underlying76 (show _=some (ZJ.enc ZJ.zero) from F.zero44) jB hom rfl ?_
   obtain ⟨⟨⟨⟨XT,Wl⟩,⟨XU,Wm⟩,⟨Wq,Wp,Wo⟩,⟨XK,XJ,XI⟩⟩,Ul,Uh,To,Uk,TR,UN,Um,Ug,VK,Ui,VL,Uj,⟨VO,VN,VM⟩,Tn,Tm⟩,hx9⟩:∃ x:ZJ,(Wb jl (a)).getD ZJ.zero=x:=⟨_,rfl⟩
   rw [hx9]
   iterate 3 refine Stp ?_
   refine YA F.zero44 ?_;intro b3
   refine XW F.lay44 ?_
   iterate 10 refine Stp ?_
   refine ZW rfl (fun hc4=>?_) (fun hc4=>?_)
   ·skip
    iterate 2 refine Stp ?_
    refine Xl rfl rfl F.bld44 (.nil) rfl rfl ?_;refine XW F.lay44 ?_
    iterate 5 refine Stp ?_
    refine ZV (.inr rfl) (.cell rfl jB F.lay44 rfl rfl (.tmp rfl .nil)) (fun w hw=>?_)
    exact ⟨_,M,rfl,Mem.le.refl M,hw.c,rfl,ZJ.zero,7,rfl,ZJ.zero_ok M,.inr ⟨hri.none (by exact isS_no jE),rfl⟩⟩
   ·skip
    iterate 4 refine Stp ?_
    refine Zy F.lay44 ?_;refine XW F.lay44 ?_
    iterate 4 refine Stp ?_
    refine ZV (.inr rfl) (.cell rfl jB F.lay44 rfl rfl (.tmp rfl .nil)) (fun w hw=>?_)
    have hsm:=hri.some hx9 (by exact isS_yes jE)
    exact ⟨_,M,rfl,Mem.le.refl M,hw.c,rfl,⟨⟨⟨XT,Wl⟩,⟨XU,Wm⟩,⟨Wq,Wp,Wo⟩,⟨XK,XJ,XI⟩⟩,Ul,Uh,To,Uk,TR,UN,Um,Ug,VK,Ui,VL,Uj,⟨VO,VN,VM⟩,Tn,Tm⟩,0,rfl,hsm.2,.inl ⟨_,hsm.1,rfl,rfl⟩⟩
theorem Mails_okR (M:Mem) (gb:Nat) (N:Int) (r:Rg) (Hb:Hp) (hR:YT gb N r M Hb):Fo Tryz.prog 16 [.pointer (some ⟨gb,0,none⟩)] M Hb (fun M' v=>∃ s:Sl Yo,v=s.val∧s.l=(r.bag.map WF)∧SlK M' Yo.segs 3 s):=by
  obtain ⟨mb,bb,o,jl,hb,rfl,hbag,hom,hri⟩:=hR
  have hbl:=hbag.le
  refine fo_enterF (fun H=>(gb,rowO [.one (.int .i64 r.copies),.one (.map (some mb)),.one (.pointer (some ⟨bb,0,none⟩))] 78)::(mb,o)::(hb++H)) (fun _=>by simp only [List.append_assoc,List.cons_append,List.nil_append]) Tryz.func16 rfl Tryz.ntmps16 rfl ?_;intro H
  iterate 9 refine Stp ?_
  refine UG Tryz.underlying24 ?_
  iterate 2 refine Stp ?_
  refine ZW rfl (fun hc1=>?_) (fun hc1=>?_)
  ·skip
   (exfalso;simp [eqX] at hc1;done)
  ·skip
   iterate 12 refine Stp ?_
   refine Zi F.foff78_2 ?_;refine Zy F.lay73 ?_;refine X_fo rfl rfl F.ok38 rfl (B.Size_ok M bb r.most N (r.bag.map WF) hb hbag) jA (ZQ rfl) ?_
   rintro _ M1 hm1 ⟨hM1,rfl⟩;subst M1
   iterate 4 refine Stp ?_
   refine Y_pk [14,3,13,2,0] ?_;refine Wj (Hin:=[]) (.succ (.succ .zero)) jA (fun (k:Nat) M1 h1 z=>∃ v,M1=M∧z=[(14,.int .i64 (k:Int)),(3,v)]∧k≤(r.bag.map WF).length∧OSl 82 3 v h1 (((r.bag.map WF).take k).map Yo.segs)) (fun k=>(r.bag.map WF).length-k) (0) (⟨_,rfl,rfl,by omega,OSl.nil⟩) ?_
   rintro k M1 h1 z hm1 ⟨v0,hM1,rfl,hk,ho⟩
   obtain rfl:=hM1.symm
   obtain ⟨ad0,cp0,rfl⟩:=ho.valL
   have hlk:((r.bag.map WF).take k).length=k:=by rw [List.length_take];omega
   have hml:(((r.bag.map WF).take k).map Yo.segs).length=k:=by rw [List.length_map];exact hlk
   iterate 6 refine Stp ?_
   refine ZW rfl (cT fun hc2=>?_) (cF fun hc2=>?_)
   ·iterate 11 refine Stp ?_
    obtain ⟨⟨m_frm,m_to,m_body⟩,hm9⟩:∃ m,(r.bag.map WF)[k]'jC=m:=⟨_,rfl⟩
    have hat:=at_okN k (r.bag.map WF) jC
    rw [hm9] at hat
    iterate 3 refine Stp ?_
    refine Zi F.foff78_2 ?_;refine Zy F.lay73 ?_;refine Yh ?_;refine X_fo rfl rfl F.ok39 rfl (B.At_ok M bb r.most N (r.bag.map WF) hb (k:Int) hbag) jA (ZQ rfl) ?_
    rintro v9 M2 hm2 ⟨hM2,hv9⟩;subst M2
    rw [hat.1,hat.2] at hv9
    subst hv9
    iterate 3 refine Stp ?_
    refine YA F.zero82 ?_;intro b3
    refine Ya F.lay82 ?_
    iterate 5 refine Stp ?_
    refine Zy F.lay82 ?_
    refine YY rfl rfl F.elem49 F.zero82 rfl rfl (.cons rfl jG .nil) rfl rfl jL rfl ?_;intro b4 hob5
    refine WY (m:=1000000) rfl rfl rfl rfl rfl F.elem49 F.zero82 jS rfl jE jA (Src.own hob5.lens jO rfl jB) jN jJ rfl ?_;intro v8 hs7 ho6;obtain ⟨adv8,cpv8,rfl⟩:=ho6.val
    iterate 5 refine Stp ?_
    refine YO rfl rfl rfl rfl rfl yB rfl ?_
    iterate 2 refine Stp ?_
    refine Xi (a':=[(14,_),(3,_)]) (k+1) (hs7) (.cons (k:=14) rfl (.cons (k:=3) rfl (.cons (k:=13) rfl (.cons (k:=2) rfl (.cons (k:=0) rfl (.nil)))))) jP (fun w hw=>by first|exact hw|exact hw.c) ?_ ?_
    ·refine ⟨_,rfl,rfl,by omega,?_⟩
     rw [List.take_add_one,List.getElem?_eq_getElem (show k<(r.bag.map WF).length by omega),Option.toList_some,List.map_append,hm9]
     exact ho6
    ·omega
   ·iterate 12 refine Stp ?_
    refine ZV (.inr rfl) (.tmp rfl .nil) (fun w hw=>?_)
    obtain rfl:k=(r.bag.map WF).length:=by omega
    have hw9:St M (h1++(((gb,rowO [.one (.int .i64 r.copies),.one (.map (some mb)),.one (.pointer (some ⟨bb,0,none⟩))] 78)::(mb,o)::hb)++H)) w:=hw.c
    obtain ⟨M9,g1,g2,g3⟩:=ho.frz hw9
    exact ⟨_,M9,rfl,g1,g2,⟨ad0,cp0,_⟩,rfl,List.take_length,g3⟩
theorem F.ok49:okFn Tryz.prog 49=true:=by kernel_rfl
theorem F.ok50:okFn Tryz.prog 50=true:=by kernel_rfl
theorem EqP_ok (M:Mem) (a:(Sl Zu)) (b:(Sl Zu)) (ha0:SlK M Zu.segs 21 a) (hb1:SlK M Zu.segs 21 b):Fs Tryz.prog 50 [Sl.val a,Sl.val b] M (fun v=>v=Value.bool (decide (a.l=b.l))):=by
  obtain ⟨a_a,a_c,a_l⟩:=a
  obtain ⟨b_a,b_c,b_l⟩:=b
  have k_a:SlK M Zu.segs 21 ⟨a_a,a_c,a_l⟩:=ha0
  have s_a:SlM M a_a (a_l.map Zu.segs) 21:=k_a.h1
  have n_a:(a_l.map Zu.segs).length=a_l.length:=List.length_map ..
  have m_a:a_l.length≤9223372036854775807:=k_a.h2
  have c_a:a_l.length≤a_c:=k_a.h3
  have k_b:SlK M Zu.segs 21 ⟨b_a,b_c,b_l⟩:=hb1
  have s_b:SlM M b_a (b_l.map Zu.segs) 21:=k_b.h1
  have n_b:(b_l.map Zu.segs).length=b_l.length:=List.length_map ..
  have m_b:b_l.length≤9223372036854775807:=k_b.h2
  have c_b:b_l.length≤b_c:=k_b.h3
  refine Xf Tryz.func50 rfl Tryz.ntmps50 rfl ?_;intro H
  iterate 9 refine Stp ?_
  refine Yy F.elem39 ?_;refine Yh ?_;refine Yy F.elem39 ?_
  iterate 3 refine Stp ?_
  refine ZW rfl (eT fun hc1=>?_) (eF fun hc1=>?_)
  ·iterate 7 refine Stp ?_
   refine ZV (.inr rfl) (.tmp rfl .nil) (fun w hw=>?_)
   refine ⟨_,rfl,(hw.c),?_⟩
   clear hw
   refine congrArg Value.bool ?_
   exact (decide_eq_false (fun h9=>by subst h9;simp_all)).symm
  ·iterate 6 refine Stp ?_
   refine Yy F.elem39 ?_
   iterate 4 refine Stp ?_
   refine Y_pk [13,12,4,0,1] ?_;refine Vp (.succ .zero) (fun (k:Nat) z=>z=[(13,.int .i64 (k:Int))]∧k≤a_l.length∧(∀ j (h2:j<a_l.length) (h3:j<b_l.length),j<k→a_l[j]=b_l[j])) (fun k=>a_l.length-k) (0) (⟨rfl,by omega,by (intro j h2 h3 hj;omega)⟩) ?_
   rintro k _ ⟨rfl,hk,hI⟩
   iterate 6 refine Stp ?_
   refine ZW rfl (cT fun hc2=>?_) (cF fun hc2=>?_)
   ·iterate 11 refine Stp ?_
    refine Yg (l:=[0,1,2,3,4,5,6,7,8]) #[0,0,3,7,0,0,48,112,255] _ rfl jI jI St.drawn (fun _ h=>h) ?_
    iterate 2 refine Stp ?_
    refine Ys rfl rfl rfl rfl F.elem39 jS jC yC rfl ?_;refine Xj rfl rfl rfl jE yD F.lay38 rfl rfl rfl ?_
    iterate 2 refine Stp ?_
    refine Ys rfl rfl rfl rfl F.elem39 jS jC yC rfl ?_;refine Xj rfl rfl rfl jE yD F.lay38 rfl rfl rfl ?_
    refine Ve (m:=20) rfl rfl rfl rfl rfl jG jG F.lay38 F.kinds38 rfl F.guard38 (by exact Xw _) (by exact Xw _) rfl rfl rfl ?_;intro c3 he4
    replace he4:c3=true↔¬(Segs.cells _=Segs.cells _):=he4
    obtain rfl:=neD he4 (Zu.inj (x:=⟨_,_⟩) (y:=⟨_,_⟩));clear he4
    iterate 2 refine Stp ?_
    refine ZW rfl (eT fun hc5=>?_) (eF fun hc5=>?_)
    ·simp only [Zu.eta,ZM.eta,ZJ.eta,ZE.eta,Ym.eta,Yo.eta,Yx.eta,Yp.eta,ZN.eta,YC.eta,ZU.eta] at hc5
     simp only [List.get_eq_getElem] at hc5
     iterate 11 refine Stp ?_
     refine ZV (.inr rfl) (.tmp rfl .nil) (fun w hw=>?_)
     refine ⟨_,rfl,(hw.c),?_⟩
     clear hw
     refine congrArg Value.bool ?_
     exact (decide_eq_false (fun h9=>by subst h9;simp_all)).symm
    ·simp only [Zu.eta,ZM.eta,ZJ.eta,ZE.eta,Ym.eta,Yo.eta,Yx.eta,Yp.eta,ZN.eta,YC.eta,ZU.eta] at hc5
     simp only [List.get_eq_getElem] at hc5
     iterate 4 refine Stp ?_
     refine YO rfl rfl rfl rfl rfl yB rfl ?_
     iterate 2 refine Stp ?_
     refine WZ (a':=[(13,_)]) (k+1) (.cons (k:=13) rfl (.cons (k:=12) rfl (.cons (k:=4) rfl (.cons (k:=0) rfl (.cons (k:=1) rfl (.nil)))))) (fun w hw=>by first|exact hw|exact hw.c) ?_ ?_
     ·refine ⟨rfl,by omega,?_⟩
      (intro j h2 h3 hj;rcases Nat.lt_or_ge j k with h9|h9;exact hI j h2 h3 h9;obtain rfl:j=k:=jC;simp_all)
     ·omega
   ·iterate 11 refine Stp ?_
    refine ZV (.inr rfl) (.tmp rfl .nil) (fun w hw=>?_)
    refine ⟨_,rfl,(hw.c),?_⟩
    clear hw
    refine congrArg Value.bool ?_
    exact (decide_eq_true (List.ext_getElem jC (fun j h2 h3=>hI j h2 h3 jC))).symm
theorem Ideal_okR (M:Mem) (gb:Nat) (N:Int) (r:Rg) (Hb:Hp) (hR:YT gb N r M Hb) (hM:M.dr=0) (hP:PowM M):Fo Tryz.prog 23 [.pointer (some ⟨gb,0,none⟩)] M Hb (fun M' v=>v=.bool (VY K.peerN r)):=by
  obtain ⟨mb,bb,o,jl,hb,rfl,hbag,hom,hri⟩:=hR
  refine fo_enterF (fun H=>(gb,rowO [.one (.int .i64 r.copies),.one (.map (some mb)),.one (.pointer (some ⟨bb,0,none⟩))] 78)::(mb,o)::(hb++H)) (fun _=>by simp only [List.append_assoc,List.cons_append,List.nil_append]) Tryz.func23 rfl Tryz.ntmps23 rfl ?_;intro H
  iterate 8 refine Stp ?_
  refine X_fo rfl rfl F.ok11 rfl (Live_ok M gb N r _ (YT.intro (mb:=mb) hbag hom hri)) jA (ZQ rfl) ?_
  rintro _ M1 hm1 ⟨⟨l_a,l_c,l_l⟩,rfl,el,k_l⟩
  try simp only at el
  subst el
  simp only [Sl.val]
  refine X_fn rfl rfl F.ok24 rfl (K.Of_ok M1 ⟨l_a,l_c,Ws r⟩ k_l (hm1.loose hM) (digs_all (hP.mono hm1) _)) rfl ?_
  rintro _ M2 hm2 hv
  obtain ⟨⟨c_a,c_c,c_l⟩,e2,rfl,k_c,hcc⟩:=of_live hv
  try simp only at hcc k_c
  simp only [Sl.val]
  iterate 14 refine Stp ?_
  refine ZW rfl (eT fun hc1=>?_) (eF fun hc1=>?_)
  ·iterate 7 refine Stp ?_
   refine ZV (.inr rfl) (.tmp rfl .nil) (fun w hw=>?_)
   have hno:=(hcc.resolve_left (fun h9=>(by assumption:¬e2=0) h9.1)).2
   exact ⟨_,M2,rfl,hm1.trans hm2,hw.c,by rw [ideal_none hno];rfl⟩
  ·iterate 3 refine Stp ?_
   obtain ⟨-,hcir,hcl⟩:=hcc.resolve_right (fun h9=>h9.1 jE)
   rw [← hcl] at hcir
   have hset:settledT c_l r.copies=(setL c_l r.copies.toNat,0):=by
    have h9:=settledT_yes (r:=r.copies.toNat) hcir (by have:=hri.cop;omega) (by have:=hri.cop;omega)
    rwa [show ((r.copies.toNat:Nat):Int)=r.copies by have:=hri.cop;omega] at h9
   iterate 4 refine Stp ?_
   refine Zi F.foff78_0 ?_;refine Zy F.lay3 ?_;refine X_fn rfl rfl F.ok49 rfl (Settled_ok M2 ⟨c_a,c_c,c_l⟩ r.copies k_c) rfl ?_
   rintro _ M3 hm3 hv
   replace hv:TbsE M3 _ (settledT c_l r.copies):=hv
   rw [hset] at hv
   obtain ⟨_,rfl,⟨t_a,t_c,t_l⟩,rfl,et,k_t,o_t⟩:=hv
   try simp only at et k_t o_t
   have s_t:=k_t.h1
   try simp only at s_t
   have n_t:(t_l.map ZM.segs).length=t_l.length:=List.length_map ..
   have m_t:t_l.length≤9223372036854775807:=k_t.h2
   simp only [Sl.val]
   iterate 11 refine Stp ?_
   refine Yy F.elem66 ?_
   iterate 4 refine Stp ?_
   refine Y_pk [28,27,26,4,2,0] ?_;refine Vp (.succ .zero) (fun (k:Nat) z=>z=[(28,.int .i64 (k:Int))]∧k≤t_l.length∧∀ j (h2:j<t_l.length),j<k→idealAt r (ZM.tb t_l[j])=true) (fun k=>t_l.length-k) (0) (⟨rfl,by omega,by intro j h2 hj;omega⟩) ?_
   rintro k _ ⟨rfl,hk,hI⟩
   iterate 6 refine Stp ?_
   refine ZW rfl (cT fun hc2=>?_) (cF fun hc2=>?_)
   ·iterate 5 refine Stp ?_
    obtain ⟨⟨⟨u_table_self_addr,u_table_self_id⟩,⟨u_table_pred_addr,u_table_pred_id⟩,⟨u_table_succ_a,u_table_succ_c,u_table_succ_l⟩,⟨u_table_fingers_a,u_table_fingers_c,u_table_fingers_l⟩⟩,hq⟩:∃ t,t_l[k]'jC=t:=⟨_,rfl⟩
    have oku:=o_t _ (List.getElem_mem (show k<t_l.length by omega))
    rw [hq] at oku
    have hk9:(setL c_l r.copies.toNat)[k]?=some (ZM.tb ⟨⟨u_table_self_addr,u_table_self_id⟩,⟨u_table_pred_addr,u_table_pred_id⟩,⟨u_table_succ_a,u_table_succ_c,u_table_succ_l⟩,⟨u_table_fingers_a,u_table_fingers_c,u_table_fingers_l⟩⟩):=by rw [← et,List.getElem?_map,List.getElem?_eq_getElem (show k<t_l.length by omega),hq];rfl
    refine Stp ?_;refine Ys rfl rfl rfl rfl F.elem66 jS jC yC rfl ?_;refine Xj rfl rfl rfl jE yD F.lay41 rfl rfl rfl ?_
    simp only [List.get_eq_getElem,hq]
    refine YA F.zero41 ?_;intro b3
    refine Ya F.lay41 ?_
    iterate 3 refine Stp ?_
    refine Yg (l:=[0,1,2,3,4,5,6,7,8,9]) #[0,1,3,7,0,16,48,127,0,511] _ rfl jI jI St.drawn (fun _ h=>h) ?_
    iterate 2 refine Stp ?_
    refine Zi F.foff78_1 ?_;refine Zy F.lay76 ?_;refine Zi F.foff41_0 ?_;refine Zi F.foff38_0 ?_;refine Zy F.lay3 ?_;refine X_lookupJ (en:=ZJ.enc) (z:=ZJ.zero) rfl rfl rfl rfl ⟨Tryz.underlying3⟩ Tryz.underlying76 (show _=some (ZJ.enc ZJ.zero) from F.zero44) jB hom rfl ?_
    obtain ⟨⟨⟨⟨XT,Wl⟩,⟨XU,Wm⟩,⟨Wq,Wp,Wo⟩,⟨XK,XJ,XI⟩⟩,Ul,Uh,To,Uk,TR,UN,Um,Ug,VK,Ui,VL,Uj,⟨VO,VN,VM⟩,Tn,Tm⟩,hx9⟩:∃ x:ZJ,(Wb jl u_table_self_addr).getD ZJ.zero=x:=⟨_,rfl⟩
    have okx:=(hri.okD hx9).mono ((hm1.trans hm2).trans hm3)
    have hlk:=hri.like (t:=ZM.tb ⟨⟨u_table_self_addr,u_table_self_id⟩,⟨u_table_pred_addr,u_table_pred_id⟩,⟨u_table_succ_a,u_table_succ_c,u_table_succ_l⟩,⟨u_table_fingers_a,u_table_fingers_c,u_table_fingers_l⟩⟩) hx9 rfl
    rw [hx9]
    refine YA F.zero44 ?_;intro b4
    refine XW F.lay44 ?_
    iterate 4 refine Stp ?_
    refine Zi F.foff44_2 ?_;refine Zy F.lay4 ?_
    iterate 2 refine Stp ?_
    refine Yn 43 rfl (fun hc5=>?_) (fun hc5=>?_)
    ·skip
     iterate 39 refine Stp ?_
     refine ZV (.inr rfl) (.tmp rfl .nil) (fun w hw=>?_)
     refine ⟨_,M3,rfl,(hm1.trans hm2).trans hm3,hw.c,?_⟩
     rw [ideal_no hcl.symm hk9 zH];rfl
    ·skip
     refine Zi F.foff44_0 ?_;refine Zi F.foff41_1 ?_;refine Zy F.lay38 ?_;refine Zi F.foff41_1 ?_;refine Zy F.lay38 ?_
     refine Ve (m:=20) rfl rfl rfl rfl rfl jG jG F.lay38 F.kinds38 rfl F.guard38 jR jR rfl rfl rfl ?_;intro c6 he7
     replace he7:c6=true↔¬(Segs.cells _=Segs.cells _):=he7
     obtain rfl:=neD he7 (Zu.inj (x:=⟨_,_⟩) (y:=⟨_,_⟩));clear he7
     iterate 2 refine Stp ?_
     refine Yn 51 rfl (eT fun hc8=>?_) (eF fun hc8=>?_)
     ·iterate 31 refine Stp ?_
      refine ZV (.inr rfl) (.tmp rfl .nil) (fun w hw=>?_)
      refine ⟨_,M3,rfl,(hm1.trans hm2).trans hm3,hw.c,?_⟩
      rw [ideal_no hcl.symm hk9 zH];rfl
     ·refine Zi F.foff44_0 ?_
      refine Zi F.foff41_2 ?_;refine Zy F.lay39 ?_;refine Zi F.foff41_2 ?_;refine Zy F.lay39 ?_;refine X_fs rfl rfl F.ok50 rfl (EqP_ok _ ⟨Wq,Wp,Wo⟩ ⟨u_table_succ_a,u_table_succ_c,u_table_succ_l⟩ okx.h0.h0 oku.h0) rfl ?_
      rintro _ rfl
      iterate 3 refine Stp ?_
      refine Yn 60 rfl (eT fun hc9=>?_) (eF fun hc9=>?_)
      ·simp only [Zu.eta,ZM.eta,ZJ.eta,ZE.eta,Ym.eta,Yo.eta,Yx.eta,Yp.eta,ZN.eta,YC.eta,ZU.eta] at hc9
       iterate 22 refine Stp ?_
       refine ZV (.inr rfl) (.tmp rfl .nil) (fun w hw=>?_)
       refine ⟨_,M3,rfl,(hm1.trans hm2).trans hm3,hw.c,?_⟩
       rw [ideal_no hcl.symm hk9 zH];rfl
      ·simp only [Zu.eta,ZM.eta,ZJ.eta,ZE.eta,Ym.eta,Yo.eta,Yx.eta,Yp.eta,ZN.eta,YC.eta,ZU.eta] at hc9
       refine Zi F.foff44_0 ?_;refine Zi F.foff41_3 ?_;refine Zy F.lay39 ?_;refine Zi F.foff41_3 ?_;refine Zy F.lay39 ?_;refine X_fs rfl rfl F.ok50 rfl (EqP_ok _ ⟨XK,XJ,XI⟩ ⟨u_table_fingers_a,u_table_fingers_c,u_table_fingers_l⟩ okx.h0.h1 oku.h1) rfl ?_
       rintro _ rfl
       iterate 4 refine Stp ?_
       refine ZW rfl (eT fun hc10=>?_) (eF fun hc10=>?_)
       ·simp only [Zu.eta,ZM.eta,ZJ.eta,ZE.eta,Ym.eta,Yo.eta,Yx.eta,Yp.eta,ZN.eta,YC.eta,ZU.eta] at hc10
        iterate 11 refine Stp ?_
        refine ZV (.inr rfl) (.tmp rfl .nil) (fun w hw=>?_)
        refine ⟨_,M3,rfl,(hm1.trans hm2).trans hm3,hw.c,?_⟩
        rw [ideal_no hcl.symm hk9 zH];rfl
       ·simp only [Zu.eta,ZM.eta,ZJ.eta,ZE.eta,Ym.eta,Yo.eta,Yx.eta,Yp.eta,ZN.eta,YC.eta,ZU.eta] at hc10
        iterate 4 refine Stp ?_
        refine YO rfl rfl rfl rfl rfl yB rfl ?_
        iterate 2 refine Stp ?_
        refine WZ (a':=[(28,_)]) (k+1) (.cons (k:=28) rfl (.cons (k:=27) rfl (.cons (k:=26) rfl (.cons (k:=4) rfl (.cons (k:=2) rfl (.cons (k:=0) rfl (.nil))))))) (fun w hw=>by first|exact hw|exact hw.c) ?_ ?_
        ·refine ⟨rfl,by omega,fun j h2 hj=>?_⟩
         rcases Nat.lt_or_ge j k with h9|h9
         ·exact hI j h2 h9
         ·obtain rfl:j=k:=by omega
          rw [hq,hlk]
          refine like_yes.2 ⟨?_,?_,?_,?_⟩ <;> (show _=_;simp_all [ZJ.nd,ZM.tb])
        ·omega
   ·iterate 13 refine Stp ?_
    refine ZV (.inr rfl) (.tmp rfl .nil) (fun w hw=>?_)
    obtain rfl:k=t_l.length:=by omega
    refine ⟨_,M3,rfl,(hm1.trans hm2).trans hm3,hw.c,?_⟩
    have hall:∀ j (hj:j<(setL c_l r.copies.toNat).length),idealAt r (setL c_l r.copies.toNat)[j]=true:=by
     rw [← et]
     intro j hj
     rw [List.getElem_map]
     rw [List.length_map] at hj
     exact hI j hj hj
    rw [ideal_yes hcl.symm hcir hall];rfl
theorem F.ok23:okFn Tryz.prog 23=true:=by kernel_rfl
theorem Settle_okR (M:Mem) (gb:Nat) (N:Int) (r:Rg) (Hb:Hp) (hR:YT gb N r M Hb) (mn:Nat) (hM:M.dr=0) (hP:PowM M) (hmn:mn≤1000000) (hN:N+1000000 * (mn:Int)≤1000000000000000):Fh Tryz.prog 22 [.pointer (some ⟨gb,0,none⟩),.int .i64 (mn:Int)] M Hb (fun M' v Hb'=>v=.tuple #[.int .i64 ((UD K.peerN mn r).1:Int),.bool (VY K.peerN (UD K.peerN mn r).2)]∧YT gb (N+1000000 * (mn:Int)) (UD K.peerN mn r).2 M' Hb'):=by
  refine YR (fun H=>Hb++H) (fun _=>rfl) Tryz.func22 rfl Tryz.ntmps22 rfl ?_;intro H
  iterate 10 refine Stp ?_
  refine UG Tryz.underlying24 ?_
  iterate 2 refine Stp ?_
  refine ZW rfl (fun hc1=>?_) (fun hc1=>?_)
  ·skip
   (exfalso;simp [eqX] at hc1;done)
  ·skip
   iterate 9 refine Stp ?_
   refine Y_pk [6,5,4,0,1] ?_;refine Wj (Hin:=Hb) (.succ .zero) jA (fun (k:Nat) M1 h1 z=>∃ r1,z=[(6,.int .i64 (k:Int))]∧k≤mn∧YT gb (N+1000000 * (k:Int)) r1 M1 h1∧TP K.peerN mn k r r1) (fun k=>mn-k) (0) (⟨r,rfl,by omega,by simpa using hR,TP.start⟩) ?_
   rintro k M1 h1 z hm1 ⟨r1,rfl,hk,hR1,hs1⟩
   iterate 7 refine Stp ?_
   refine Yn 12 rfl (cT fun hc2=>?_) (cF fun hc2=>?_)
   ·refine Yh ?_
    refine X_fo rfl rfl F.ok23 rfl (Ideal_okR M1 gb _ r1 h1 hR1 (hm1.loose hM) (hP.mono hm1)) jA (ZQ rfl) ?_
    rintro _ M2 hm2 rfl
    have hR2:=hR1.mono (Int.le_refl _) hm2
    iterate 4 refine Stp ?_
    refine ZW rfl (fun hc3=>?_) (fun hc3=>?_)
    ·skip
     iterate 4 refine Stp ?_
     refine Xy (l:=[0,1]) (Hin:=h1) jA rfl ?_;refine Yh ?_;refine XX rfl rfl F.ok35 rfl (round_okR M2 gb _ r1 h1 hR2 jC) jA (fun _ _ _ hm hw=>(hw.lower jT).c) (ZQ rfl) ?_
     rintro _ M3 hb3 hm3 ⟨rfl,hR3⟩
     iterate 4 refine Stp ?_
     refine YO rfl rfl rfl rfl rfl yB rfl ?_
     iterate 3 refine Stp ?_
     refine Xi (a':=[(6,_)]) (k+1) (hb3) (.cons (k:=6) rfl (.cons (k:=5) rfl (.cons (k:=4) rfl (.cons (k:=0) rfl (.cons (k:=1) rfl (.nil)))))) ((hm1.trans hm2).trans hm3) (fun w hw=>by first|exact hw|exact hw.c) ?_ ?_
     ·exact ⟨UJ r1,rfl,by omega,by rw [show N+1000000 * ((k+1:Nat):Int)=N+1000000 * (k:Int)+1000000 by omega];exact hR3,hs1.step jC (by (simp_all;done))⟩
     ·omega
    ·skip
     iterate 9 refine Stp ?_
     refine X_fo rfl rfl F.ok23 rfl (Ideal_okR M2 gb _ r1 h1 hR2 (Mem.le.loose (hm1.trans hm2) hM) (hP.mono (hm1.trans hm2))) jA (ZQ rfl) ?_
     rintro _ M4 hm4 rfl
     iterate 5 refine Stp ?_
     refine ZV (.inr rfl) (.tmp rfl (.tmp rfl .nil)) (fun w hw=>?_)
     have e9:=hs1.ends (.inr (by (simp_all;done)))
     exact ⟨_,M4,h1,rfl,((hm1.trans hm2).trans hm4),hw.c,by rw [e9];rfl,by rw [e9];exact hR2.mono jC hm4⟩
   ·iterate 16 refine Stp ?_
    refine X_fo rfl rfl F.ok23 rfl (Ideal_okR M1 gb _ r1 h1 hR1 (Mem.le.loose hm1 hM) (hP.mono hm1)) jA (ZQ rfl) ?_
    rintro _ M4 hm4 rfl
    iterate 5 refine Stp ?_
    refine ZV (.inr rfl) (.tmp rfl (.tmp rfl .nil)) (fun w hw=>?_)
    have e9:=hs1.ends (.inl jC)
    exact ⟨_,M4,h1,rfl,(hm1.trans hm4),hw.c,by rw [e9];rfl,by rw [e9];exact hR1.mono jC hm4⟩
end Go.Proofs.YtglnjnacodgmaaaGreatDoor
set_option maxRecDepth 100000
namespace Go.Esp
open Go.Proofs.YtglnjnacodgmaaaGreatDoor
def pnX (a:Int):Zu:=if a=5 then ⟨5,1008497812533577422566271835113878403913710940131#160⟩ else ⟨7,1097516349978132276175317110044003355850477336030#160⟩
def rgX0:Rg:=⟨2,100,[],[]⟩
def rgX1:Rg:=(Tc pnX rgX0 5).1
def rgX2:Rg:=(UL pnX rgX1 7 5).1
def rgX3:Rg:=UJ rgX2
def rgX4:Rg:=UJ rgX3
def rgX5:Rg:=UJ rgX4
theorem pn5:K.peerN 5=pnX 5:=by kernel_rfl
theorem pn7:K.peerN 7=pnX 7:=by kernel_rfl
theorem begin_pn {pn pn':Int→Zu} {r:Rg} {a:Int} (h:pn a=pn' a):Tc pn r a=Tc pn' r a:=by unfold Tc;rw [h]
theorem join_pn {pn pn':Int→Zu} {r:Rg} {a b:Int} (h:pn a=pn' a):UL pn r a b=UL pn' r a b:=by unfold UL;rw [h]
theorem doX1:doR K.peerN ⟨2,100,[],[]⟩ ⟨1,5,0⟩=(rgX1,0):=by
  rw [do1 (t:=⟨1,5,0⟩) rfl,begin_pn (pn':=pnX) pn5]
  exact of_decide_eq_true jI
theorem doX2:doR K.peerN rgX1 ⟨2,7,5⟩=(rgX2,0):=by
  rw [do2 (t:=⟨2,7,5⟩) rfl,join_pn (pn':=pnX) pn7]
  exact of_decide_eq_true jI
theorem doX3:doR K.peerN rgX2 ⟨2,9,8⟩=(rgX2,7):=by
  have h1:rgX2.nodes.length=2:=by kernel_rfl
  rw [do2 (t:=⟨2,9,8⟩) rfl]
  exact join_none jJ jI jC jI
theorem ideal_pn {pn pn':Int→Zu} {r:Rg} (h:∀ a∈Ws r,pn a=pn' a):VY pn r=VY pn' r:=by
  unfold VY circR
  rw [List.map_congr_left h]
theorem idealX {r:Rg} (h:Ws r=[5,7]):VY K.peerN r=VY pnX r:=ideal_pn fun a ha=>by
  rw [h] at ha
  have h9:a=5∨a=7:=by simpa using ha
  rcases h9 with rfl|rfl
  · exact pn5
  · exact pn7
theorem idX2:VY K.peerN rgX2=false:=by rw [idealX (by kernel_rfl)];kernel_rfl
theorem idX3:VY K.peerN rgX3=false:=by rw [idealX (by kernel_rfl)];kernel_rfl
theorem idX4:VY K.peerN rgX4=false:=by rw [idealX (by kernel_rfl)];kernel_rfl
theorem liveX5:Ws rgX5=[5,7]:=by kernel_rfl
theorem idX5:VY K.peerN rgX5=true:=by rw [idealX liveX5];kernel_rfl
theorem settleX:UD K.peerN 20 rgX2=(3,rgX5):=by
  have h0:TP K.peerN 20 0 rgX2 rgX2:=TP.start
  have h1:=h0.step jJ idX2
  have h2:=h1.step jJ idX3
  have h3:=h2.step jJ idX4
  exact h3.ends (.inr idX5)
end Go.Esp
namespace Go.Proofs.YtglnjnacodgmaaaGreatDoor
open Go.Esp
theorem F.bld31:Bld Tryz.prog 31 [[.one (.int .i64 0)],[.one (.int .i64 0)],[.one (.int .i64 0)]]:=⟨by kernel_rfl,by kernel_rfl⟩
theorem F.ok10:okFn Tryz.prog 10=true:=by kernel_rfl
theorem F.ok22:okFn Tryz.prog 22=true:=by kernel_rfl
theorem F.ok8:okFn Tryz.prog 8=true:=by kernel_rfl
theorem IntsO_ok (M:Mem) (x:Sl Int) (l:List Int) (n c:Nat) (ad:Option Addr) (hs:Hp) (hx:SlK M (oneI .i64) 1 x) (hn:n=l.length) (ho:OSl 3 1 (.slice ad n c) hs (l.map (oneI .i64))):Fh Tryz.prog 17 [x.val,.slice ad n c] M hs (fun M' v Hout=>Hout=[]∧v=.bool (decide (x.l=l))):=fun H w hw=>by
  subst hn
  obtain ⟨M1,h1,h2,h3⟩:=ho.frz hw
  exact (K.Ints_ok M1 x ⟨ad,c,l⟩ (hx.mono h1) h3 H w h2).mono fun e w2 ⟨v,g1,g2,g3⟩=>⟨v,M1,[],g1,h1,g2,rfl,g3⟩
theorem ringed_ok (M:Mem) (hM:M.dr=0) (hP:PowM M):Esp.Fn Tryz.prog 9 [] M (fun _ v=>v=.bool true):=by
  refine WK Tryz.func9 rfl Tryz.ntmps9 rfl ?_;intro H
  iterate 7 refine Stp ?_
  refine XX rfl rfl F.ok8 rfl (rNew_ok M 2 100 ⟨by decide,by decide⟩ ⟨by decide,by decide⟩) jA (fun _ _ _ hm hw=>(hw.lower jT).c) (ZQ rfl) ?_
  rintro _ M1 hb1 hm1 ⟨gb,rfl,hR1⟩
  iterate 11 refine Stp ?_
  refine UG Tryz.underlying24 ?_;refine Yh ?_
  refine Yn 14 rfl (fun hc1=>?_) (fun hc1=>?_)
  ·skip
   (exfalso;simp [eqX] at hc1;done)
  ·skip
   iterate 5 refine Stp ?_
   refine ZW rfl (eT fun hc2=>?_) (eF fun hc2=>?_)
   ·simp only [Zu.eta,ZM.eta,ZJ.eta,ZE.eta,Ym.eta,Yo.eta,Yx.eta,Yp.eta,ZN.eta,YC.eta,ZU.eta] at hc2
    (exfalso;simp [eqX] at hc2;done)
   ·simp only [Zu.eta,ZM.eta,ZJ.eta,ZE.eta,Ym.eta,Yo.eta,Yx.eta,Yp.eta,ZN.eta,YC.eta,ZU.eta] at hc2
    iterate 3 refine Stp ?_
    refine Xy (l:=[0,1,2,3]) (Hin:=hb1) jA rfl ?_;refine Yh ?_;refine Xl rfl rfl F.bld31 (.cons rfl jG (.cons rfl jG .nil)) rfl rfl ?_;refine XX rfl rfl F.ok10 rfl (Do_okR M1 gb _ ⟨2,100,[],[]⟩ hb1 hR1 ⟨1,5,0⟩ (Mem.le.loose jE hM) (hP.mono jE) jC) jA (fun _ _ _ hm hw=>(hw.lower jT).c) (ZQ rfl) ?_
    rintro v9 M2 hb2 hm2 ⟨hv9,hR2⟩
    rw [show doR K.peerN ⟨2,100,[],[]⟩ ⟨1,5,0⟩=(rgX1,0) from doX1] at hv9 hR2
    subst hv9
    iterate 4 refine Stp ?_
    refine Xy (l:=[0,1,2,3]) (Hin:=hb2) jA rfl ?_;refine Yh ?_;refine Xl rfl rfl F.bld31 (.cons rfl jG (.cons rfl jG (.cons rfl jG .nil))) rfl rfl ?_;refine XX rfl rfl F.ok10 rfl (Do_okR M2 gb _ rgX1 hb2 hR2 ⟨2,7,5⟩ (Mem.le.loose yE hM) (hP.mono yE) jC) jA (fun _ _ _ hm hw=>(hw.lower jT).c) (ZQ rfl) ?_
    rintro v9 M3 hb3 hm3 ⟨hv9,hR3⟩
    rw [show doR K.peerN rgX1 ⟨2,7,5⟩=(rgX2,0) from doX2] at hv9 hR3
    subst hv9
    iterate 4 refine Stp ?_
    refine Xy (l:=[0,1,2,3]) (Hin:=hb3) jA rfl ?_;refine Yh ?_;refine Xl rfl rfl F.bld31 (.cons rfl jG (.cons rfl jG (.cons rfl jG .nil))) rfl rfl ?_;refine XX rfl rfl F.ok10 rfl (Do_okR M3 gb _ rgX2 hb3 hR3 ⟨2,9,8⟩ (Mem.le.loose yE hM) (hP.mono yE) jC) jA (fun _ _ _ hm hw=>(hw.lower jT).c) (ZQ rfl) ?_
    rintro v9 M4 hb4 hm4 ⟨hv9,hR4⟩
    rw [show doR K.peerN rgX2 ⟨2,9,8⟩=(rgX2,7) from doX3] at hv9 hR4
    subst hv9
    iterate 4 refine Stp ?_
    refine Xy (l:=[0,1,2,3,4,5,6]) (Hin:=hb4) jA rfl ?_;refine Yh ?_;refine XX rfl rfl F.ok22 rfl (Settle_okR M4 gb _ rgX2 hb4 hR4 20 (Mem.le.loose yE hM) (hP.mono yE) jJ jJ) jA (fun _ _ _ hm hw=>(hw.lower jT).c) (ZQ rfl) ?_
    rintro v9 M5 hb5 hm5 ⟨hv9,hR5⟩
    rw [settleX] at hv9 hR5
    rw [show VY K.peerN (3,rgX5).2=true from idX5] at hv9
    subst hv9
    iterate 12 refine Stp ?_
    refine Yn 34 rfl (cT fun hc3=>?_) (cF fun hc3=>?_)
    ·simp only [Zu.eta,ZM.eta,ZJ.eta,ZE.eta,Ym.eta,Yo.eta,Yx.eta,Yp.eta,ZN.eta,YC.eta,ZU.eta] at hc3
     iterate 5 refine Stp ?_
     refine Yn 39 rfl (cT fun hc4=>?_) (cF fun hc4=>?_)
     ·simp only [Zu.eta,ZM.eta,ZJ.eta,ZE.eta,Ym.eta,Yo.eta,Yx.eta,Yp.eta,ZN.eta,YC.eta,ZU.eta] at hc4
      iterate 4 refine Stp ?_
      refine Yn 43 rfl (cT fun hc5=>?_) (cF fun hc5=>?_)
      ·simp only [Zu.eta,ZM.eta,ZJ.eta,ZE.eta,Ym.eta,Yo.eta,Yx.eta,Yp.eta,ZN.eta,YC.eta,ZU.eta] at hc5
       iterate 3 refine Stp ?_
       refine Yn 46 rfl (fun hc6=>?_) (fun hc6=>?_)
       ·skip
        simp only [Zu.eta,ZM.eta,ZJ.eta,ZE.eta,Ym.eta,Yo.eta,Yx.eta,Yp.eta,ZN.eta,YC.eta,ZU.eta] at hc6
        iterate 4 refine Stp ?_
        refine Yn 50 rfl (cT fun hc7=>?_) (cF fun hc7=>?_)
        ·simp only [Zu.eta,ZM.eta,ZJ.eta,ZE.eta,Ym.eta,Yo.eta,Yx.eta,Yp.eta,ZN.eta,YC.eta,ZU.eta] at hc7
         refine Yh ?_;refine X_fo rfl rfl F.ok23 rfl (Ideal_okR M5 gb _ rgX5 hb5 hR5 (Mem.le.loose yE hM) (hP.mono yE)) jA (ZQ rfl) ?_
         rintro v9 M6 hm6 hv9
         rw [idX5] at hv9
         subst hv9
         have hR6:=hR5.mono (Int.le_refl _) hm6
         iterate 2 refine Stp ?_
         refine Yn 54 rfl (fun hc8=>?_) (fun hc8=>?_)
         ·skip
          simp only [Zu.eta,ZM.eta,ZJ.eta,ZE.eta,Ym.eta,Yo.eta,Yx.eta,Yp.eta,ZN.eta,YC.eta,ZU.eta] at hc8
          refine Yh ?_;refine X_fo rfl rfl F.ok11 rfl (Live_ok M6 gb _ rgX5 hb5 hR6) jA (ZQ rfl) ?_
          rintro _ M7 hm7 ⟨⟨l_a,l_c,l_l⟩,rfl,el,k_l⟩
          try simp only at el
          rw [liveX5] at el
          subst el
          simp only [Sl.val]
          refine YY rfl rfl F.elem32 F.zero3 rfl rfl (.cons rfl jG (.cons rfl jG .nil)) rfl rfl jL rfl ?_;intro b9 hob10
          refine XX rfl rfl F.ok17 rfl (IntsO_ok M7 ⟨l_a,l_c,[5,7]⟩ [5,7] _ _ _ _ k_l rfl hob10) jA (fun _ _ _ hm hw=>(hw.lower (by exact Mem.le.trans yE hm)).c) (ZQ rfl) ?_
          rintro v9 M8 hb8 hm8 ⟨rfl,hv9⟩
          rw [decide_eq_true (show ([5,7]:List Int)=[5,7] from rfl)] at hv9
          subst hv9
          iterate 5 refine Stp ?_
          refine ZV (.inr rfl) (.tmp rfl .nil) (fun w hw=>?_)
          exact ⟨_,_,rfl,(((((((hm1.trans hm2).trans hm3).trans hm4).trans hm5).trans hm6).trans hm7).trans hm8),hw.c,rfl⟩
         ·skip
          (exfalso;simp [eqX] at hc8;done)
        ·simp only [Zu.eta,ZM.eta,ZJ.eta,ZE.eta,Ym.eta,Yo.eta,Yx.eta,Yp.eta,ZN.eta,YC.eta,ZU.eta] at hc7
         (exfalso;omega)
       ·skip
        (exfalso;simp [eqX] at hc6;done)
      ·simp only [Zu.eta,ZM.eta,ZJ.eta,ZE.eta,Ym.eta,Yo.eta,Yx.eta,Yp.eta,ZN.eta,YC.eta,ZU.eta] at hc5
       (exfalso;simp [eqX] at hc5;done)
     ·simp only [Zu.eta,ZM.eta,ZJ.eta,ZE.eta,Ym.eta,Yo.eta,Yx.eta,Yp.eta,ZN.eta,YC.eta,ZU.eta] at hc4
      (exfalso;simp [eqX] at hc4;done)
    ·simp only [Zu.eta,ZM.eta,ZJ.eta,ZE.eta,Ym.eta,Yo.eta,Yx.eta,Yp.eta,ZN.eta,YC.eta,ZU.eta] at hc3
     (exfalso;simp [eqX] at hc3;done)
theorem F.elem22:slOf Tryz.prog 22=some (31,3,24):=by kernel_rfl
theorem F.guard82:Tryz.prog.eqGuardType Tryz.prog.depth 82=false:=by kernel_rfl
theorem F.kinds82:Ub Tryz.prog 20 82=some [.i .i64,.i .i64,.s]:=by kernel_rfl
theorem rounds_ok (M:Mem) (script:(Sl Yx)) (hscript0:SlK M Yx.segs 3 script):Fs Tryz.prog 7 [Sl.val script] M (fun v=>∃ n:Int,v=.int .i64 n):=by
  obtain ⟨script_a,script_c,script_l⟩:=script
  have VX:SlK M Yx.segs 3 ⟨script_a,script_c,script_l⟩:=hscript0
  have s_script:SlM M script_a (script_l.map Yx.segs) 3:=VX.h1
  have n_script:(script_l.map Yx.segs).length=script_l.length:=List.length_map ..
  have m_script:script_l.length≤9223372036854775807:=VX.h2
  have c_script:script_l.length≤script_c:=VX.h3
  refine Xf Tryz.func7 rfl Tryz.ntmps7 rfl ?_;intro H
  iterate 17 refine Stp ?_
  refine Y_pk [4,3,2,0] ?_;refine Vp (.succ (.succ .zero)) (fun (k:Nat) z=>∃ n:Int,z=[(4,.int .i64 (k:Int)),(3,.int .i64 n)]∧k≤script_l.length∧0≤n∧n≤k) (fun k=>script_l.length-k) (0) (⟨0,rfl,by omega,by omega,by omega⟩) ?_
  rintro k _ ⟨n,rfl,hk,hn0,hnk⟩
  iterate 5 refine Stp ?_
  refine Yy F.elem22 ?_
  iterate 3 refine Stp ?_
  refine ZW rfl (cT fun hc1=>?_) (cF fun hc1=>?_)
  ·iterate 8 refine Stp ?_
   refine Ys rfl rfl rfl rfl F.elem22 jS jC yC rfl ?_;refine X_fieldAddr_el rfl rfl rfl yC F.foff31_0 rfl ?_;refine Xj rfl rfl rfl jE yD F.lay3 rfl rfl rfl ?_
   iterate 3 refine Stp ?_
   refine ZW rfl (cT fun hc2=>?_) (cF fun hc2=>?_)
   ·simp only [List.get_eq_getElem] at hc2
    iterate 2 refine Stp ?_
    refine YO rfl rfl rfl rfl rfl yB rfl ?_
    iterate 6 refine Stp ?_
    refine YO rfl rfl rfl rfl rfl yB rfl ?_
    iterate 2 refine Stp ?_
    refine WZ (a':=[(4,_),(3,_)]) (k+1) (.cons (k:=4) rfl (.cons (k:=3) rfl (.cons (k:=2) rfl (.cons (k:=0) rfl (.nil))))) (fun w hw=>by first|exact hw|exact hw.c) ?_ ?_
    ·exact ⟨_,rfl,by omega,by omega,by omega⟩
    ·omega
   ·simp only [List.get_eq_getElem] at hc2
    iterate 5 refine Stp ?_
    refine YO rfl rfl rfl rfl rfl yB rfl ?_
    iterate 2 refine Stp ?_
    refine WZ (a':=[(4,_),(3,_)]) (k+1) (.cons (k:=4) rfl (.cons (k:=3) rfl (.cons (k:=2) rfl (.cons (k:=0) rfl (.nil))))) (fun w hw=>by first|exact hw|exact hw.c) ?_ ?_
    ·exact ⟨_,rfl,by omega,by omega,by omega⟩
    ·omega
  ·iterate 12 refine Stp ?_
   refine ZV (.inr rfl) (.tmp rfl .nil) (fun w hw=>?_)
   exact ⟨_,rfl,hw.c,n,rfl⟩
theorem MailsS_ok (M:Mem) (a:(Sl Yo)) (b:(Sl Yo)) (ha0:SlK M Yo.segs 3 a) (hb1:SlK M Yo.segs 3 b):Fs Tryz.prog 15 [Sl.val a,Sl.val b] M (fun v=>v=Value.bool (decide (a.l=b.l))):=by
  obtain ⟨a_a,a_c,a_l⟩:=a
  obtain ⟨b_a,b_c,b_l⟩:=b
  have k_a:SlK M Yo.segs 3 ⟨a_a,a_c,a_l⟩:=ha0
  have s_a:SlM M a_a (a_l.map Yo.segs) 3:=k_a.h1
  have n_a:(a_l.map Yo.segs).length=a_l.length:=List.length_map ..
  have m_a:a_l.length≤9223372036854775807:=k_a.h2
  have c_a:a_l.length≤a_c:=k_a.h3
  have k_b:SlK M Yo.segs 3 ⟨b_a,b_c,b_l⟩:=hb1
  have s_b:SlM M b_a (b_l.map Yo.segs) 3:=k_b.h1
  have n_b:(b_l.map Yo.segs).length=b_l.length:=List.length_map ..
  have m_b:b_l.length≤9223372036854775807:=k_b.h2
  have c_b:b_l.length≤b_c:=k_b.h3
  refine Xf Tryz.func15 rfl Tryz.ntmps15 rfl ?_;intro H
  iterate 9 refine Stp ?_
  refine Yy F.elem49 ?_;refine Yh ?_;refine Yy F.elem49 ?_
  iterate 3 refine Stp ?_
  refine ZW rfl (eT fun hc1=>?_) (eF fun hc1=>?_)
  ·iterate 7 refine Stp ?_
   refine ZV (.inr rfl) (.tmp rfl .nil) (fun w hw=>?_)
   refine ⟨_,rfl,(hw.c),?_⟩
   clear hw
   refine congrArg Value.bool ?_
   exact (decide_eq_false (fun h9=>by subst h9;simp_all)).symm
  ·iterate 9 refine Stp ?_
   refine Y_pk [5,4,0,1] ?_;refine Vp (.succ .zero) (fun (k:Nat) z=>z=[(5,.int .i64 (k:Int))]∧k≤a_l.length∧(∀ j (h2:j<a_l.length) (h3:j<b_l.length),j<k→a_l[j]=b_l[j])) (fun k=>a_l.length-k) (0) (⟨rfl,by omega,by (intro j h2 h3 hj;omega)⟩) ?_
   rintro k _ ⟨rfl,hk,hI⟩
   iterate 5 refine Stp ?_
   refine Yy F.elem49 ?_
   iterate 3 refine Stp ?_
   refine ZW rfl (cT fun hc2=>?_) (cF fun hc2=>?_)
   ·iterate 5 refine Stp ?_
    refine Yg (l:=[0,1,2,3,4,5,6,7,8]) #[0,0,3,7,0,0,48,112,255] _ rfl jI jI St.drawn (fun _ h=>h) ?_
    iterate 2 refine Stp ?_
    refine Ys rfl rfl rfl rfl F.elem49 jS jC yC rfl ?_;refine Xj rfl rfl rfl jE yD F.lay82 rfl rfl rfl ?_
    iterate 2 refine Stp ?_
    refine Ys rfl rfl rfl rfl F.elem49 jS jC yC rfl ?_;refine Xj rfl rfl rfl jE yD F.lay82 rfl rfl rfl ?_
    refine Ve (m:=20) rfl rfl rfl rfl rfl jG jG F.lay82 F.kinds82 rfl F.guard82 (by exact FitMailV _) (by exact FitMailV _) rfl rfl rfl ?_;intro c3 he4
    replace he4:c3=true↔¬(Segs.cells _=Segs.cells _):=he4
    obtain rfl:=neD he4 (Yo.inj (x:=⟨_,_,_⟩) (y:=⟨_,_,_⟩));clear he4
    iterate 2 refine Stp ?_
    refine ZW rfl (eT fun hc5=>?_) (eF fun hc5=>?_)
    ·simp only [Zu.eta,ZM.eta,ZJ.eta,ZE.eta,Ym.eta,Yo.eta,Yx.eta,Yp.eta,ZN.eta,YC.eta,ZU.eta] at hc5
     simp only [List.get_eq_getElem] at hc5
     iterate 11 refine Stp ?_
     refine ZV (.inr rfl) (.tmp rfl .nil) (fun w hw=>?_)
     refine ⟨_,rfl,(hw.c),?_⟩
     clear hw
     refine congrArg Value.bool ?_
     exact (decide_eq_false (fun h9=>by subst h9;simp_all)).symm
    ·simp only [Zu.eta,ZM.eta,ZJ.eta,ZE.eta,Ym.eta,Yo.eta,Yx.eta,Yp.eta,ZN.eta,YC.eta,ZU.eta] at hc5
     simp only [List.get_eq_getElem] at hc5
     iterate 5 refine Stp ?_
     refine YO rfl rfl rfl rfl rfl yB rfl ?_
     iterate 2 refine Stp ?_
     refine WZ (a':=[(5,_)]) (k+1) (.cons (k:=5) rfl (.cons (k:=4) rfl (.cons (k:=0) rfl (.cons (k:=1) rfl (.nil))))) (fun w hw=>by first|exact hw|exact hw.c) ?_ ?_
     ·refine ⟨rfl,by omega,?_⟩
      (intro j h2 h3 hj;rcases Nat.lt_or_ge j k with h9|h9;exact hI j h2 h3 h9;obtain rfl:j=k:=jC;simp_all)
     ·omega
   ·iterate 11 refine Stp ?_
    refine ZV (.inr rfl) (.tmp rfl .nil) (fun w hw=>?_)
    refine ⟨_,rfl,(hw.c),?_⟩
    clear hw
    refine congrArg Value.bool ?_
    exact (decide_eq_true (List.ext_getElem jC (fun j h2 h3=>hI j h2 h3 jC))).symm
theorem empty_okR (M:Mem) (gb:Nat) (N:Int) (r:Rg) (Hb:Hp) (hR:YT gb N r M Hb) (fl:Nat) (hF:fl≤10000∧10000≤fl) (hM:M.dr=0) (hP:PowM M) (hN:N+20000000000≤1000000000000000):Fh Tryz.prog 12 [.pointer (some ⟨gb,0,none⟩)] M Hb (fun M' v Hb'=>v=.tuple #[]∧YT gb (N+20000000000) (Vx fl r) M' Hb'):=by
  refine YR (fun H=>Hb++H) (fun _=>rfl) Tryz.func12 rfl Tryz.ntmps12 rfl ?_;intro H
  iterate 6 refine Stp ?_
  refine Y_pk [2,0] ?_;refine Wj (Hin:=Hb) (.succ .zero) jA (fun (k:Nat) M1 h1 z=>∃ r1,z=[(2,.int .i64 (k:Int))]∧k≤fl∧YT gb (N+1000000 * (k:Int)) r1 M1 h1∧FlEq fl k r r1) (fun k=>fl-k) (0) (⟨r,rfl,by omega,by simpa using hR,rfl⟩) ?_
  rintro k M1 h1 z hm1 ⟨r1,rfl,hk,hR1,hf1⟩
  iterate 7 refine Stp ?_
  refine ZW rfl (cT fun hc1=>?_) (cF fun hc1=>?_)
  ·iterate 5 refine Stp ?_
   refine Xy (l:=[0,1,2,3]) (Hin:=h1) jA rfl ?_;refine Yh ?_;refine Xl rfl rfl F.bld31 (.cons rfl jG .nil) rfl rfl ?_;refine XX rfl rfl F.ok10 rfl (Do_okR M1 gb _ r1 h1 hR1 ⟨6,0,0⟩ (hm1.loose hM) (hP.mono hm1) jC) jA (fun _ _ _ hm hw=>(hw.lower jT).c) (ZQ rfl) ?_
   rintro v9 M2 hb2 hm2 ⟨hv9,hR2⟩
   rw [do6 (t:=(⟨6,0,0⟩:Trn)) rfl] at hv9 hR2
   subst hv9
   try simp only at hR2
   iterate 3 refine Stp ?_
   refine ZW rfl (eT fun hc2=>?_) (eF fun hc2=>?_)
   ·simp only [Zu.eta,ZM.eta,ZJ.eta,ZE.eta,Ym.eta,Yo.eta,Yx.eta,Yp.eta,ZN.eta,YC.eta,ZU.eta] at hc2
    iterate 5 refine Stp ?_
    refine ZV (.inr rfl) (.nil) (fun w hw=>?_)
    exact ⟨_,M2,hb2,rfl,hm1.trans hm2,hw.c,rfl,by rw [hf1.ends jE];rw [deliver_bad jE] at hR2;exact hR2.mono jC (Mem.le.refl _)⟩
   ·simp only [Zu.eta,ZM.eta,ZJ.eta,ZE.eta,Ym.eta,Yo.eta,Yx.eta,Yp.eta,ZN.eta,YC.eta,ZU.eta] at hc2
    iterate 5 refine Stp ?_
    refine YO rfl rfl rfl rfl rfl yB rfl ?_
    iterate 2 refine Stp ?_
    refine Xi (a':=[(2,_)]) (k+1) (hb2) (.cons (k:=2) rfl (.cons (k:=0) rfl (.nil))) (hm1.trans hm2) (fun w hw=>by first|exact hw|exact hw.c) ?_ ?_
    ·refine ⟨(Wi r1 0).1,rfl,by omega,by rw [show N+1000000 * ((k+1:Nat):Int)=N+1000000 * (k:Int)+1000000 by omega];exact hR2,?_⟩
     exact hf1.step jC jC
    ·omega
  ·iterate 4 refine Stp ?_
   refine ZV (.inl rfl) (.nil) (fun w hw=>?_)
   obtain rfl:k=fl:=by omega
   exact ⟨_,M1,h1,rfl,hm1,hw.c,rfl,by rw [hf1.full];exact hR1.mono jC (Mem.le.refl _)⟩
theorem F.ok12:okFn Tryz.prog 12=true:=by kernel_rfl
theorem F.ok13:okFn Tryz.prog 13=true:=by kernel_rfl
theorem F.ok14:okFn Tryz.prog 14=true:=by kernel_rfl
theorem F.ok15:okFn Tryz.prog 15=true:=by kernel_rfl
theorem F.ok16:okFn Tryz.prog 16=true:=by kernel_rfl
theorem F.ok7:okFn Tryz.prog 7=true:=by kernel_rfl
theorem F.ok9:okFn Tryz.prog 9=true:=by kernel_rfl
theorem rNew_no (M:Mem) (c most:Int) (h:¬((1≤c∧c≤8)∧(1≤most∧most≤1000))):Fs Tryz.prog 8 [.int .i64 c,.int .i64 most] M (fun v=>v=.tuple #[.pointer none,.int .i64 1]):=by
  by_cases hm:1≤most∧most≤1000
  ·exact rNew_no2 M c most hm (fun hc=>h ⟨hc,hm⟩)
  ·exact rNew_no1 M c most jC
theorem lawRounds_no (M:Mem) (r:Int) (most:Int) (script:(Sl Yx)) (hscript0:SlK M Yx.segs 3 script) (hM:M.dr=0) (hP:PowM M) (h:¬((1≤r∧r≤8)∧(1≤most∧most≤1000))):Esp.Fn Tryz.prog 3 [.int .i64 r,.int .i64 most,Sl.val script] M (fun _ v=>v=.bool true):=by
  obtain ⟨script_a,script_c,script_l⟩:=script
  have VX:SlK M Yx.segs 3 ⟨script_a,script_c,script_l⟩:=hscript0
  have s_script:SlM M script_a (script_l.map Yx.segs) 3:=VX.h1
  have n_script:(script_l.map Yx.segs).length=script_l.length:=List.length_map ..
  have m_script:script_l.length≤9223372036854775807:=VX.h2
  have c_script:script_l.length≤script_c:=VX.h3
  refine WK Tryz.func3 rfl Tryz.ntmps3 rfl ?_;intro H
  iterate 9 refine Stp ?_
  refine Yy F.elem22 ?_
  iterate 2 refine Stp ?_
  refine Yn 22 rfl (cT fun hc1=>?_) (cF fun hc1=>?_)
  ·iterate 14 refine Stp ?_
   refine ZV (.inr rfl) (.tmp rfl .nil) (fun w hw=>?_)
   exact ⟨_,_,rfl,Mem.le.refl _,hw.c,rfl⟩
  ·refine Yh ?_
   refine X_fs rfl rfl F.ok7 rfl (rounds_ok M ⟨script_a,script_c,script_l⟩ jE) rfl ?_
   rintro _ ⟨nr,rfl⟩
   iterate 4 refine Stp ?_
   refine ZW rfl (cT fun hc2=>?_) (cF fun hc2=>?_)
   ·iterate 7 refine Stp ?_
    refine ZV (.inr rfl) (.tmp rfl .nil) (fun w hw=>?_)
    exact ⟨_,_,rfl,Mem.le.refl _,hw.c,rfl⟩
   ·iterate 6 refine Stp ?_
    refine X_fs rfl rfl F.ok8 rfl (rNew_no M r most h) rfl ?_
    rintro _ rfl
    iterate 11 refine Stp ?_
    refine X_fs rfl rfl F.ok8 rfl (rNew_no M r most h) rfl ?_
    rintro _ rfl
    iterate 11 refine Stp ?_
    refine UG Tryz.underlying24 ?_;refine Yh ?_
    refine Yn 41 rfl (fun hc3=>?_) (fun hc3=>?_)
    ·skip
     iterate 8 refine Stp ?_
     refine X_fn rfl rfl F.ok9 rfl (ringed_ok M (Mem.le.loose (Mem.le.refl M) hM) (hP.mono (Mem.le.refl M))) rfl ?_
     rintro _ M9 hm9 rfl
     refine Yh ?_
     refine Yn 46 rfl (fun hc4=>?_) (fun hc4=>?_)
     ·skip
      simp only [Zu.eta,ZM.eta,ZJ.eta,ZE.eta,Ym.eta,Yo.eta,Yx.eta,Yp.eta,ZN.eta,YC.eta,ZU.eta] at hc4
      iterate 5 refine Stp ?_
      refine Yn 51 rfl (cT fun hc5=>?_) (cF fun hc5=>?_)
      ·simp only [Zu.eta,ZM.eta,ZJ.eta,ZE.eta,Ym.eta,Yo.eta,Yx.eta,Yp.eta,ZN.eta,YC.eta,ZU.eta] at hc5
       refine Yh ?_;refine UG Tryz.underlying24 ?_
       iterate 2 refine Stp ?_
       refine Yn 55 rfl (fun hc6=>?_) (fun hc6=>?_)
       ·skip
        refine Yh ?_;refine UG Tryz.underlying24 ?_
        iterate 6 refine Stp ?_
        refine ZV (.inr rfl) (.tmp rfl .nil) (fun w hw=>?_)
        exact ⟨_,_,rfl,hm9,hw.c,rfl⟩
       ·skip
        (exfalso;simp [eqX] at hc6;done)
      ·simp only [Zu.eta,ZM.eta,ZJ.eta,ZE.eta,Ym.eta,Yo.eta,Yx.eta,Yp.eta,ZN.eta,YC.eta,ZU.eta] at hc5
       (exfalso;simp [eqX] at hc5;done)
     ·skip
      (exfalso;simp [eqX] at hc4;done)
    ·skip
     (exfalso;simp [eqX] at hc3;done)
theorem lawRounds_yes (M:Mem) (r:Int) (most:Int) (script:(Sl Yx)) (hscript0:SlK M Yx.segs 3 script) (hM:M.dr=0) (hP:PowM M) (h:(1≤r∧r≤8)∧(1≤most∧most≤1000)) (h40:script.l.length≤40):Esp.Fn Tryz.prog 3 [.int .i64 r,.int .i64 most,Sl.val script] M (fun _ v=>v=.bool true):=by
  obtain ⟨script_a,script_c,script_l⟩:=script
  have VX:SlK M Yx.segs 3 ⟨script_a,script_c,script_l⟩:=hscript0
  have s_script:SlM M script_a (script_l.map Yx.segs) 3:=VX.h1
  have n_script:(script_l.map Yx.segs).length=script_l.length:=List.length_map ..
  have m_script:script_l.length≤9223372036854775807:=VX.h2
  have c_script:script_l.length≤script_c:=VX.h3
  refine WK Tryz.func3 rfl Tryz.ntmps3 rfl ?_;intro H
  iterate 9 refine Stp ?_
  refine Yy F.elem22 ?_
  iterate 2 refine Stp ?_
  refine Yn 22 rfl (cT fun hc1=>?_) (cF fun hc1=>?_)
  ·iterate 14 refine Stp ?_
   refine ZV (.inr rfl) (.tmp rfl .nil) (fun w hw=>?_)
   exact ⟨_,_,rfl,Mem.le.refl _,hw.c,rfl⟩
  ·refine Yh ?_
   refine X_fs rfl rfl F.ok7 rfl (rounds_ok M ⟨script_a,script_c,script_l⟩ jE) rfl ?_
   rintro _ ⟨nr,rfl⟩
   iterate 4 refine Stp ?_
   refine ZW rfl (cT fun hc2=>?_) (cF fun hc2=>?_)
   ·iterate 7 refine Stp ?_
    refine ZV (.inr rfl) (.tmp rfl .nil) (fun w hw=>?_)
    exact ⟨_,_,rfl,Mem.le.refl _,hw.c,rfl⟩
   ·iterate 6 refine Stp ?_
    refine XX rfl rfl F.ok8 rfl (rNew_ok M r most h.1 h.2) jA (fun _ _ _ hm hw=>(hw.lower jT).c) (ZQ rfl) ?_
    rintro _ M1 hA1 hm1 ⟨ga,rfl,hA⟩
    iterate 11 refine Stp ?_
    refine XX rfl rfl F.ok8 rfl (rNew_ok M1 r most h.1 h.2) jA (fun _ _ _ hm hw=>(hw.lower jT).c) (ZQ rfl) ?_
    rintro _ M2 hB1 hm2 ⟨gb,rfl,hB⟩
    have hA2:=hA.mono (Int.le_refl _) hm2
    iterate 11 refine Stp ?_
    refine UG Tryz.underlying24 ?_;refine Yh ?_
    refine Yn 41 rfl (fun hc3=>?_) (fun hc3=>?_)
    ·skip
     (exfalso;simp [eqX] at hc3;done)
    ·skip
     refine Yh ?_;refine UG Tryz.underlying24 ?_
     iterate 3 refine Stp ?_
     refine ZW rfl (fun hc4=>?_) (fun hc4=>?_)
     ·skip
      (exfalso;simp [eqX] at hc4;done)
     ·skip
      iterate 9 refine Stp ?_
      refine Y_pk [11,9,7,6,2] ?_;refine C_loopO2 (Hin:=hA1) (Hin2:=hB1) (.succ .zero) jA jA (fun (k:Nat) M3 h3 z=>∃ (rr:Rg) (hA3 hB3:Hp),z=[(11,.int .i64 (k:Int))]∧k≤script_l.length∧h3=hA3++hB3∧YT ga (1000000 * (k:Int)) rr M3 hA3∧YT gb (1000000 * (k:Int)) rr M3 hB3) (fun k=>script_l.length-k) (0) (⟨_,_,_,rfl,by omega,rfl,by simpa using hA2,by simpa using hB⟩) ?_
      rintro k M3 h3 z hm3 ⟨rr,hA3,hB3,rfl,hk,rfl,hRA,hRB⟩
      have s_script3:=(s_script.mono (hm1.trans hm2)).mono hm3
      simp only [List.append_assoc]
      iterate 5 refine Stp ?_
      refine Yy F.elem22 ?_
      iterate 3 refine Stp ?_
      refine ZW rfl (cT fun hc5=>?_) (cF fun hc5=>?_)
      ·iterate 5 refine Stp ?_
       obtain ⟨⟨WM,t_a,t_b⟩,hq⟩:∃ t,script_l[k]'jC=t:=⟨_,rfl⟩
       refine Xy (l:=[0,1,2,3,4,5]) (Hin:=hA3) jA rfl ?_
       iterate 3 refine Stp ?_
       refine Ys rfl rfl rfl rfl F.elem22 jS jC yC rfl ?_;refine Xj rfl rfl rfl jE yD F.lay31 rfl rfl rfl ?_
       simp only [List.get_eq_getElem,hq]
       refine XX rfl rfl F.ok10 rfl (Do_okR M3 ga _ rr hA3 hRA ⟨WM,t_a,t_b⟩ (Mem.le.loose ((hm1.trans hm2).trans hm3) hM) (hP.mono ((hm1.trans hm2).trans hm3)) jC) jA (fun _ _ _ hm hw=>(hw.lower jT).c) (ZQ rfl) ?_
       rintro _ M4 hA4 hm4 ⟨rfl,hRA4⟩
       have hRB4:=hRB.mono (Int.le_refl _) hm4
       have s_script4:=s_script3.mono hm4
       iterate 2 refine Stp ?_
       refine Xy (l:=[0,1,2,3,4,5]) (Hin:=hB3) jA rfl ?_
       iterate 3 refine Stp ?_
       refine Ys rfl rfl rfl rfl F.elem22 jS jC yC rfl ?_;refine Xj rfl rfl rfl jE yD F.lay31 rfl rfl rfl ?_
       simp only [List.get_eq_getElem,hq]
       refine XX rfl rfl F.ok10 rfl (Do_okR M4 gb _ rr hB3 hRB4 ⟨WM,t_a,t_b⟩ (Mem.le.loose (((hm1.trans hm2).trans hm3).trans hm4) hM) (hP.mono (((hm1.trans hm2).trans hm3).trans hm4)) jC) jA (fun _ _ _ hm hw=>(hw.lower jT).c) (ZQ rfl) ?_
       rintro _ M5 hB5 hm5 ⟨rfl,hRB5⟩
       iterate 5 refine Stp ?_
       refine YO rfl rfl rfl rfl rfl yB rfl ?_
       iterate 2 refine Stp ?_
       refine Xi (a':=[(11,_)]) (k+1) ((hA4++hB5)) (.cons (k:=11) rfl (.cons (k:=9) rfl (.cons (k:=7) rfl (.cons (k:=6) rfl (.cons (k:=2) rfl (.nil)))))) ((hm3.trans hm4).trans hm5) (fun w hw=>by first|exact hw|exact hw.c) ?_ ?_
       ·exact ⟨_,hA4,hB5,rfl,by omega,rfl,by rw [show 1000000 * ((k+1:Nat):Int)=1000000 * (k:Int)+1000000 by omega];exact hRA4.mono (Int.le_refl _) hm5,by rw [show 1000000 * ((k+1:Nat):Int)=1000000 * (k:Int)+1000000 by omega];exact hRB5⟩
       ·omega
      ·iterate 6 refine Stp ?_
       obtain rfl:k=script_l.length:=by omega
       refine Xy (l:=[0,1,2]) (Hin:=hA3) jA rfl ?_;refine Yh ?_;refine Xl rfl rfl F.bld31 (.cons rfl jG .nil) rfl rfl ?_;refine XX rfl rfl F.ok10 rfl (Do_okR M3 ga _ rr hA3 hRA ⟨9,0,0⟩ (Mem.le.loose ((hm1.trans hm2).trans hm3) hM) (hP.mono ((hm1.trans hm2).trans hm3)) jC) jA (fun _ _ _ hm hw=>(hw.lower jT).c) (ZQ rfl) ?_
       rintro _ M4 hA4 hm4 ⟨rfl,hRA4⟩
       have hRB4:=hRB.mono (Int.le_refl _) hm4
       rw [do9 (t:=(⟨9,0,0⟩:Trn)) rfl] at hRA4
       try simp only at hRA4
       iterate 5 refine Stp ?_
       refine X_fo rfl rfl F.ok11 rfl (Live_ok M4 gb _ rr hB3 hRB4) jA (ZQ rfl) ?_
       rintro _ M5 hm5 ⟨⟨l_a,l_c,l_l⟩,rfl,el,k_l⟩
       try simp only at el
       have hz5:M.le M5:=((((hm1.trans hm2).trans hm3).trans hm4).trans hm5)
       have hRB5:=hRB4.mono (Int.le_refl _) hm5
       have hRA5:=hRA4.mono (Int.le_refl _) hm5
       have s_l:=k_l.h1
       try simp only at s_l
       have n_l:(l_l.map (oneI .i64)).length=l_l.length:=List.length_map ..
       have m_l:l_l.length≤9223372036854775807:=k_l.h2
       have c_l:l_l.length≤16:=by have:=hRB5.few;have h9:=congrArg List.length el;simp only [Ws,List.length_map] at h9;omega
       simp only [Sl.val]
       iterate 4 refine Stp ?_
       refine Xy (l:=[0,1]) (Hin:=hB3) jA rfl ?_;refine Yh ?_;refine XX rfl rfl F.ok12 rfl (empty_okR M5 gb _ rr hB3 hRB5 10000 ⟨Nat.le_refl _,Nat.le_refl _⟩ (Mem.le.loose hz5 hM) (hP.mono hz5) jC) jA (fun _ _ _ hm hw=>(hw.lower jT).c) (ZQ rfl) ?_
       rintro _ M6 hB6 hm6 ⟨rfl,hRB6⟩
       have hz6:=hz5.trans hm6
       have s_l6:=s_l.mono hm6
       have hRA6:=hRA5.mono (Int.le_refl _) hm6
       iterate 9 refine Stp ?_
       refine Y_pk [13,12,9,7,6] ?_;refine Wj (Hin:=hB6) (.succ .zero) jA (fun (i:Nat) M7 h7 z=>z=[(13,.int .i64 (i:Int))]∧i≤l_l.length∧YT gb (40000000+20000000000+100000000000 * (i:Int)) (((Ws rr).take i).foldl ticksR (Vx 10000 rr)) M7 h7) (fun i=>l_l.length-i) (0) (⟨rfl,by omega,by rw [List.take_zero,List.foldl_nil];exact hRB6.mono jC (Mem.le.refl _)⟩) ?_
       rintro i M7 hB7 z hm7 ⟨rfl,hi,hRB7⟩
       obtain ⟨r7,hr7⟩:∃ r1,((Ws rr).take i).foldl ticksR (Vx 10000 rr)=r1:=⟨_,rfl⟩
       rw [hr7] at hRB7
       have hz7:=hz6.trans hm7
       have s_l7:=s_l6.mono hm7
       iterate 5 refine Stp ?_
       refine Yy F.elem32 ?_
       iterate 3 refine Stp ?_
       refine ZW rfl (cT fun hc6=>?_) (cF fun hc6=>?_)
       ·iterate 5 refine Stp ?_
        obtain ⟨a,ha⟩:∃ a,l_l[i]'jC=a:=⟨_,rfl⟩
        refine Xy (l:=[0,1,2,3,4,5,6]) (Hin:=hB7) jA rfl ?_
        iterate 3 refine Stp ?_
        refine Ys rfl rfl rfl rfl F.elem32 jS jC yC rfl ?_;refine Xj rfl rfl rfl jE yD F.lay3 rfl rfl rfl ?_
        simp only [List.get_eq_getElem,ha]
        refine Xl rfl rfl F.bld31 (.cons rfl jG (.cons rfl jG (.cons rfl jG .nil))) rfl rfl ?_;refine XX rfl rfl F.ok10 rfl (Do_okR M7 gb _ r7 hB7 hRB7 ⟨5,a,1⟩ (Mem.le.loose hz7 hM) (hP.mono hz7) jC) jA (fun _ _ _ hm hw=>(hw.lower jT).c) (ZQ rfl) ?_
        rintro _ M8 hB8 hm8 ⟨rfl,hRB8⟩
        rw [do5 (t:=(⟨5,a,1⟩:Trn)) rfl] at hRB8
        have hz8:=hz7.trans hm8
        have s_l8:=s_l7.mono hm8
        try simp only at hRB8
        iterate 3 refine Stp ?_
        refine Xy (l:=[0,1]) (Hin:=hB8) jA rfl ?_;refine Yh ?_;refine XX rfl rfl F.ok12 rfl (empty_okR M8 gb _ _ hB8 hRB8 10000 ⟨Nat.le_refl _,Nat.le_refl _⟩ (Mem.le.loose hz8 hM) (hP.mono hz8) jC) jA (fun _ _ _ hm hw=>(hw.lower jT).c) (ZQ rfl) ?_
        rintro _ M9 hB9 hm9 ⟨rfl,hRB9⟩
        have hz9:=hz8.trans hm9
        have s_l9:=s_l8.mono hm9
        iterate 3 refine Stp ?_
        refine Xy (l:=[0,1,2,3,4,5,6]) (Hin:=hB9) jA rfl ?_
        iterate 3 refine Stp ?_
        refine Ys rfl rfl rfl rfl F.elem32 jS jC yC rfl ?_;refine Xj rfl rfl rfl jE yD F.lay3 rfl rfl rfl ?_
        simp only [List.get_eq_getElem,ha]
        refine Xl rfl rfl F.bld31 (.cons rfl jG (.cons rfl jG (.cons rfl jG .nil))) rfl rfl ?_;refine XX rfl rfl F.ok10 rfl (Do_okR M9 gb _ _ hB9 hRB9 ⟨5,a,3⟩ (Mem.le.loose hz9 hM) (hP.mono hz9) jC) jA (fun _ _ _ hm hw=>(hw.lower jT).c) (ZQ rfl) ?_
        rintro _ M10 hB10 hm10 ⟨rfl,hRB10⟩
        rw [do5 (t:=(⟨5,a,3⟩:Trn)) rfl] at hRB10
        have hz10:=hz9.trans hm10
        have s_l10:=s_l9.mono hm10
        try simp only at hRB10
        iterate 3 refine Stp ?_
        refine Xy (l:=[0,1]) (Hin:=hB10) jA rfl ?_;refine Yh ?_;refine XX rfl rfl F.ok12 rfl (empty_okR M10 gb _ _ hB10 hRB10 10000 ⟨Nat.le_refl _,Nat.le_refl _⟩ (Mem.le.loose hz10 hM) (hP.mono hz10) jC) jA (fun _ _ _ hm hw=>(hw.lower jT).c) (ZQ rfl) ?_
        rintro _ M11 hB11 hm11 ⟨rfl,hRB11⟩
        have hz11:=hz10.trans hm11
        have s_l11:=s_l10.mono hm11
        iterate 3 refine Stp ?_
        refine Xy (l:=[0,1,2,3,4,5,6]) (Hin:=hB11) jA rfl ?_
        iterate 3 refine Stp ?_
        refine Ys rfl rfl rfl rfl F.elem32 jS jC yC rfl ?_;refine Xj rfl rfl rfl jE yD F.lay3 rfl rfl rfl ?_
        simp only [List.get_eq_getElem,ha]
        refine Xl rfl rfl F.bld31 (.cons rfl jG (.cons rfl jG (.cons rfl jG .nil))) rfl rfl ?_;refine XX rfl rfl F.ok10 rfl (Do_okR M11 gb _ _ hB11 hRB11 ⟨5,a,2⟩ (Mem.le.loose hz11 hM) (hP.mono hz11) jC) jA (fun _ _ _ hm hw=>(hw.lower jT).c) (ZQ rfl) ?_
        rintro _ M12 hB12 hm12 ⟨rfl,hRB12⟩
        rw [do5 (t:=(⟨5,a,2⟩:Trn)) rfl] at hRB12
        have hz12:=hz11.trans hm12
        try simp only at hRB12
        iterate 2 refine Stp ?_
        refine Xy (l:=[0,1]) (Hin:=hB12) jA rfl ?_;refine Yh ?_;refine XX rfl rfl F.ok12 rfl (empty_okR M12 gb _ _ hB12 hRB12 10000 ⟨Nat.le_refl _,Nat.le_refl _⟩ (Mem.le.loose hz12 hM) (hP.mono hz12) jC) jA (fun _ _ _ hm hw=>(hw.lower jT).c) (ZQ rfl) ?_
        rintro _ M13 hB13 hm13 ⟨rfl,hRB13⟩
        iterate 5 refine Stp ?_
        refine YO rfl rfl rfl rfl rfl yB rfl ?_
        iterate 2 refine Stp ?_
        refine Xi (a':=[(13,_)]) (i+1) (hB13) (.cons (k:=13) rfl (.cons (k:=12) rfl (.cons (k:=9) rfl (.cons (k:=7) rfl (.cons (k:=6) rfl (.nil)))))) ((((((hm7.trans hm8).trans hm9).trans hm10).trans hm11).trans hm12).trans hm13) (fun w hw=>by first|exact hw|exact hw.c) ?_ ?_
        ·refine ⟨rfl,by omega,?_⟩
         rw [List.take_add_one,List.getElem?_eq_getElem (show i<(Ws rr).length by rw [← el];omega),Option.toList_some,List.foldl_append,hr7]
         have e9:(Ws rr)[i]'(by rw [← el];omega)=a:=by simp only [← el];exact ha
         rw [e9]
         exact hRB13.mono jC (Mem.le.refl _)
        ·omega
       ·iterate 7 refine Stp ?_
        obtain rfl:i=l_l.length:=by omega
        have hrise:=hRB.rise
        have e8:(Ws rr).take l_l.length=Ws rr:=by rw [← el,List.take_length]
        rw [← hr7,e8,round_is hrise] at hRB7
        have hlr:=live_round hrise
        have hRA7:=hRA6.mono (Int.le_refl _) hm7
        iterate 5 refine Stp ?_
        refine Y_pk [14,12,9,7,6] ?_;refine Wj (Hin:=[]) (.succ .zero) jA (fun (k:Nat) M14 h14 z=>z=[(14,.int .i64 (k:Int))]∧k≤l_l.length∧h14=[]) (fun k=>l_l.length-k) (0) (⟨rfl,by omega,rfl⟩) ?_
        rintro k9 M14 h14 z hm14 ⟨rfl,hk9,rfl⟩
        have s_l14:=s_l7.mono hm14
        have hRA14:=hRA7.mono (Int.le_refl _) hm14
        have hRB14:=hRB7.mono (Int.le_refl _) hm14
        have hz14:=hz7.trans hm14
        iterate 5 refine Stp ?_
        refine Yy F.elem32 ?_
        iterate 3 refine Stp ?_
        refine ZW rfl (cT fun hc7=>?_) (cF fun hc7=>?_)
        ·iterate 5 refine Stp ?_
         obtain ⟨a,ha⟩:∃ a,l_l[k9]'jC=a:=⟨_,rfl⟩
         obtain ⟨n9,hn9⟩:=live_at (r:=UJ rr) (a:=a) (by rw [hlr,← el,← ha];exact List.getElem_mem _)
         iterate 4 refine Stp ?_
         refine Ys rfl rfl rfl rfl F.elem32 jS jC yC rfl ?_;refine Xj rfl rfl rfl jE yD F.lay3 rfl rfl rfl ?_
         simp only [List.get_eq_getElem,ha]
         refine X_fo rfl rfl F.ok13 rfl (Node_okR M14 ga _ _ hA4 hRA14 a) jA (ZQ rfl) ?_
         rintro _ MX hmX ⟨hMX,hv9⟩;subst MX
         obtain ⟨⟨⟨⟨XT,Wl⟩,⟨XU,Wm⟩,⟨Wq,Wp,Wo⟩,⟨XK,XJ,XI⟩⟩,Ul,Uh,To,Uk,TR,UN,Um,Ug,VK,Ui,VL,Uj,⟨VO,VN,VM⟩,Tn,Tm⟩,rfl,okx,ex⟩:=hv9.live hn9
         try simp only at ex
         iterate 3 refine Stp ?_
         refine YA F.zero44 ?_;intro b8
         refine XW F.lay44 ?_
         iterate 8 refine Stp ?_
         refine Ys rfl rfl rfl rfl F.elem32 jS jC yC rfl ?_;refine Xj rfl rfl rfl jE yD F.lay3 rfl rfl rfl ?_
         simp only [List.get_eq_getElem,ha]
         refine X_fo rfl rfl F.ok13 rfl (Node_okR M14 gb _ _ hB7 hRB14 a) jA (ZQ rfl) ?_
         rintro _ MX hmX ⟨hMX,hv9⟩;subst MX
         obtain ⟨⟨⟨⟨YZ,Xn⟩,⟨Xa,Xo⟩,⟨Xs,Xr,Xq⟩,⟨Xd,Xc,Xb⟩⟩,WT,WP,VU,WS,UH,Vg,WU,WO,Wz,WQ,WA,WR,⟨WE,WC,WB⟩,VT,VS⟩,rfl,oky,ey⟩:=hv9.live hn9
         try simp only at ey
         iterate 3 refine Stp ?_
         refine YA F.zero44 ?_;intro b9
         refine XW F.lay44 ?_
         iterate 8 refine Stp ?_
         refine Yn 143 rfl (eT fun hc10=>?_) (eF fun hc10=>?_)
         ·simp only [Zu.eta,ZM.eta,ZJ.eta,ZE.eta,Ym.eta,Yo.eta,Yx.eta,Yp.eta,ZN.eta,YC.eta,ZU.eta] at hc10
          (exfalso;simp [eqX] at hc10;done)
         ·simp only [Zu.eta,ZM.eta,ZJ.eta,ZE.eta,Ym.eta,Yo.eta,Yx.eta,Yp.eta,ZN.eta,YC.eta,ZU.eta] at hc10
          iterate 4 refine Stp ?_
          refine Yn 147 rfl (eT fun hc11=>?_) (eF fun hc11=>?_)
          ·simp only [Zu.eta,ZM.eta,ZJ.eta,ZE.eta,Ym.eta,Yo.eta,Yx.eta,Yp.eta,ZN.eta,YC.eta,ZU.eta] at hc11
           (exfalso;simp [eqX] at hc11;done)
          ·simp only [Zu.eta,ZM.eta,ZJ.eta,ZE.eta,Ym.eta,Yo.eta,Yx.eta,Yp.eta,ZN.eta,YC.eta,ZU.eta] at hc11
           iterate 2 refine Zy F.lay44 ?_
           refine X_fs rfl rfl F.ok14 rfl (SameN_ok M14 ⟨⟨⟨XT,Wl⟩,⟨XU,Wm⟩,⟨Wq,Wp,Wo⟩,⟨XK,XJ,XI⟩⟩,Ul,Uh,To,Uk,TR,UN,Um,Ug,VK,Ui,VL,Uj,⟨VO,VN,VM⟩,Tn,Tm⟩ ⟨⟨⟨YZ,Xn⟩,⟨Xa,Xo⟩,⟨Xs,Xr,Xq⟩,⟨Xd,Xc,Xb⟩⟩,WT,WP,VU,WS,UH,Vg,WU,WO,Wz,WQ,WA,WR,⟨WE,WC,WB⟩,VT,VS⟩ okx oky) rfl ?_
           rintro _ hv
           rw [decide_eq_true (show ZJ.nd ⟨⟨⟨XT,Wl⟩,⟨XU,Wm⟩,⟨Wq,Wp,Wo⟩,⟨XK,XJ,XI⟩⟩,Ul,Uh,To,Uk,TR,UN,Um,Ug,VK,Ui,VL,Uj,⟨VO,VN,VM⟩,Tn,Tm⟩=ZJ.nd ⟨⟨⟨YZ,Xn⟩,⟨Xa,Xo⟩,⟨Xs,Xr,Xq⟩,⟨Xd,Xc,Xb⟩⟩,WT,WP,VU,WS,UH,Vg,WU,WO,Wz,WQ,WA,WR,⟨WE,WC,WB⟩,VT,VS⟩ from ex.trans ey.symm)] at hv
           subst hv
           iterate 4 refine Stp ?_
           refine ZW rfl (fun hc12=>?_) (fun hc12=>?_)
           ·skip
            (exfalso;simp [eqX] at hc12;done)
           ·skip
            iterate 5 refine Stp ?_
            refine YO rfl rfl rfl rfl rfl yB rfl ?_
            iterate 2 refine Stp ?_
            refine Xi (a':=[(14,_)]) (k9+1) ([]) (.cons (k:=14) rfl (.cons (k:=12) rfl (.cons (k:=9) rfl (.cons (k:=7) rfl (.cons (k:=6) rfl (.nil)))))) hm14 (fun w hw=>by first|exact hw|exact hw.c) ?_ ?_
            ·exact ⟨rfl,by omega,rfl⟩
            ·omega
        ·iterate 7 refine Stp ?_
         refine X_fn rfl rfl F.ok9 rfl (ringed_ok M14 (Mem.le.loose hz14 hM) (hP.mono hz14)) rfl ?_
         rintro _ M15 hm15 rfl
         refine Yh ?_
         refine Yn 154 rfl (fun hc13=>?_) (fun hc13=>?_)
         ·skip
          simp only [Zu.eta,ZM.eta,ZJ.eta,ZE.eta,Ym.eta,Yo.eta,Yx.eta,Yp.eta,ZN.eta,YC.eta,ZU.eta] at hc13
          refine Yh ?_;refine X_fo rfl rfl F.ok16 rfl (Mails_okR M15 ga _ _ hA4 (hRA14.mono (Int.le_refl _) hm15)) jA (ZQ rfl) ?_
          rintro _ M16 hm16 ⟨⟨u_a,u_c,u_l⟩,rfl,eu,k_u⟩
          try simp only at eu
          simp only [Sl.val]
          refine Yh ?_;refine X_fo rfl rfl F.ok16 rfl (Mails_okR M16 gb _ _ hB7 (hRB14.mono (Int.le_refl _) (hm15.trans hm16))) jA (ZQ rfl) ?_
          rintro _ M17 hm17 ⟨⟨v_a,v_c,v_l⟩,rfl,ev,k_v⟩
          try simp only at ev
          simp only [Sl.val]
          refine X_fs rfl rfl F.ok15 rfl (MailsS_ok M17 ⟨u_a,u_c,u_l⟩ ⟨v_a,v_c,v_l⟩ (k_u.mono hm17) k_v) rfl ?_
          rintro _ hv
          rw [decide_eq_true (show u_l=v_l from eu.trans ev.symm)] at hv
          subst hv
          iterate 2 refine Stp ?_
          refine Yn 161 rfl (fun hc14=>?_) (fun hc14=>?_)
          ·skip
           simp only [Zu.eta,ZM.eta,ZJ.eta,ZE.eta,Ym.eta,Yo.eta,Yx.eta,Yp.eta,ZN.eta,YC.eta,ZU.eta] at hc14
           refine Yh ?_;refine X_fo rfl rfl F.ok11 rfl (Live_ok M17 ga _ _ hA4 (hRA14.mono (Int.le_refl _) ((hm15.trans hm16).trans hm17))) jA (ZQ rfl) ?_
           rintro _ M19 hm19 ⟨⟨p_a,p_c,p_l⟩,rfl,ep,k_p⟩
           try simp only at ep
           simp only [Sl.val]
           refine Yh ?_;refine X_fs rfl rfl F.ok17 rfl (K.Ints_ok M19 ⟨p_a,p_c,p_l⟩ ⟨l_a,l_c,l_l⟩ k_p (k_l.mono ((((((hm6.trans hm7).trans hm14).trans hm15).trans hm16).trans hm17).trans hm19))) rfl ?_
           rintro _ hv
           rw [decide_eq_true (show p_l=l_l from ep.trans (hlr.trans el.symm))] at hv
           subst hv
           iterate 5 refine Stp ?_
           refine ZV (.inr rfl) (.tmp rfl .nil) (fun w hw=>?_)
           exact ⟨_,_,rfl,(((((hz14.trans hm15).trans hm16).trans hm17).trans hm19)),hw.c,rfl⟩
          ·skip
           (exfalso;simp [eqX] at hc14;done)
         ·skip
          (exfalso;simp [eqX] at hc13;done)
theorem lawRounds_far (M:Mem) (r:Int) (most:Int) (script:(Sl Yx)) (hscript0:SlK M Yx.segs 3 script) (h40:40<script.l.length):Esp.Fn Tryz.prog 3 [.int .i64 r,.int .i64 most,Sl.val script] M (fun _ v=>v=.bool true):=by
  obtain ⟨script_a,script_c,script_l⟩:=script
  have VX:SlK M Yx.segs 3 ⟨script_a,script_c,script_l⟩:=hscript0
  have s_script:SlM M script_a (script_l.map Yx.segs) 3:=VX.h1
  have n_script:(script_l.map Yx.segs).length=script_l.length:=List.length_map ..
  have m_script:script_l.length≤9223372036854775807:=VX.h2
  have c_script:script_l.length≤script_c:=VX.h3
  simp only at h40
  refine WK Tryz.func3 rfl Tryz.ntmps3 rfl ?_;intro H
  iterate 9 refine Stp ?_
  refine Yy F.elem22 ?_
  iterate 2 refine Stp ?_
  refine Yn 22 rfl (cT fun hc1=>?_) (cF fun hc1=>?_)
  ·iterate 14 refine Stp ?_
   refine ZV (.inr rfl) (.tmp rfl .nil) (fun w hw=>?_)
   exact ⟨_,_,rfl,Mem.le.refl _,hw.c,rfl⟩
  ·(exfalso;omega)
theorem lawRounds_ok (M:Mem) (r:Int) (most:Int) (script:(Sl Yx)) (hscript0:SlK M Yx.segs 3 script) (hM:M.dr=0) (hP:PowM M):Esp.Fn Tryz.prog 3 [.int .i64 r,.int .i64 most,Sl.val script] M (fun _ v=>v=.bool true):=by
  by_cases h40:script.l.length≤40
  ·by_cases h:(1≤r∧r≤8)∧(1≤most∧most≤1000)
   ·exact lawRounds_yes M r most script hscript0 hM hP h h40
   ·exact lawRounds_no M r most script hscript0 hM hP h
  ·exact lawRounds_far M r most script hscript0 jC
end Go.Proofs.YtglnjnacodgmaaaGreatDoor
