/-
  Texts of this claim, one behind the other: NodeW, E1, E2, E3, E4, E5, E6, E7, E8, E9, InsL, E10, E11, E12, E13.
-/
import Derived.Test.YtajmnjefajknoaaGreatQL33
set_option linter.unusedSimpArgs false
set_option linter.unusedVariables false
set_option linter.unnecessarySimpa false
namespace Go.Esp
abbrev IntV:=Int
theorem IntV.flat (x:Int):Esp.flat (oneI .i64 x):=YF rfl XA
def WkF (bw tw:Nat) (M:Mem) (Hout:Hp) (X:Nd×List Snd):Prop :=
  ∃ (n9:ZO) (o9:Sl Yd),Hout=[(bw,rowO (ZQ.segs ⟨n9,o9⟩) tw)]∧n9.nd=X.1∧sndl o9.l=X.2∧ZO.ok M n9∧SlK M Yd.segs 68 o9∧∀ y∈o9.l,Yd.ok M y
theorem fh_frz {P:Program} {f:FuncId} {vs:List Value} {M:Mem} {Hin:Hp} {R R':Mem→Value→Hp→Prop} (h:Fh P f vs M Hin R) (hr:∀ M' v Hout H w,R M' v Hout→St M' (Hout++H) w→∃ M'' Hout',M'.le M''∧St M'' (Hout'++H) w∧R' M'' v Hout'):Fh P f vs M Hin R':=fun H w hw =>
  (h H w hw).mono fun _ w' ⟨v,M',Ho,he,hm,hs,h9⟩=>let ⟨M2,Ho2,h1,h2,h3⟩:=hr M' v Ho H w' h9 hs;⟨v,M2,Ho2,he,hm.trans h1,h2,h3⟩
def VB (t:Tb) (a:Int):Tb×Int:=if a≠-1 then (Wg t a,-1) else (t,a)
theorem lost_big {t9 t:Tb} {a:Int} (h:t9=(VB t a).1) (hb:t.succ.length≤40∧t.fingers.length≤200):t9.succ.length≤40∧t9.fingers.length≤200:=by
  unfold VB at h
  split at h
  · exact forget_big h hb
  · subst h;exact hb
theorem lost_ask {n:Nd} {t:Tb} {a:Int} (h:(t,a)=VB n.table n.askTo):{ n with table:=t,askTo:=a }=if n.askTo≠-1 then { n with table:=Wg n.table n.askTo,askTo:=-1 } else n:=by
  unfold VB at h
  by_cases h1:n.askTo≠-1
  · rw [if_pos h1] at h ⊢
    cases h;rfl
  · rw [if_neg h1] at h ⊢
    cases h;rfl
theorem lost_ping {n:Nd} {t:Tb} {a:Int} (h:(t,a)=VB n.table n.pingTo):{ n with table:=t,pingTo:=a }=if n.pingTo≠-1 then { n with table:=Wg n.table n.pingTo,pingTo:=-1 } else n:=by
  unfold VB at h
  by_cases h1:n.pingTo≠-1
  · rw [if_pos h1] at h ⊢
    cases h;rfl
  · rw [if_neg h1] at h ⊢
    cases h;rfl
theorem fix_nil {n:Nd} {t:Tb} {a:Int} (h:(t,a)=VB n.table n.findTo) (h1:n.findTo=-1):{ n with table:=t,avoid:=[],findTo:=a }=if n.findTo=-1 then { n with avoid:=[] } else { n with avoid:=VL n.avoid n.findTo,table:=Wg n.table n.findTo,findTo:=-1 }:=by
  unfold VB at h
  rw [if_neg (fun q=>q h1)] at h
  rw [if_pos h1]
  cases h;rfl
theorem fix_shun {n:Nd} {t:Tb} {a:Int} {l:List Int} (h:(t,a)=VB n.table n.findTo) (h1:n.findTo≠-1) (hl:l=VL n.avoid n.findTo):{ n with table:=t,avoid:=l,findTo:=a }=if n.findTo=-1 then { n with avoid:=[] } else { n with avoid:=VL n.avoid n.findTo,table:=Wg n.table n.findTo,findTo:=-1 }:=by
  unfold VB at h
  rw [if_pos h1] at h
  rw [if_neg h1]
  cases h;subst hl;rfl
theorem shun_len {l l9:List Int} {a:Int} {n:Nat} (h:l9=VL l a) (hl:l.length≤n):l9.length≤n+1:=by
  subst h
  unfold VL
  split
  · omega
  · rw [List.length_append]
    simp only [List.length_cons,List.length_nil]
    omega
theorem fix_out {n:Nd} (h:n.joined=false):fixN n=(n,[]):=if_pos h
def endN (n:Nd) (p:ZD):Nd :=
  if n.joined=true∧(Xr n.table.self p∨p=n.table.self) then VR n p
  else if n.joined=false∧Xr n.table.self p then { WF n p [] with joined:=true,cursor:=0,avoid:=[] }
  else n
theorem end_point {n:Nd} {p:ZD} (h:n.joined=true) (h1:Xr n.table.self p∨p=n.table.self):endN n p=VR n p:=if_pos ⟨h,h1⟩
theorem end_adopt {n m:Nd} {p:ZD} (h:n.joined=false) (h1:Xr n.table.self p) (hm:m=WF n p []):endN n p={ m with joined:=true,cursor:=0,avoid:=[] }:=by
  subst hm
  unfold endN
  rw [if_neg (by rw [h];simp),if_pos ⟨h,h1⟩]
theorem end_not {n:Nd} {p:ZD} (h:n.joined=true→¬Xr n.table.self p∧p≠n.table.self) (h1:n.joined=false→¬Xr n.table.self p):endN n p=n:=by
  unfold endN
  rw [if_neg (by rintro ⟨q1,q2|q2⟩;exact (h q1).1 q2;exact (h q1).2 q2),if_neg (by rintro ⟨q1,q2⟩;exact h1 q1 q2)]
theorem found_end {n:Nd} {l:Lt} (h1:n.findTo=l.frm.addr) (h2:n.findReq=l.req) (h3:l.done=true):foundN n l=(endN { n with findTo:=-1 } l.peer,[]):=by
  rw [found_in h1 h2,if_pos h3]
  unfold endN
  by_cases h:n.joined=true∧(Xr n.table.self l.peer∨l.peer=n.table.self)
  · rw [if_pos h,if_pos h]
  · rw [if_neg h,if_neg h]
    by_cases h:n.joined=false∧Xr n.table.self l.peer
    · rw [if_pos h,if_pos h]
    · rw [if_neg h,if_neg h]
theorem first_ne {t:Tb} (h1:Xl t≠t.self):0<t.succ.length:=by
  obtain ⟨a,b,su,f⟩:=t
  match su,h1 with
  | [],h1=>exact absurd rfl h1
  | p::l,_=>exact Nat.succ_pos _
theorem first_eq {t:Tb} (h:IsTb t) (h1:Xl t=t.self):t.succ=[]:=by
  obtain ⟨a,b,su,f⟩:=t
  match su,h,h1 with
  | [],_,_=>rfl
  | p::l,h,h1 =>
    have h2:=(h.2.2.2.2.1.1 p (List.Mem.head _)).2.1
    exact absurd (congrArg ZD.addr h1) h2
theorem find_no {n:Nd} {l:Lt} (h:n.joined=false):findN n l=[]:=if_pos h
theorem find_yes {n:Nd} {l:Lt} {d q:ZD×Bool} (h:n.joined=true) (hd:VN n.table l.id=d) (hq:WB n.table l.id l.avoid=q):findN n l=[⟨l.frm.addr,{ lett n 2 l.req with done:=d.2 || !q.2,peer:=if d.2 || !q.2 then d.1 else q.1 }⟩]:=by
  subst hd hq
  exact if_neg (by rw [h];decide)
def tickL (a b c:Nat):IM:=Vr (Vr (Vr [] 1 (.func (.func a) #[] #[])) 2 (.func (.func b) #[] #[])) 3 (.func (.func c) #[] #[])
theorem tickL1 {a b c:Nat}:(WJ (tickL a b c) 1).getD .nilFunc=.func (.func a) #[] #[]:=rfl
theorem tickL2 {a b c:Nat}:(WJ (tickL a b c) 2).getD .nilFunc=.func (.func b) #[] #[]:=rfl
theorem tickL3 {a b c:Nat}:(WJ (tickL a b c) 3).getD .nilFunc=.func (.func c) #[] #[]:=rfl
theorem tickL0 {a b c:Nat} {k:Int} (h:¬(1≤k∧k≤3)):(WJ (tickL a b c) k).getD .nilFunc=.nilFunc:=by
  show (WJ [(1,Value.func (.func a) #[] #[]),(2,.func (.func b) #[] #[]),(3,.func (.func c) #[] #[])] k).getD .nilFunc=.nilFunc
  simp only [WJ]
  rw [if_neg (by omega),if_neg (by omega),if_neg (by omega)]
  rfl
theorem setParts_first {z r:Segs} {zs:List Segs} (h:Segs.len z=Segs.len r):WX (z::zs) [(0,r)]=some (r::zs):=by
  have h1:=setPart_at [] z r zs h
  simp only [List.nil_append,List.length_nil] at h1
  unfold WX
  rw [h1]
  rfl
theorem fh_thaw {α:Type} {T sz k cp:Nat} {f:α→Segs} {l:List α} {ad:Option Addr} {hs Hin:Hp} {P:Program} {g:FuncId} {vs:List Value} {M:Mem} {R:Mem→Value→Hp→Prop} (ho:OSl T sz (.slice ad k cp) hs (l.map f)) (h:∀ M',M.le M'→SlK M' f sz ⟨ad,cp,l⟩→Fh P g vs M' Hin R):Fh P g vs M (Hin++hs) R:=fun H w hw=>by
  obtain ⟨M',h1,h2,h3⟩:=ho.frz (H:=Hin++H) (hw.cnt (by intro zz;simp only [cnt_app];omega))
  exact (h M' h1 h3 H w h2).mono fun e w' ⟨v,M2,Ho,he,hm,hs,hr⟩=>⟨v,M2,Ho,he,h1.trans hm,hs,hr⟩
end Go.Esp
set_option maxRecDepth 8000
set_option maxHeartbeats 1000000
namespace Go.Proofs.YtajmnjefajknoaaGreat
open Go.Esp
theorem F.foff68_0:foff Tryz.prog 68 0=some 0:=by kernel_rfl
theorem F.foff68_1:foff Tryz.prog 68 1=some 78:=by kernel_rfl
theorem F.lay35:lay Tryz.prog 35=some (false,1):=by kernel_rfl
theorem F.ok65:okFn Tryz.prog 65=true:=by kernel_rfl
theorem F.ok83:okFn Tryz.prog 83=true:=by kernel_rfl
theorem F.ok91:okFn Tryz.prog 91=true:=by kernel_rfl
theorem CloneI_nil (M:Mem) (c:Nat) (l:List IntV) (k:SlK M (oneI .i64) 1 ⟨none,c,l⟩) (hb:l.length≤1000000):Fh Tryz.prog 91 [.slice none l.length c] M [] (fun M' v Hout=>M'=M∧OSl 3 1 v Hout (l.map (oneI .i64))):=by
  have hl0:l=[]:=SlM.none_nil k.h1
  subst hl0
  have hl0:([]:List IntV).map (oneI .i64)=[]:=rfl
  refine fh_enter Tryz.func91 rfl Tryz.ntmps91 rfl ?_;intro H
  refine ZI (Zm (l:=[0]) rfl ?_);refine ZB ?_;refine Zo (Zn ?_)
  iterate 2 refine ZI ?_
  refine Zm (l:=[0,1]) rfl ?_;refine Zv ?_;refine Y_nil Tryz.underlying30 ?_;refine Zo (Zn (Y_pk [4,2,0] ?_))
  refine Yx rfl (fun hc1=>?_) (fun hc1=>?_)
  ·skip
   refine ZI (Zm (l:=[0]) rfl ?_);refine ZB ?_;refine Zo (Zn (Y_pk [2,0] ?_));refine Yg (YG ?_)
   refine Ya (.inr rfl) (.tmp rfl .nil) (fun w hw=>?_)
   exact ⟨_,M,[],rfl,Mem.le.refl M,hw.c,rfl,by rw [hl0];exact OSl.nil⟩
  ·skip
   (exfalso;simp [eqX] at hc1;done)
theorem CloneI_some (M:Mem) (ad:Addr) (c:Nat) (l:List IntV) (k:SlK M (oneI .i64) 1 ⟨some ad,c,l⟩) (hb:l.length≤1000000):Fh Tryz.prog 91 [.slice (some ad) l.length c] M [] (fun M' v Hout=>M'=M∧OSl 3 1 v Hout (l.map (oneI .i64))):=by
  have hml:l.length=(l.map (oneI .i64)).length:=(List.length_map ..).symm
  refine fh_enter Tryz.func91 rfl Tryz.ntmps91 rfl ?_;intro H
  refine ZI (Zm (l:=[0]) rfl ?_);refine ZB ?_;refine Zo (Zn ?_)
  iterate 2 refine ZI ?_
  refine Zm (l:=[0,1]) rfl ?_;refine Zv ?_;refine Y_nil Tryz.underlying30 ?_;refine Zo (Zn (Y_pk [4,2,0] ?_))
  refine Yx rfl (fun hc1=>?_) (fun hc1=>?_)
  ·skip
   (exfalso;simp [eqX] at hc1;done)
  ·skip
   refine Yv (Zn (Y_pk [2,0] ?_));refine ZI (Zm (l:=[0,1,2,3]) rfl ?_)
   refine XB rfl rfl F.elem30 F.zero3 rfl rfl (.nil) rfl rfl (by simp only [List.map_cons,List.map_nil] <;> rfl) rfl ?_;intro b2 hob3
   refine Zv ?_
   refine Vm (m:=1000000) rfl rfl rfl rfl rfl F.elem30 F.zero3 (by rfl) rfl (by assumption) (by repeat first|exact Rem.here _|exact Rem.two|apply Rem.skip|apply Rem.over) (SlM.src k.h1 (rows_one IntV.flat _) hml) (by (simp;omega)) (by decide) rfl ?_;intro v6 hs5 ho4;obtain ⟨adv6,cpv6,rfl⟩:=ho4.val
   refine ZB ?_;refine Zo (Zn (Y_pk [2] ?_));refine Yg ?_
   refine Ya (.inr rfl) (.tmp rfl .nil) (fun w hw=>?_)
   exact ⟨_,M,_,rfl,Mem.le.refl M,hw.c,rfl,by assumption⟩
theorem CloneI_ok (M:Mem) (a:Option Addr) (c:Nat) (l:List IntV) (k:SlK M (oneI .i64) 1 ⟨a,c,l⟩) (hb:l.length≤1000000):Fh Tryz.prog 91 [.slice a l.length c] M [] (fun M' v Hout=>M'=M∧OSl 3 1 v Hout (l.map (oneI .i64))):=by
  cases a with
  |none=>exact CloneI_nil M c l k hb
  |some ad=>exact CloneI_some M ad c l k hb
theorem send_ok (M:Mem) (bw:Nat) (Za:Int) (Zb:Plc) (Zc:Int) (Zh:Plc) (Zj Zf Zt:Option Addr) (Zi Ze Zs:Nat) (Zg Zd:List ZD) (Zl:List Int) (Zq:Int) (Zu:Bool) (ZF Zx ZN ZC ZA Zw Zr Zy Zp:Int) (Zz:Plc) (ZE ZG:Int) (o_a:Option Addr) (o_c:Nat) (o_l:List Yd) (ho:Hp) (hO:OSl 49 68 (.slice o_a o_l.length o_c) ho (o_l.map Yd.segs)) (hL:o_l.length≤1000) (to:Int) (l:ZM):Fh Tryz.prog 65 [.pointer (some ⟨bw,0,none⟩),.int .i64 to,l.enc] M ((bw,rowO (ZQ.segs ⟨⟨⟨⟨Za,Zb⟩,⟨Zc,Zh⟩,⟨Zj,Zi,Zg⟩,⟨Zf,Ze,Zd⟩⟩,Zq,Zu,ZF,Zx,ZN,ZC,ZA,Zw,Zr,Zy,Zp,Zz,⟨Zt,Zs,Zl⟩,ZE,ZG⟩,⟨o_a,o_c,o_l⟩⟩) 68)::ho) (fun M' v Hout=>M'=M∧v=.tuple #[]∧∃ (o9:Sl Yd) (ho9:Hp),Hout=(bw,rowO (ZQ.segs ⟨⟨⟨⟨Za,Zb⟩,⟨Zc,Zh⟩,⟨Zj,Zi,Zg⟩,⟨Zf,Ze,Zd⟩⟩,Zq,Zu,ZF,Zx,ZN,ZC,ZA,Zw,Zr,Zy,Zp,Zz,⟨Zt,Zs,Zl⟩,ZE,ZG⟩,o9⟩) 68)::ho9∧OSl 49 68 o9.val ho9 (o9.l.map Yd.segs)∧o9.l=o_l++[⟨to,{ l with frm:=⟨Za,Zb⟩ }⟩]):=by
  obtain ⟨Yk,⟨ZV,YB⟩,YY,l_id,⟨Yo,Yn,ZT⟩,YP,⟨ZP,ZY⟩,⟨Ym,Yf,ZR⟩⟩:=l
  refine XP (fun H=>(bw,rowO (ZQ.segs ⟨⟨⟨⟨Za,Zb⟩,⟨Zc,Zh⟩,⟨Zj,Zi,Zg⟩,⟨Zf,Ze,Zd⟩⟩,Zq,Zu,ZF,Zx,ZN,ZC,ZA,Zw,Zr,Zy,Zp,Zz,⟨Zt,Zs,Zl⟩,ZE,ZG⟩,⟨o_a,o_c,o_l⟩⟩) 68)::(ho++H)) (fun _=>by simp only [List.append_assoc,List.cons_append,List.nil_append]) Tryz.func65 rfl Tryz.ntmps65 rfl ?_;intro H
  refine ZI (Zm (l:=[0]) rfl ?_)
  refine Xk ?_;intro b1
  refine Zo (Zn (Y_pk [5,0,1] ?_));refine ZI (Zm (l:=[0,1,2,3,4,5,6,7]) rfl ?_);refine Zv ?_;refine ZS ?_;refine Zk F.foff68_0 ?_;refine Zk F.foff32_0 ?_;refine Zk F.foff28_0 ?_;refine ZH F.lay25 ?_;refine Zk F.foff44_1 ?_;refine Yi F.lay25 ?_;refine Zo (Zn (Y_pk [5,0,1] ?_));refine Yy (l:=[0,1,2,3,4,5,6,7,8,9,10,11,12]) #[0,0,2,6,14,0,0,96,224,510,1023,2047,4095] _ rfl (by kernel_rfl) (by kernel_rfl) St.drawn (fun _ h=>h) ?_
  iterate 2 refine Zv ?_
  refine ZS ?_;refine Zk F.foff68_1 ?_;refine ZH F.lay35 ?_;refine Zv ?_;refine ZH F.lay44 ?_;refine Xg rfl rfl F.bld49 (.cons rfl (by constructor) (.cons rfl (by constructor) .nil)) rfl rfl ?_
  refine XB rfl rfl F.elem35 F.zero49 rfl rfl (.cons rfl (by constructor) .nil) rfl rfl (by simp only [List.map_cons,List.map_nil] <;> rfl) rfl ?_;intro b2 hob3
  refine Vm (m:=1000000) rfl rfl rfl rfl rfl F.elem35 F.zero49 (by exact Ve rfl) rfl (by assumption) (by repeat first|exact Rem.here _|exact Rem.two|apply Rem.skip|apply Rem.over) (Src.own hob3.lens (by (refine rows_one1 ?_;(repeat (first|exact XA|refine XC ?_|(refine YF ?_ ?_;rfl)));done)) rfl (by repeat first|exact List.Mem.head _|refine List.Mem.tail _ ?_|refine List.mem_append_right _ ?_)) (by (simp;omega)) (by decide) rfl ?_;intro v6 hs5 ho4;obtain ⟨adv6,cpv6,rfl⟩:=ho4.valAt (n:=o_l.length+1) (by (simp;done))
  refine ZS ?_;refine Zk F.foff68_1 ?_;refine Yi F.lay35 ?_;refine Zo ?_
  refine Ya (.inl rfl) (.nil) (fun w hw=>?_)
  have h9:=ho4
  have hln:o_l.length+1=(o_l++[(⟨to,(⟨Yk,⟨Za,Zb⟩,YY,l_id,⟨Yo,Yn,ZT⟩,YP,⟨ZP,ZY⟩,⟨Ym,Yf,ZR⟩⟩:ZM)⟩:Yd)]).length:=by rw [List.length_append];rfl
  rw [hln] at hw h9
  refine ⟨_,M,(bw,rowO (ZQ.segs ⟨⟨⟨⟨Za,Zb⟩,⟨Zc,Zh⟩,⟨Zj,Zi,Zg⟩,⟨Zf,Ze,Zd⟩⟩,Zq,Zu,ZF,Zx,ZN,ZC,ZA,Zw,Zr,Zy,Zp,Zz,⟨Zt,Zs,Zl⟩,ZE,ZG⟩,(⟨adv6,cpv6,o_l++[(⟨to,(⟨Yk,⟨Za,Zb⟩,YY,l_id,⟨Yo,Yn,ZT⟩,YP,⟨ZP,ZY⟩,⟨Ym,Yf,ZR⟩⟩:ZM)⟩:Yd)]⟩:Sl Yd)⟩) 68)::hs5,rfl,Mem.le.refl M,?_,rfl,rfl,(⟨adv6,cpv6,o_l++[(⟨to,(⟨Yk,⟨Za,Zb⟩,YY,l_id,⟨Yo,Yn,ZT⟩,YP,⟨ZP,ZY⟩,⟨Ym,Yf,ZR⟩⟩:ZM)⟩:Yd)]⟩:Sl Yd),hs5,rfl,?_,rfl⟩
  ·simp only [ZQ.segs,Sl.val,List.length_nil] at hw ⊢
   exact hw.c
  ·exact OSl.as9 h9 (by rw [List.map_append];rfl)
theorem sendF_ok (M:Mem) (bw:Nat) (Za:Int) (Zb:Plc) (Zc:Int) (Zh:Plc) (Zj Zf Zt:Option Addr) (Zi Ze Zs:Nat) (Zg Zd:List ZD) (Zl:List Int) (Zq:Int) (Zu:Bool) (ZF Zx ZN ZC ZA Zw Zr Zy Zp:Int) (Zz:Plc) (ZE ZG:Int) (to:Int) (l:ZM):Fh Tryz.prog 65 [.pointer (some ⟨bw,0,none⟩),.int .i64 to,l.enc] M [(bw,rowO (ZQ.segs ⟨⟨⟨⟨Za,Zb⟩,⟨Zc,Zh⟩,⟨Zj,Zi,Zg⟩,⟨Zf,Ze,Zd⟩⟩,Zq,Zu,ZF,Zx,ZN,ZC,ZA,Zw,Zr,Zy,Zp,Zz,⟨Zt,Zs,Zl⟩,ZE,ZG⟩,⟨none,0,[]⟩⟩) 68)] (fun M' v Hout=>v=.tuple #[]∧∃ (o9:Sl Yd),Hout=[(bw,rowO (ZQ.segs ⟨⟨⟨⟨Za,Zb⟩,⟨Zc,Zh⟩,⟨Zj,Zi,Zg⟩,⟨Zf,Ze,Zd⟩⟩,Zq,Zu,ZF,Zx,ZN,ZC,ZA,Zw,Zr,Zy,Zp,Zz,⟨Zt,Zs,Zl⟩,ZE,ZG⟩,o9⟩) 68)]∧SlK M' Yd.segs 68 o9∧o9.l=[⟨to,{ l with frm:=⟨Za,Zb⟩ }⟩]):=by
  refine fh_frz (send_ok M bw _ _ _ _ _ _ _ _ _ _ _ _ _ _ _ _ _ _ _ _ _ _ _ _ _ _ _ none 0 [] [] OSl.nil (by simp) to l) ?_
  rintro M' v _ H w ⟨rfl,rfl,⟨o9a,o9c,o9l⟩,ho9,rfl,hO9,hl9⟩ hs
  simp only at hl9 hO9
  simp only [Sl.val] at hO9
  obtain ⟨M2,j1,j2,j3⟩:=OSl.frz (H:=(bw,rowO (ZQ.segs ⟨⟨⟨⟨Za,Zb⟩,⟨Zc,Zh⟩,⟨Zj,Zi,Zg⟩,⟨Zf,Ze,Zd⟩⟩,Zq,Zu,ZF,Zx,ZN,ZC,ZA,Zw,Zr,Zy,Zp,Zz,⟨Zt,Zs,Zl⟩,ZE,ZG⟩,⟨o9a,o9c,o9l⟩⟩) 68)::H) hO9 (hs.c)
  exact ⟨M2,_,j1,j2,rfl,⟨o9a,o9c,o9l⟩,rfl,j3,hl9⟩
theorem request_ok (M:Mem) (bw:Nat) (Za:Int) (Zb:Plc) (Zc:Int) (Zh:Plc) (Zj Zf Zt:Option Addr) (Zi Ze Zs:Nat) (Zg Zd:List ZD) (Zl:List Int) (Zq:Int) (Zu:Bool) (ZF Zx ZN ZC ZA Zw Zr Zy Zp:Int) (Zz:Plc) (ZE ZG:Int) (to:Int) (l:ZM):Fh Tryz.prog 83 [.pointer (some ⟨bw,0,none⟩),.int .i64 to,l.enc] M [(bw,rowO (ZQ.segs ⟨⟨⟨⟨Za,Zb⟩,⟨Zc,Zh⟩,⟨Zj,Zi,Zg⟩,⟨Zf,Ze,Zd⟩⟩,Zq,Zu,ZF,Zx,ZN,ZC,ZA,Zw,Zr,Zy,Zp,Zz,⟨Zt,Zs,Zl⟩,ZE,ZG⟩,⟨none,0,[]⟩⟩) 68)] (fun M' v Hout=>v=.int .u64 (nxR ZN)∧∃ (o9:Sl Yd),Hout=[(bw,rowO (ZQ.segs ⟨⟨⟨⟨Za,Zb⟩,⟨Zc,Zh⟩,⟨Zj,Zi,Zg⟩,⟨Zf,Ze,Zd⟩⟩,Zq,Zu,ZF,Zx,(nxR ZN),ZC,ZA,Zw,Zr,Zy,Zp,Zz,⟨Zt,Zs,Zl⟩,ZE,ZG⟩,o9⟩) 68)]∧SlK M' Yd.segs 68 o9∧o9.l=[⟨to,{ l with frm:=⟨Za,Zb⟩,req:=nxR ZN,peer:=YW }⟩]):=by
  obtain ⟨Yk,⟨ZV,YB⟩,YY,l_id,⟨Yo,Yn,ZT⟩,YP,⟨ZP,ZY⟩,⟨Ym,Yf,ZR⟩⟩:=l
  refine XP (fun H=>(bw,rowO (ZQ.segs ⟨⟨⟨⟨Za,Zb⟩,⟨Zc,Zh⟩,⟨Zj,Zi,Zg⟩,⟨Zf,Ze,Zd⟩⟩,Zq,Zu,ZF,Zx,ZN,ZC,ZA,Zw,Zr,Zy,Zp,Zz,⟨Zt,Zs,Zl⟩,ZE,ZG⟩,⟨none,0,[]⟩⟩) 68)::H) (fun _=>by simp only [List.append_assoc,List.cons_append,List.nil_append]) Tryz.func83 rfl Tryz.ntmps83 rfl ?_;intro H
  refine ZI (Zm (l:=[0,1]) rfl ?_)
  refine Xk ?_;intro b1
  refine ZB ?_;refine Zo (Zn (Y_pk [6,5,0,1] ?_));refine ZI (Zm (l:=[0,1,2,3,4,5,6,7,8,9]) rfl ?_);refine Zv ?_;refine ZS ?_;refine Zk F.foff68_0 ?_;refine Zk F.foff32_5 ?_;refine ZH F.lay29 ?_;refine XN rfl rfl rfl rfl rfl (by exact wrap_u64 _) rfl ?_
  obtain ⟨r9,hr9⟩:∃ v,nxR ZN=v:=⟨_,rfl⟩
  refine WV 12 rfl (show _=Value.int .u64 r9 from by rw [← hr9];exact congrArg (Value.int .u64) (nx_w64 ZN)) ?_;refine ZS ?_;refine Zk F.foff68_0 ?_;refine Zk F.foff32_5 ?_;refine Yi F.lay29 ?_;refine Zo (Zn (Y_pk [6,5,0,1] ?_));refine ZI (Yy (l:=[0,1,2,3,4,5,6,7,8,9]) #[0,1,3,7,15,0,31,127,255,511] _ rfl (by kernel_rfl) (by kernel_rfl) St.drawn (fun _ h=>h) ?_);refine Zv ?_;refine ZS ?_;refine Zk F.foff68_0 ?_;refine Zk F.foff32_5 ?_;refine ZH F.lay29 ?_;refine X_fs rfl rfl F.ok66 rfl (WO _) rfl ?_
  rintro _ rfl
  refine WV 21 rfl (show _=aggV [.one (.int .i64 (-1)),Yq 0] from rfl) ?_;refine Zk F.foff44_2 ?_;refine Yi F.lay29 ?_;refine Zk F.foff44_6 ?_;refine Yi F.lay25 ?_;refine Zo (Zn (Y_pk [6,5,0,1] ?_));refine ZI (Xq (l:=[0,1,2,3]) [3] rfl ?_)
  iterate 2 refine Zv ?_
  refine ZH F.lay44 ?_;refine Ww rfl rfl rfl F.ok65 rfl (sendF_ok M bw _ _ _ _ _ _ _ _ _ _ _ _ _ _ _ _ _ _ _ _ _ _ _ _ _ _ _ to ⟨Yk,⟨ZV,YB⟩,r9,l_id,⟨Yo,Yn,ZT⟩,YP,⟨-1,0⟩,⟨Ym,Yf,ZR⟩⟩) (by repeat first|exact Rem.here _|exact Rem.two|apply Rem.skip|apply Rem.over) (YA rfl) ?_
  rintro _ M1 hs1 hm1 ⟨rfl,⟨o9a,o9c,o9l⟩,rfl,k9,hl9⟩
  simp only at hl9
  simp only [List.append_assoc,List.cons_append,List.nil_append]
  refine Zo (Wk ?_);refine Zn (Y_pk [6,0] ?_);refine ZI (Zm (l:=[0,1,2,3,4,5]) rfl ?_);refine Zv ?_;refine ZS ?_;refine Zk F.foff68_0 ?_;refine Zk F.foff32_5 ?_;refine ZH F.lay29 ?_;refine ZB ?_;refine Zo (Zn (Y_pk [6] ?_));refine Yg ?_
  refine Ya (.inr rfl) (.tmp rfl .nil) (fun w hw=>?_)
  refine ⟨_,M1,[(bw,rowO (ZQ.segs ⟨⟨⟨⟨Za,Zb⟩,⟨Zc,Zh⟩,⟨Zj,Zi,Zg⟩,⟨Zf,Ze,Zd⟩⟩,Zq,Zu,ZF,Zx,r9,ZC,ZA,Zw,Zr,Zy,Zp,Zz,⟨Zt,Zs,Zl⟩,ZE,ZG⟩,⟨o9a,o9c,o9l⟩⟩) 68)],rfl,hm1,hw.c,?_,⟨o9a,o9c,o9l⟩,?_,k9,?_⟩
  ·rw [hr9];rfl
  ·rw [hr9]
  ·rw [hr9];exact hl9
theorem seek_ok (M:Mem) (bw:Nat) (Za:Int) (Zb:Plc) (Zc:Int) (Zh:Plc) (Zj Zf Zt:Option Addr) (Zi Ze Zs:Nat) (Zg Zd:List ZD) (Zl:List Int) (Zq:Int) (Zu:Bool) (ZF Zx ZN ZC ZA Zw Zr Zy Zp:Int) (Zz:Plc) (ZE ZG:Int) (Yj:ZL.ok M ⟨⟨Za,Zb⟩,⟨Zc,Zh⟩,⟨Zj,Zi,Zg⟩,⟨Zf,Ze,Zd⟩⟩) (Ys:SlK M (oneI .i64) 1 ⟨Zt,Zs,Zl⟩) (hLa:Zl.length≤1000) (to:Int):Fh Tryz.prog 89 [.pointer (some ⟨bw,0,none⟩),.int .i64 to] M [(bw,rowO (ZQ.segs ⟨⟨⟨⟨Za,Zb⟩,⟨Zc,Zh⟩,⟨Zj,Zi,Zg⟩,⟨Zf,Ze,Zd⟩⟩,Zq,Zu,ZF,Zx,ZN,ZC,ZA,Zw,Zr,Zy,Zp,Zz,⟨Zt,Zs,Zl⟩,ZE,ZG⟩,⟨none,0,[]⟩⟩) 68)] (fun M' v Hout=>v=.tuple #[]∧WkF bw 68 M' Hout (seekN (ZO.nd ⟨⟨⟨Za,Zb⟩,⟨Zc,Zh⟩,⟨Zj,Zi,Zg⟩,⟨Zf,Ze,Zd⟩⟩,Zq,Zu,ZF,Zx,ZN,ZC,ZA,Zw,Zr,Zy,Zp,Zz,⟨Zt,Zs,Zl⟩,ZE,ZG⟩) to)):=by
  refine XP (fun H=>(bw,rowO (ZQ.segs ⟨⟨⟨⟨Za,Zb⟩,⟨Zc,Zh⟩,⟨Zj,Zi,Zg⟩,⟨Zf,Ze,Zd⟩⟩,Zq,Zu,ZF,Zx,ZN,ZC,ZA,Zw,Zr,Zy,Zp,Zz,⟨Zt,Zs,Zl⟩,ZE,ZG⟩,⟨none,0,[]⟩⟩) 68)::H) (fun _=>by simp only [List.append_assoc,List.cons_append,List.nil_append]) Tryz.func89 rfl Tryz.ntmps89 rfl ?_;intro H
  refine ZI (Zm (l:=[0,1,2,3,4,5]) rfl ?_)
  iterate 2 refine Zv ?_
  refine ZS ?_;refine Zk F.foff68_0 ?_;refine Zk F.foff32_10 ?_;refine Yi F.lay3 ?_;refine Zo (Zn (Y_pk [0,1] ?_));refine C_region_anyW (l:=[0,1,2,3,4,5,6,7,8,9,10,11,12,13,14,15,16,17,18,19]) [15] #[0,0,0,0,8,24,56,120,0,256,768,1792,3840,7936,16376,32766,65535,131071,262143,524287] (_) rfl (by kernel_rfl) (by kernel_rfl) St.drawn (fun _ h=>h) ?_
  iterate 4 refine Zv ?_
  refine ZS ?_;refine Zk F.foff68_0 ?_;refine Zk F.foff32_12 ?_;refine ZH F.lay23 ?_;refine Zv ?_;refine ZS ?_;refine Zk F.foff68_0 ?_;refine Zk F.foff32_13 ?_;refine ZH F.lay30 ?_;refine VU rfl rfl F.ok91 rfl (CloneI_ok M Zt Zs Zl Ys (by omega)) (by repeat first|exact Rem.here _|exact Rem.two|apply Rem.skip|apply Rem.over) (fun _ _ _ hm hw=>(hw.lower (by exact hm)).c) (YA rfl) ?_
  rintro v0 M1 hs0 hm1 ⟨hM1,ho0⟩;subst M1
  obtain ⟨ad0,cp0,rfl⟩:=ho0.valL
  refine Xg rfl rfl F.bld44 (.cons rfl (by constructor) (.cons rfl (by constructor) (.cons rfl (by constructor) .nil))) rfl rfl ?_;refine Ww rfl rfl rfl F.ok83 rfl (request_ok M bw _ _ _ _ _ _ _ _ _ _ _ _ _ _ _ _ _ _ _ _ _ _ _ _ _ _ _ to ⟨1,⟨0,0⟩,0,Zz,⟨ad0,cp0,Zl⟩,false,⟨0,0⟩,⟨none,0,[]⟩⟩) (by repeat first|exact Rem.here _|exact Rem.two|apply Rem.skip|apply Rem.over) (YA rfl) ?_
  rintro _ M2 hs2 hm2 ⟨rfl,⟨o9a,o9c,o9l⟩,rfl,k9,hl9⟩
  simp only at hl9
  simp only [List.append_assoc,List.cons_append,List.nil_append]
  refine ZS ?_;refine Zk F.foff68_0 ?_;refine Zk F.foff32_11 ?_;refine Yi F.lay29 ?_;refine Zo (Wk ?_)
  refine Ya (.inl rfl) (.nil) (fun w hw=>?_)
  obtain ⟨M9,j1,j2,j3⟩:=OSl.frz (H:=(bw,rowO (ZQ.segs ⟨⟨⟨⟨Za,Zb⟩,⟨Zc,Zh⟩,⟨Zj,Zi,Zg⟩,⟨Zf,Ze,Zd⟩⟩,Zq,Zu,ZF,Zx,(nxR ZN),ZC,ZA,Zw,Zr,to,(nxR ZN),Zz,⟨Zt,Zs,Zl⟩,ZE,ZG⟩,⟨o9a,o9c,o9l⟩⟩) 68)::H) (show OSl _ _ (.slice ad0 Zl.length cp0) hs0 (Zl.map (oneI .i64)) from ho0) (hw.c)
  refine ⟨_,M9,_,rfl,hm2.trans j1,j2,rfl,⟨⟨⟨Za,Zb⟩,⟨Zc,Zh⟩,⟨Zj,Zi,Zg⟩,⟨Zf,Ze,Zd⟩⟩,Zq,Zu,ZF,Zx,(nxR ZN),ZC,ZA,Zw,Zr,to,(nxR ZN),Zz,⟨Zt,Zs,Zl⟩,ZE,ZG⟩,⟨o9a,o9c,o9l⟩,rfl,rfl,?_,⟨(Yj.mono hm2).mono j1,(Ys.mono hm2).mono j1⟩,k9.mono j1,fun y hy=>?_⟩
  ·show sndl o9l=_
   rw [hl9];rfl
  ·simp only at hy
   rw [hl9] at hy
   obtain rfl:=List.mem_singleton.1 hy
   exact ⟨⟨j3,SlK.nil⟩⟩
end Go.Proofs.YtajmnjefajknoaaGreat
namespace Go.Proofs.YtajmnjefajknoaaGreat
open Go.Esp
theorem F.ok108:okFn Tryz.prog 108=true:=by kernel_rfl
theorem shun_ok (M:Mem) (bw:Nat) (Za:Int) (Zb:Plc) (Zc:Int) (Zh:Plc) (Zj Zf Zt:Option Addr) (Zi Ze Zs:Nat) (Zg Zd:List ZD) (Zl:List Int) (Zq:Int) (Zu:Bool) (ZF Zx ZN ZC ZA Zw Zr Zy Zp:Int) (Zz:Plc) (ZE ZG:Int) (hav:Hp) (hA:OSl 3 1 (.slice Zt Zl.length Zs) hav (Zl.map (oneI .i64))) (hLa:Zl.length≤900) (a:Int):Fh Tryz.prog 84 [.pointer (some ⟨bw,0,none⟩),.int .i64 a] M ((bw,rowO (ZQ.segs ⟨⟨⟨⟨Za,Zb⟩,⟨Zc,Zh⟩,⟨Zj,Zi,Zg⟩,⟨Zf,Ze,Zd⟩⟩,Zq,Zu,ZF,Zx,ZN,ZC,ZA,Zw,Zr,Zy,Zp,Zz,⟨Zt,Zs,Zl⟩,ZE,ZG⟩,⟨none,0,[]⟩⟩) 68)::hav) (fun M' v Hout=>M'=M∧v=.tuple #[]∧∃ (s9:Sl Int) (hs9:Hp),Hout=(bw,rowO (ZQ.segs ⟨⟨⟨⟨Za,Zb⟩,⟨Zc,Zh⟩,⟨Zj,Zi,Zg⟩,⟨Zf,Ze,Zd⟩⟩,Zq,Zu,ZF,Zx,ZN,ZC,ZA,Zw,Zr,Zy,Zp,Zz,s9,ZE,ZG⟩,⟨none,0,[]⟩⟩) 68)::hs9∧OSl 3 1 s9.val hs9 (s9.l.map (oneI .i64))∧s9.l=VL Zl a):=by
  refine XP (fun H=>(bw,rowO (ZQ.segs ⟨⟨⟨⟨Za,Zb⟩,⟨Zc,Zh⟩,⟨Zj,Zi,Zg⟩,⟨Zf,Ze,Zd⟩⟩,Zq,Zu,ZF,Zx,ZN,ZC,ZA,Zw,Zr,Zy,Zp,Zz,⟨Zt,Zs,Zl⟩,ZE,ZG⟩,⟨none,0,[]⟩⟩) 68)::(hav++H)) (fun _=>by simp only [List.append_assoc,List.cons_append,List.nil_append]) Tryz.func84 rfl Tryz.ntmps84 rfl ?_;intro H
  refine ZI (Zm (l:=[0,1,2,3,4,5,6,7,8,9,10,11,12,13,14,15,16]) rfl ?_);refine Zv ?_;refine ZS ?_;refine Zk F.foff68_0 ?_;refine Zk F.foff32_13 ?_;refine ZH F.lay30 ?_;refine Zv ?_;refine X_fo rfl rfl F.ok103 rfl (ContainsI_rd M hav ⟨Zt,Zs,Zl⟩ a (OSl.rd hA _) (by show Zl.length≤9223372036854775807;omega)) (by repeat first|exact Rem.here _|exact Rem.two|apply Rem.skip|apply Rem.over) (YA rfl) ?_
  rintro _ M1 _ ⟨hM1,rfl⟩;subst M1
  refine Xx ?_;refine Zv ?_
  refine Yh 12 rfl (fun hc1=>?_) (fun hc1=>?_)
  ·replace hc1:=nT hc1
   simp only [ZD.eta,ZL.eta,ZO.eta,ZM.eta,Yd.eta,ZQ.eta,YI.eta,ZX.eta] at hc1
   refine Zv ?_;refine ZS ?_;refine Zk F.foff68_0 ?_;refine Zk F.foff32_13 ?_;refine ZH F.lay30 ?_;refine YX F.elem30 ?_;refine Yz ?_;refine ZK ?_;refine Zo (Zn (Y_pk [20,0,1] ?_))
   refine Yx rfl (fun hc2=>?_) (fun hc2=>?_)
   ·replace hc2:=dT hc2
    refine Zm (l:=[0,1,2,3,4,5,6,7,8,9,10,11,12]) rfl ?_
    iterate 2 refine Zv ?_
    refine ZS ?_;refine Zk F.foff68_0 ?_;refine Zk F.foff32_13 ?_;refine ZH F.lay30 ?_;refine Zv ?_
    refine XB rfl rfl F.elem30 F.zero3 rfl rfl (.cons rfl (by constructor) .nil) rfl rfl (by simp only [List.map_cons,List.map_nil] <;> rfl) rfl ?_;intro b3 hob4
    have hAm:=hA
    rw [show Zl.length=(Zl.map (oneI .i64)).length from (List.length_map ..).symm] at hAm
    refine Vm (m:=1000000) rfl rfl rfl rfl rfl F.elem30 F.zero3 (by rfl) rfl (by assumption) (by repeat first|exact Rem.here _|exact Rem.two|apply Rem.skip|apply Rem.over) (Src.own hob4.lens (by (refine rows_one1 ?_;(repeat (first|exact XA|refine XC ?_|(refine YF ?_ ?_;rfl)));done)) rfl (by repeat first|exact List.Mem.head _|refine List.Mem.tail _ ?_|refine List.mem_append_right _ ?_)) (by (simp;omega)) (by decide) rfl ?_;intro v7 hs6 ho5;obtain ⟨adv7,cpv7,rfl⟩:=ho5.valAt (n:=Zl.length+1) (by (simp;done))
    refine ZS ?_;refine Zk F.foff68_0 ?_;refine Zk F.foff32_13 ?_;refine Yi F.lay30 ?_;refine Zo ?_
    refine Ya (.inl rfl) (.nil) (fun w hw=>?_)
    have hln:Zl.length+1=(Zl++[a]).length:=by rw [List.length_append];rfl
    have h9:=ho5
    rw [hln] at hw h9
    refine ⟨_,M,(bw,rowO (ZQ.segs ⟨⟨⟨⟨Za,Zb⟩,⟨Zc,Zh⟩,⟨Zj,Zi,Zg⟩,⟨Zf,Ze,Zd⟩⟩,Zq,Zu,ZF,Zx,ZN,ZC,ZA,Zw,Zr,Zy,Zp,Zz,⟨adv7,cpv7,Zl++[a]⟩,ZE,ZG⟩,⟨none,0,[]⟩⟩) 68)::hs6,rfl,Mem.le.refl M,?_,rfl,rfl,⟨adv7,cpv7,Zl++[a]⟩,hs6,rfl,?_,?_⟩
    ·simp only [ZQ.segs,Sl.val,List.length_nil] at hw ⊢
     exact hw.c
    ·exact OSl.as9 h9 (by rw [List.map_append];rfl)
    ·show Zl++[a]=VL Zl a
     unfold VL
     rw [if_neg (by rintro (q1|q1) <;> first|contradiction|omega)]
   ·replace hc2:=dF hc2
    refine Yv ?_
    refine Ya (.inl rfl) (.nil) (fun w hw=>?_)
    refine ⟨_,M,(bw,rowO (ZQ.segs ⟨⟨⟨⟨Za,Zb⟩,⟨Zc,Zh⟩,⟨Zj,Zi,Zg⟩,⟨Zf,Ze,Zd⟩⟩,Zq,Zu,ZF,Zx,ZN,ZC,ZA,Zw,Zr,Zy,Zp,Zz,⟨Zt,Zs,Zl⟩,ZE,ZG⟩,⟨none,0,[]⟩⟩) 68)::hav,rfl,Mem.le.refl M,hw.c,rfl,rfl,⟨Zt,Zs,Zl⟩,hav,rfl,hA,?_⟩
    show Zl=VL Zl a
    unfold VL
    rw [if_pos (by exact .inr (by omega))]
  ·replace hc1:=nF hc1
   simp only [ZD.eta,ZL.eta,ZO.eta,ZM.eta,Yd.eta,ZQ.eta,YI.eta,ZX.eta] at hc1
   iterate 7 refine ZU ?_
   refine ZK ?_;refine Zo (Zn (Y_pk [20,0,1] ?_));refine Ws rfl ?_;refine Yv ?_
   refine Ya (.inl rfl) (.nil) (fun w hw=>?_)
   refine ⟨_,M,(bw,rowO (ZQ.segs ⟨⟨⟨⟨Za,Zb⟩,⟨Zc,Zh⟩,⟨Zj,Zi,Zg⟩,⟨Zf,Ze,Zd⟩⟩,Zq,Zu,ZF,Zx,ZN,ZC,ZA,Zw,Zr,Zy,Zp,Zz,⟨Zt,Zs,Zl⟩,ZE,ZG⟩,⟨none,0,[]⟩⟩) 68)::hav,rfl,Mem.le.refl M,hw.c,rfl,rfl,⟨Zt,Zs,Zl⟩,hav,rfl,hA,?_⟩
   show Zl=VL Zl a
   unfold VL
   rw [if_pos (by exact .inl (by assumption))]
theorem lostA_ok (M:Mem) (bw:Nat) (Za:Int) (Zb:Plc) (Zc:Int) (Zh:Plc) (Zj Zf Zt:Option Addr) (Zi Ze Zs:Nat) (Zg Zd:List ZD) (Zl:List Int) (Zq:Int) (Zu:Bool) (ZF Zx ZN ZC ZA Zw Zr Zy Zp:Int) (Zz:Plc) (ZE ZG:Int) (Yj:ZL.ok M ⟨⟨Za,Zb⟩,⟨Zc,Zh⟩,⟨Zj,Zi,Zg⟩,⟨Zf,Ze,Zd⟩⟩) (hbig:Zg.length≤40∧Zd.length≤200):Fh Tryz.prog 81 [.pointer (some ⟨bw,0,none⟩),.pointer (some ⟨bw,49,none⟩)] M [(bw,rowO (ZQ.segs ⟨⟨⟨⟨Za,Zb⟩,⟨Zc,Zh⟩,⟨Zj,Zi,Zg⟩,⟨Zf,Ze,Zd⟩⟩,Zq,Zu,ZF,Zx,ZN,ZC,ZA,Zw,Zr,Zy,Zp,Zz,⟨Zt,Zs,Zl⟩,ZE,ZG⟩,⟨none,0,[]⟩⟩) 68)] (fun M' v Hout=>v=.tuple #[]∧∃ (t9:ZL) (a9:Int),Hout=[(bw,rowO (ZQ.segs ⟨⟨t9,Zq,Zu,ZF,Zx,ZN,a9,ZA,Zw,Zr,Zy,Zp,Zz,⟨Zt,Zs,Zl⟩,ZE,ZG⟩,⟨none,0,[]⟩⟩) 68)]∧ZL.ok M' t9∧(t9.tb,a9)=VB (ZL.tb ⟨⟨Za,Zb⟩,⟨Zc,Zh⟩,⟨Zj,Zi,Zg⟩,⟨Zf,Ze,Zd⟩⟩) ZC):=by
  refine XP (fun H=>(bw,rowO (ZQ.segs ⟨⟨⟨⟨Za,Zb⟩,⟨Zc,Zh⟩,⟨Zj,Zi,Zg⟩,⟨Zf,Ze,Zd⟩⟩,Zq,Zu,ZF,Zx,ZN,ZC,ZA,Zw,Zr,Zy,Zp,Zz,⟨Zt,Zs,Zl⟩,ZE,ZG⟩,⟨none,0,[]⟩⟩) 68)::H) (fun _=>by simp only [List.append_assoc,List.cons_append,List.nil_append]) Tryz.func81 rfl Tryz.ntmps81 rfl ?_;intro H
  refine ZI (Zm (l:=[0,1,2,3]) rfl ?_);refine Zv ?_;refine ZS ?_;refine ZH F.lay3 ?_;refine Yz ?_;refine Zo (Zn (Y_pk [7,0,1] ?_))
  refine Yx rfl (fun hc1=>?_) (fun hc1=>?_)
  ·replace hc1:=nT hc1
   refine ZI (Yy (l:=[0,1,2,3,4,5,6,7,8,9,10,11,12,13]) #[0,0,2,6,14,30,0,64,192,510,1023,2047,4095,8191] _ rfl (by kernel_rfl) (by kernel_rfl) St.drawn (fun _ h=>h) ?_)
   iterate 2 refine Zv ?_
   refine ZS ?_;refine Zk F.foff68_0 ?_;refine Zk F.foff32_0 ?_;refine ZH F.lay28 ?_;refine Zv ?_;refine ZS ?_;refine ZH F.lay3 ?_;refine X_fn rfl rfl F.ok108 rfl (Forget_ok _ ⟨⟨Za,Zb⟩,⟨Zc,Zh⟩,⟨Zj,Zi,Zg⟩,⟨Zf,Ze,Zd⟩⟩ ZC Yj hbig) rfl ?_
   rintro _ M1 hm1 ⟨⟨⟨oa,oi⟩,⟨oq,oj⟩,⟨o1a,o1c,o1l⟩,⟨o2a,o2c,o2l⟩⟩,rfl,hot,okt⟩
   refine ZS ?_;refine Zk F.foff68_0 ?_;refine Zk F.foff32_0 ?_;refine Yi F.lay28 ?_;refine Zo (Zn (Y_pk [1] ?_));refine Zm (l:=[0,1,2]) rfl ?_;refine Zv ?_;refine ZS ?_;refine Yi F.lay3 ?_;refine Zo ?_
   refine Ya (.inl rfl) (.nil) (fun w hw=>?_)
   refine ⟨_,M1,[(bw,rowO (ZQ.segs ⟨⟨⟨⟨oa,oi⟩,⟨oq,oj⟩,⟨o1a,o1c,o1l⟩,⟨o2a,o2c,o2l⟩⟩,Zq,Zu,ZF,Zx,ZN,(-1),ZA,Zw,Zr,Zy,Zp,Zz,⟨Zt,Zs,Zl⟩,ZE,ZG⟩,⟨none,0,[]⟩⟩) 68)],rfl,hm1,hw.c,rfl,⟨⟨oa,oi⟩,⟨oq,oj⟩,⟨o1a,o1c,o1l⟩,⟨o2a,o2c,o2l⟩⟩,-1,rfl,okt,?_⟩
   unfold VB
   rw [if_pos (by omega),hot]
  ·replace hc1:=nF hc1
   refine Yv ?_
   refine Ya (.inl rfl) (.nil) (fun w hw=>?_)
   refine ⟨_,M,[(bw,rowO (ZQ.segs ⟨⟨⟨⟨Za,Zb⟩,⟨Zc,Zh⟩,⟨Zj,Zi,Zg⟩,⟨Zf,Ze,Zd⟩⟩,Zq,Zu,ZF,Zx,ZN,ZC,ZA,Zw,Zr,Zy,Zp,Zz,⟨Zt,Zs,Zl⟩,ZE,ZG⟩,⟨none,0,[]⟩⟩) 68)],rfl,Mem.le.refl M,hw.c,rfl,⟨⟨Za,Zb⟩,⟨Zc,Zh⟩,⟨Zj,Zi,Zg⟩,⟨Zf,Ze,Zd⟩⟩,ZC,rfl,Yj,?_⟩
   unfold VB
   rw [if_neg (by omega)]
theorem lostP_ok (M:Mem) (bw:Nat) (Za:Int) (Zb:Plc) (Zc:Int) (Zh:Plc) (Zj Zf Zt:Option Addr) (Zi Ze Zs:Nat) (Zg Zd:List ZD) (Zl:List Int) (Zq:Int) (Zu:Bool) (ZF Zx ZN ZC ZA Zw Zr Zy Zp:Int) (Zz:Plc) (ZE ZG:Int) (Yj:ZL.ok M ⟨⟨Za,Zb⟩,⟨Zc,Zh⟩,⟨Zj,Zi,Zg⟩,⟨Zf,Ze,Zd⟩⟩) (hbig:Zg.length≤40∧Zd.length≤200):Fh Tryz.prog 81 [.pointer (some ⟨bw,0,none⟩),.pointer (some ⟨bw,51,none⟩)] M [(bw,rowO (ZQ.segs ⟨⟨⟨⟨Za,Zb⟩,⟨Zc,Zh⟩,⟨Zj,Zi,Zg⟩,⟨Zf,Ze,Zd⟩⟩,Zq,Zu,ZF,Zx,ZN,ZC,ZA,Zw,Zr,Zy,Zp,Zz,⟨Zt,Zs,Zl⟩,ZE,ZG⟩,⟨none,0,[]⟩⟩) 68)] (fun M' v Hout=>v=.tuple #[]∧∃ (t9:ZL) (a9:Int),Hout=[(bw,rowO (ZQ.segs ⟨⟨t9,Zq,Zu,ZF,Zx,ZN,ZC,ZA,a9,Zr,Zy,Zp,Zz,⟨Zt,Zs,Zl⟩,ZE,ZG⟩,⟨none,0,[]⟩⟩) 68)]∧ZL.ok M' t9∧(t9.tb,a9)=VB (ZL.tb ⟨⟨Za,Zb⟩,⟨Zc,Zh⟩,⟨Zj,Zi,Zg⟩,⟨Zf,Ze,Zd⟩⟩) Zw):=by
  refine XP (fun H=>(bw,rowO (ZQ.segs ⟨⟨⟨⟨Za,Zb⟩,⟨Zc,Zh⟩,⟨Zj,Zi,Zg⟩,⟨Zf,Ze,Zd⟩⟩,Zq,Zu,ZF,Zx,ZN,ZC,ZA,Zw,Zr,Zy,Zp,Zz,⟨Zt,Zs,Zl⟩,ZE,ZG⟩,⟨none,0,[]⟩⟩) 68)::H) (fun _=>by simp only [List.append_assoc,List.cons_append,List.nil_append]) Tryz.func81 rfl Tryz.ntmps81 rfl ?_;intro H
  refine ZI (Zm (l:=[0,1,2,3]) rfl ?_);refine Zv ?_;refine ZS ?_;refine ZH F.lay3 ?_;refine Yz ?_;refine Zo (Zn (Y_pk [7,0,1] ?_))
  refine Yx rfl (fun hc1=>?_) (fun hc1=>?_)
  ·replace hc1:=nT hc1
   refine ZI (Yy (l:=[0,1,2,3,4,5,6,7,8,9,10,11,12,13]) #[0,0,2,6,14,30,0,64,192,510,1023,2047,4095,8191] _ rfl (by kernel_rfl) (by kernel_rfl) St.drawn (fun _ h=>h) ?_)
   iterate 2 refine Zv ?_
   refine ZS ?_;refine Zk F.foff68_0 ?_;refine Zk F.foff32_0 ?_;refine ZH F.lay28 ?_;refine Zv ?_;refine ZS ?_;refine ZH F.lay3 ?_;refine X_fn rfl rfl F.ok108 rfl (Forget_ok _ ⟨⟨Za,Zb⟩,⟨Zc,Zh⟩,⟨Zj,Zi,Zg⟩,⟨Zf,Ze,Zd⟩⟩ Zw Yj hbig) rfl ?_
   rintro _ M1 hm1 ⟨⟨⟨oa,oi⟩,⟨oq,oj⟩,⟨o1a,o1c,o1l⟩,⟨o2a,o2c,o2l⟩⟩,rfl,hot,okt⟩
   refine ZS ?_;refine Zk F.foff68_0 ?_;refine Zk F.foff32_0 ?_;refine Yi F.lay28 ?_;refine Zo (Zn (Y_pk [1] ?_));refine Zm (l:=[0,1,2]) rfl ?_;refine Zv ?_;refine ZS ?_;refine Yi F.lay3 ?_;refine Zo ?_
   refine Ya (.inl rfl) (.nil) (fun w hw=>?_)
   refine ⟨_,M1,[(bw,rowO (ZQ.segs ⟨⟨⟨⟨oa,oi⟩,⟨oq,oj⟩,⟨o1a,o1c,o1l⟩,⟨o2a,o2c,o2l⟩⟩,Zq,Zu,ZF,Zx,ZN,ZC,ZA,(-1),Zr,Zy,Zp,Zz,⟨Zt,Zs,Zl⟩,ZE,ZG⟩,⟨none,0,[]⟩⟩) 68)],rfl,hm1,hw.c,rfl,⟨⟨oa,oi⟩,⟨oq,oj⟩,⟨o1a,o1c,o1l⟩,⟨o2a,o2c,o2l⟩⟩,-1,rfl,okt,?_⟩
   unfold VB
   rw [if_pos (by omega),hot]
  ·replace hc1:=nF hc1
   refine Yv ?_
   refine Ya (.inl rfl) (.nil) (fun w hw=>?_)
   refine ⟨_,M,[(bw,rowO (ZQ.segs ⟨⟨⟨⟨Za,Zb⟩,⟨Zc,Zh⟩,⟨Zj,Zi,Zg⟩,⟨Zf,Ze,Zd⟩⟩,Zq,Zu,ZF,Zx,ZN,ZC,ZA,Zw,Zr,Zy,Zp,Zz,⟨Zt,Zs,Zl⟩,ZE,ZG⟩,⟨none,0,[]⟩⟩) 68)],rfl,Mem.le.refl M,hw.c,rfl,⟨⟨Za,Zb⟩,⟨Zc,Zh⟩,⟨Zj,Zi,Zg⟩,⟨Zf,Ze,Zd⟩⟩,Zw,rfl,Yj,?_⟩
   unfold VB
   rw [if_neg (by omega)]
theorem lostF_ok (M:Mem) (bw:Nat) (Za:Int) (Zb:Plc) (Zc:Int) (Zh:Plc) (Zj Zf Zt:Option Addr) (Zi Ze Zs:Nat) (Zg Zd:List ZD) (Zl:List Int) (Zq:Int) (Zu:Bool) (ZF Zx ZN ZC ZA Zw Zr Zy Zp:Int) (Zz:Plc) (ZE ZG:Int) (Yj:ZL.ok M ⟨⟨Za,Zb⟩,⟨Zc,Zh⟩,⟨Zj,Zi,Zg⟩,⟨Zf,Ze,Zd⟩⟩) (hbig:Zg.length≤40∧Zd.length≤200):Fh Tryz.prog 81 [.pointer (some ⟨bw,0,none⟩),.pointer (some ⟨bw,53,none⟩)] M [(bw,rowO (ZQ.segs ⟨⟨⟨⟨Za,Zb⟩,⟨Zc,Zh⟩,⟨Zj,Zi,Zg⟩,⟨Zf,Ze,Zd⟩⟩,Zq,Zu,ZF,Zx,ZN,ZC,ZA,Zw,Zr,Zy,Zp,Zz,⟨Zt,Zs,Zl⟩,ZE,ZG⟩,⟨none,0,[]⟩⟩) 68)] (fun M' v Hout=>v=.tuple #[]∧∃ (t9:ZL) (a9:Int),Hout=[(bw,rowO (ZQ.segs ⟨⟨t9,Zq,Zu,ZF,Zx,ZN,ZC,ZA,Zw,Zr,a9,Zp,Zz,⟨Zt,Zs,Zl⟩,ZE,ZG⟩,⟨none,0,[]⟩⟩) 68)]∧ZL.ok M' t9∧(t9.tb,a9)=VB (ZL.tb ⟨⟨Za,Zb⟩,⟨Zc,Zh⟩,⟨Zj,Zi,Zg⟩,⟨Zf,Ze,Zd⟩⟩) Zy):=by
  refine XP (fun H=>(bw,rowO (ZQ.segs ⟨⟨⟨⟨Za,Zb⟩,⟨Zc,Zh⟩,⟨Zj,Zi,Zg⟩,⟨Zf,Ze,Zd⟩⟩,Zq,Zu,ZF,Zx,ZN,ZC,ZA,Zw,Zr,Zy,Zp,Zz,⟨Zt,Zs,Zl⟩,ZE,ZG⟩,⟨none,0,[]⟩⟩) 68)::H) (fun _=>by simp only [List.append_assoc,List.cons_append,List.nil_append]) Tryz.func81 rfl Tryz.ntmps81 rfl ?_;intro H
  refine ZI (Zm (l:=[0,1,2,3]) rfl ?_);refine Zv ?_;refine ZS ?_;refine ZH F.lay3 ?_;refine Yz ?_;refine Zo (Zn (Y_pk [7,0,1] ?_))
  refine Yx rfl (fun hc1=>?_) (fun hc1=>?_)
  ·replace hc1:=nT hc1
   refine ZI (Yy (l:=[0,1,2,3,4,5,6,7,8,9,10,11,12,13]) #[0,0,2,6,14,30,0,64,192,510,1023,2047,4095,8191] _ rfl (by kernel_rfl) (by kernel_rfl) St.drawn (fun _ h=>h) ?_)
   iterate 2 refine Zv ?_
   refine ZS ?_;refine Zk F.foff68_0 ?_;refine Zk F.foff32_0 ?_;refine ZH F.lay28 ?_;refine Zv ?_;refine ZS ?_;refine ZH F.lay3 ?_;refine X_fn rfl rfl F.ok108 rfl (Forget_ok _ ⟨⟨Za,Zb⟩,⟨Zc,Zh⟩,⟨Zj,Zi,Zg⟩,⟨Zf,Ze,Zd⟩⟩ Zy Yj hbig) rfl ?_
   rintro _ M1 hm1 ⟨⟨⟨oa,oi⟩,⟨oq,oj⟩,⟨o1a,o1c,o1l⟩,⟨o2a,o2c,o2l⟩⟩,rfl,hot,okt⟩
   refine ZS ?_;refine Zk F.foff68_0 ?_;refine Zk F.foff32_0 ?_;refine Yi F.lay28 ?_;refine Zo (Zn (Y_pk [1] ?_));refine Zm (l:=[0,1,2]) rfl ?_;refine Zv ?_;refine ZS ?_;refine Yi F.lay3 ?_;refine Zo ?_
   refine Ya (.inl rfl) (.nil) (fun w hw=>?_)
   refine ⟨_,M1,[(bw,rowO (ZQ.segs ⟨⟨⟨⟨oa,oi⟩,⟨oq,oj⟩,⟨o1a,o1c,o1l⟩,⟨o2a,o2c,o2l⟩⟩,Zq,Zu,ZF,Zx,ZN,ZC,ZA,Zw,Zr,(-1),Zp,Zz,⟨Zt,Zs,Zl⟩,ZE,ZG⟩,⟨none,0,[]⟩⟩) 68)],rfl,hm1,hw.c,rfl,⟨⟨oa,oi⟩,⟨oq,oj⟩,⟨o1a,o1c,o1l⟩,⟨o2a,o2c,o2l⟩⟩,-1,rfl,okt,?_⟩
   unfold VB
   rw [if_pos (by omega),hot]
  ·replace hc1:=nF hc1
   refine Yv ?_
   refine Ya (.inl rfl) (.nil) (fun w hw=>?_)
   refine ⟨_,M,[(bw,rowO (ZQ.segs ⟨⟨⟨⟨Za,Zb⟩,⟨Zc,Zh⟩,⟨Zj,Zi,Zg⟩,⟨Zf,Ze,Zd⟩⟩,Zq,Zu,ZF,Zx,ZN,ZC,ZA,Zw,Zr,Zy,Zp,Zz,⟨Zt,Zs,Zl⟩,ZE,ZG⟩,⟨none,0,[]⟩⟩) 68)],rfl,Mem.le.refl M,hw.c,rfl,⟨⟨Za,Zb⟩,⟨Zc,Zh⟩,⟨Zj,Zi,Zg⟩,⟨Zf,Ze,Zd⟩⟩,Zy,rfl,Yj,?_⟩
   unfold VB
   rw [if_neg (by omega)]
end Go.Proofs.YtajmnjefajknoaaGreat
namespace Go.Proofs.YtajmnjefajknoaaGreat
open Go.Esp
theorem F.ok124:okFn Tryz.prog 124=true:=by kernel_rfl
theorem F.ok125:okFn Tryz.prog 125=true:=by kernel_rfl
theorem adopt_ok (M:Mem) (bw:Nat) (Za:Int) (Zb:Plc) (Zc:Int) (Zh:Plc) (Zj Zf Zt:Option Addr) (Zi Ze Zs:Nat) (Zg Zd:List ZD) (Zl:List Int) (Zq:Int) (Zu:Bool) (ZF Zx ZN ZC ZA Zw Zr Zy Zp:Int) (Zz:Plc) (ZE ZG:Int) (Yj:ZL.ok M ⟨⟨Za,Zb⟩,⟨Zc,Zh⟩,⟨Zj,Zi,Zg⟩,⟨Zf,Ze,Zd⟩⟩) (p:ZD) (q:Sl ZD) (k_q:SlK M ZD.segs 21 q):Fh Tryz.prog 82 [.pointer (some ⟨bw,0,none⟩),p.enc,q.val] M [(bw,rowO (ZQ.segs ⟨⟨⟨⟨Za,Zb⟩,⟨Zc,Zh⟩,⟨Zj,Zi,Zg⟩,⟨Zf,Ze,Zd⟩⟩,Zq,Zu,ZF,Zx,ZN,ZC,ZA,Zw,Zr,Zy,Zp,Zz,⟨Zt,Zs,Zl⟩,ZE,ZG⟩,⟨none,0,[]⟩⟩) 68)] (fun M' v Hout=>v=.tuple #[]∧∃ (t9:ZL),Hout=[(bw,rowO (ZQ.segs ⟨⟨t9,Zq,Zu,ZF,Zx,ZN,ZC,ZA,Zw,Zr,Zy,Zp,Zz,⟨Zt,Zs,Zl⟩,ZE,ZG⟩,⟨none,0,[]⟩⟩) 68)]∧ZL.ok M' t9∧ZO.nd ⟨t9,Zq,Zu,ZF,Zx,ZN,ZC,ZA,Zw,Zr,Zy,Zp,Zz,⟨Zt,Zs,Zl⟩,ZE,ZG⟩=WF (ZO.nd ⟨⟨⟨Za,Zb⟩,⟨Zc,Zh⟩,⟨Zj,Zi,Zg⟩,⟨Zf,Ze,Zd⟩⟩,Zq,Zu,ZF,Zx,ZN,ZC,ZA,Zw,Zr,Zy,Zp,Zz,⟨Zt,Zs,Zl⟩,ZE,ZG⟩) p q.l):=by
  obtain ⟨Xc,p_id⟩:=p
  obtain ⟨q_a,q_c,q_l⟩:=q
  refine XP (fun H=>(bw,rowO (ZQ.segs ⟨⟨⟨⟨Za,Zb⟩,⟨Zc,Zh⟩,⟨Zj,Zi,Zg⟩,⟨Zf,Ze,Zd⟩⟩,Zq,Zu,ZF,Zx,ZN,ZC,ZA,Zw,Zr,Zy,Zp,Zz,⟨Zt,Zs,Zl⟩,ZE,ZG⟩,⟨none,0,[]⟩⟩) 68)::H) (fun _=>by simp only [List.append_assoc,List.cons_append,List.nil_append]) Tryz.func82 rfl Tryz.ntmps82 rfl ?_;intro H
  refine ZI (Zm (l:=[0]) rfl ?_)
  refine Xk ?_;intro b1
  refine Zo (Zn (Y_pk [4,0,2] ?_));refine ZI (Yy (l:=[0,1,2,3,4,5,6,7,8,9,10,11,12,13,14,15,16,17,18]) #[0,1,3,7,15,0,0,0,128,384,896,1920,4095,8191,16383,16383,0,98303,262143] _ rfl (by kernel_rfl) (by kernel_rfl) St.drawn (fun _ h=>h) ?_);refine Zv ?_;refine ZS ?_;refine Zk F.foff68_0 ?_;refine Zk F.foff32_0 ?_;refine ZH F.lay28 ?_;refine ZH F.lay25 ?_
  iterate 2 refine Zv ?_
  refine ZS ?_;refine Zk F.foff68_0 ?_;refine Zk F.foff32_1 ?_;refine ZH F.lay3 ?_;refine X_fn rfl rfl F.ok124 rfl (Adopt_ok _ ⟨⟨Za,Zb⟩,⟨Zc,Zh⟩,⟨Zj,Zi,Zg⟩,⟨Zf,Ze,Zd⟩⟩ ⟨Xc,p_id⟩ ⟨q_a,q_c,q_l⟩ Zq Yj k_q) rfl ?_
  rintro _ M1 hm1 hv
  replace hv:TabE _ _ (Vz (ZL.tb ⟨⟨Za,Zb⟩,⟨Zc,Zh⟩,⟨Zj,Zi,Zg⟩,⟨Zf,Ze,Zd⟩⟩) ⟨Xc,p_id⟩ q_l Zq):=hv
  obtain ⟨⟨A1,A2⟩,hA⟩:∃ x,Vz (ZL.tb ⟨⟨Za,Zb⟩,⟨Zc,Zh⟩,⟨Zj,Zi,Zg⟩,⟨Zf,Ze,Zd⟩⟩) ⟨Xc,p_id⟩ q_l Zq=x:=⟨_,rfl⟩
  rw [hA] at hv
  obtain ⟨_,rfl,⟨⟨oa,oi⟩,⟨oq,oj⟩,⟨o1a,o1c,o1l⟩,⟨o2a,o2c,o2l⟩⟩,rfl,hot,oko⟩:=hv
  simp only at hot
  refine Zv ?_
  iterate 2 refine Xz ?_
  refine YT F.zero28 ?_;intro b2
  refine Yi F.lay28 ?_;refine ZB ?_;refine Zo (Zn (Y_pk [7,6,0] ?_));refine ZI (Zm (l:=[0,1]) rfl ?_);refine Zv ?_;refine Yz ?_;refine Zo (Zn (Y_pk [25,6,0] ?_))
  refine Yx rfl (fun hc3=>?_) (fun hc3=>?_)
  ·replace hc3:=dT hc3
   simp only [ZD.eta,ZL.eta,ZO.eta,ZM.eta,Yd.eta,ZQ.eta,YI.eta,ZX.eta] at hc3
   refine Zm (l:=[0,1,2,3,4,5]) rfl ?_;refine Zv ?_;refine ZH F.lay28 ?_;refine ZS ?_;refine Zk F.foff68_0 ?_;refine Zk F.foff32_0 ?_;refine Yi F.lay28 ?_;refine Zo ?_
   refine Ya (.inl rfl) (.nil) (fun w hw=>?_)
   refine ⟨_,M1,[(bw,rowO (ZQ.segs ⟨⟨⟨⟨oa,oi⟩,⟨oq,oj⟩,⟨o1a,o1c,o1l⟩,⟨o2a,o2c,o2l⟩⟩,Zq,Zu,ZF,Zx,ZN,ZC,ZA,Zw,Zr,Zy,Zp,Zz,⟨Zt,Zs,Zl⟩,ZE,ZG⟩,⟨none,0,[]⟩⟩) 68)],rfl,hm1,hw.c,rfl,⟨⟨oa,oi⟩,⟨oq,oj⟩,⟨o1a,o1c,o1l⟩,⟨o2a,o2c,o2l⟩⟩,rfl,oko,?_⟩
   show _=WF (ZO.nd ⟨⟨⟨Za,Zb⟩,⟨Zc,Zh⟩,⟨Zj,Zi,Zg⟩,⟨Zf,Ze,Zd⟩⟩,Zq,Zu,ZF,Zx,ZN,ZC,ZA,Zw,Zr,Zy,Zp,Zz,⟨Zt,Zs,Zl⟩,ZE,ZG⟩) ⟨Xc,p_id⟩ q_l
   unfold WF
   rw [show Vz (ZO.nd ⟨⟨⟨Za,Zb⟩,⟨Zc,Zh⟩,⟨Zj,Zi,Zg⟩,⟨Zf,Ze,Zd⟩⟩,Zq,Zu,ZF,Zx,ZN,ZC,ZA,Zw,Zr,Zy,Zp,Zz,⟨Zt,Zs,Zl⟩,ZE,ZG⟩).table ⟨Xc,p_id⟩ q_l (ZO.nd ⟨⟨⟨Za,Zb⟩,⟨Zc,Zh⟩,⟨Zj,Zi,Zg⟩,⟨Zf,Ze,Zd⟩⟩,Zq,Zu,ZF,Zx,ZN,ZC,ZA,Zw,Zr,Zy,Zp,Zz,⟨Zt,Zs,Zl⟩,ZE,ZG⟩).copies=_ from hA]
   rw [if_pos (by show A2=0;omega),← hot];rfl
  ·replace hc3:=dF hc3
   simp only [ZD.eta,ZL.eta,ZO.eta,ZM.eta,Yd.eta,ZQ.eta,YI.eta,ZX.eta] at hc3
   refine Yv ?_
   refine Ya (.inl rfl) (.nil) (fun w hw=>?_)
   refine ⟨_,M1,[(bw,rowO (ZQ.segs ⟨⟨⟨⟨Za,Zb⟩,⟨Zc,Zh⟩,⟨Zj,Zi,Zg⟩,⟨Zf,Ze,Zd⟩⟩,Zq,Zu,ZF,Zx,ZN,ZC,ZA,Zw,Zr,Zy,Zp,Zz,⟨Zt,Zs,Zl⟩,ZE,ZG⟩,⟨none,0,[]⟩⟩) 68)],rfl,hm1,hw.c,rfl,⟨⟨Za,Zb⟩,⟨Zc,Zh⟩,⟨Zj,Zi,Zg⟩,⟨Zf,Ze,Zd⟩⟩,rfl,Yj.mono hm1,?_⟩
   show _=WF (ZO.nd ⟨⟨⟨Za,Zb⟩,⟨Zc,Zh⟩,⟨Zj,Zi,Zg⟩,⟨Zf,Ze,Zd⟩⟩,Zq,Zu,ZF,Zx,ZN,ZC,ZA,Zw,Zr,Zy,Zp,Zz,⟨Zt,Zs,Zl⟩,ZE,ZG⟩) ⟨Xc,p_id⟩ q_l
   unfold WF
   rw [show Vz (ZO.nd ⟨⟨⟨Za,Zb⟩,⟨Zc,Zh⟩,⟨Zj,Zi,Zg⟩,⟨Zf,Ze,Zd⟩⟩,Zq,Zu,ZF,Zx,ZN,ZC,ZA,Zw,Zr,Zy,Zp,Zz,⟨Zt,Zs,Zl⟩,ZE,ZG⟩).table ⟨Xc,p_id⟩ q_l (ZO.nd ⟨⟨⟨Za,Zb⟩,⟨Zc,Zh⟩,⟨Zj,Zi,Zg⟩,⟨Zf,Ze,Zd⟩⟩,Zq,Zu,ZF,Zx,ZN,ZC,ZA,Zw,Zr,Zy,Zp,Zz,⟨Zt,Zs,Zl⟩,ZE,ZG⟩).copies=_ from hA]
   rw [if_neg (by show ¬A2=0;omega)]
theorem point_ok (M:Mem) (bw:Nat) (Za:Int) (Zb:Plc) (Zc:Int) (Zh:Plc) (Zj Zf Zt:Option Addr) (Zi Ze Zs:Nat) (Zg Zd:List ZD) (Zl:List Int) (Zq:Int) (Zu:Bool) (ZF Zx ZN ZC ZA Zw Zr Zy Zp:Int) (Zz:Plc) (ZE ZG:Int) (Yj:ZL.ok M ⟨⟨Za,Zb⟩,⟨Zc,Zh⟩,⟨Zj,Zi,Zg⟩,⟨Zf,Ze,Zd⟩⟩) (p:ZD):Fh Tryz.prog 87 [.pointer (some ⟨bw,0,none⟩),p.enc] M [(bw,rowO (ZQ.segs ⟨⟨⟨⟨Za,Zb⟩,⟨Zc,Zh⟩,⟨Zj,Zi,Zg⟩,⟨Zf,Ze,Zd⟩⟩,Zq,Zu,ZF,Zx,ZN,ZC,ZA,Zw,Zr,Zy,Zp,Zz,⟨Zt,Zs,Zl⟩,ZE,ZG⟩,⟨none,0,[]⟩⟩) 68)] (fun M' v Hout=>v=.tuple #[]∧∃ (t9:ZL) (c9:Int),Hout=[(bw,rowO (ZQ.segs ⟨⟨t9,Zq,Zu,ZF,c9,ZN,ZC,ZA,Zw,Zr,Zy,Zp,Zz,⟨Zt,Zs,Zl⟩,ZE,ZG⟩,⟨none,0,[]⟩⟩) 68)]∧ZL.ok M' t9∧ZO.nd ⟨t9,Zq,Zu,ZF,c9,ZN,ZC,ZA,Zw,Zr,Zy,Zp,Zz,⟨Zt,Zs,Zl⟩,ZE,ZG⟩=VR (ZO.nd ⟨⟨⟨Za,Zb⟩,⟨Zc,Zh⟩,⟨Zj,Zi,Zg⟩,⟨Zf,Ze,Zd⟩⟩,Zq,Zu,ZF,Zx,ZN,ZC,ZA,Zw,Zr,Zy,Zp,Zz,⟨Zt,Zs,Zl⟩,ZE,ZG⟩) p):=by
  obtain ⟨Xc,p_id⟩:=p
  refine XP (fun H=>(bw,rowO (ZQ.segs ⟨⟨⟨⟨Za,Zb⟩,⟨Zc,Zh⟩,⟨Zj,Zi,Zg⟩,⟨Zf,Ze,Zd⟩⟩,Zq,Zu,ZF,Zx,ZN,ZC,ZA,Zw,Zr,Zy,Zp,Zz,⟨Zt,Zs,Zl⟩,ZE,ZG⟩,⟨none,0,[]⟩⟩) 68)::H) (fun _=>by simp only [List.append_assoc,List.cons_append,List.nil_append]) Tryz.func87 rfl Tryz.ntmps87 rfl ?_;intro H
  refine ZI (Zm (l:=[0]) rfl ?_)
  refine Xk ?_;intro b1
  refine Zo (Zn (Y_pk [3,0] ?_));refine ZI (Yy (l:=[0,1,2,3,4,5,6,7,8,9,10,11,12,13,14,15,16,17,18,19]) #[0,1,3,7,15,0,32,96,224,480,0,2047,4095,8191,8191,8191,0,81919,229375,524287] _ rfl (by kernel_rfl) (by kernel_rfl) St.drawn (fun _ h=>h) ?_);refine Zv ?_;refine ZS ?_;refine Zk F.foff68_0 ?_;refine Zk F.foff32_0 ?_;refine ZH F.lay28 ?_;refine Zv ?_;refine ZS ?_;refine Zk F.foff68_0 ?_;refine Zk F.foff32_4 ?_;refine ZH F.lay3 ?_;refine ZH F.lay25 ?_;refine X_fn rfl rfl F.ok125 rfl (Point_ok _ ⟨⟨Za,Zb⟩,⟨Zc,Zh⟩,⟨Zj,Zi,Zg⟩,⟨Zf,Ze,Zd⟩⟩ Zx ⟨Xc,p_id⟩ Yj) rfl ?_
  rintro _ M1 hm1 hv
  replace hv:TabPE _ _ (WZ (ZL.tb ⟨⟨Za,Zb⟩,⟨Zc,Zh⟩,⟨Zj,Zi,Zg⟩,⟨Zf,Ze,Zd⟩⟩) Zx ⟨Xc,p_id⟩):=hv
  obtain ⟨⟨A1,A2,A3⟩,hA⟩:∃ x,WZ (ZL.tb ⟨⟨Za,Zb⟩,⟨Zc,Zh⟩,⟨Zj,Zi,Zg⟩,⟨Zf,Ze,Zd⟩⟩) Zx ⟨Xc,p_id⟩=x:=⟨_,rfl⟩
  rw [hA] at hv
  obtain ⟨_,rfl,⟨⟨oa,oi⟩,⟨oq,oj⟩,⟨o1a,o1c,o1l⟩,⟨o2a,o2c,o2l⟩⟩,rfl,hot,oko⟩:=hv
  simp only at hot
  refine Zv ?_
  iterate 3 refine Xz ?_
  refine YT F.zero28 ?_;intro b2
  refine Yi F.lay28 ?_
  iterate 2 refine ZB ?_
  refine Zo (Zn (Y_pk [6,5,4,0] ?_));refine ZI (Zm (l:=[0,1]) rfl ?_);refine Zv ?_;refine Yz ?_;refine Zo (Zn (Y_pk [24,5,4,0] ?_))
  refine Yx rfl (fun hc3=>?_) (fun hc3=>?_)
  ·replace hc3:=dT hc3
   simp only [ZD.eta,ZL.eta,ZO.eta,ZM.eta,Yd.eta,ZQ.eta,YI.eta,ZX.eta] at hc3
   refine Zm (l:=[0,1,2,3,4,5,6,7,8,9,10,11]) rfl ?_
   iterate 2 refine Zv ?_
   refine ZH F.lay28 ?_;refine Zv ?_;refine ZS ?_;refine Zk F.foff68_0 ?_;refine Zk F.foff32_0 ?_;refine Yi F.lay28 ?_;refine ZS ?_;refine Zk F.foff68_0 ?_;refine Zk F.foff32_4 ?_;refine Yi F.lay3 ?_;refine Zo ?_
   refine Ya (.inl rfl) (.nil) (fun w hw=>?_)
   refine ⟨_,M1,[(bw,rowO (ZQ.segs ⟨⟨⟨⟨oa,oi⟩,⟨oq,oj⟩,⟨o1a,o1c,o1l⟩,⟨o2a,o2c,o2l⟩⟩,Zq,Zu,ZF,A2,ZN,ZC,ZA,Zw,Zr,Zy,Zp,Zz,⟨Zt,Zs,Zl⟩,ZE,ZG⟩,⟨none,0,[]⟩⟩) 68)],rfl,hm1,hw.c,rfl,⟨⟨oa,oi⟩,⟨oq,oj⟩,⟨o1a,o1c,o1l⟩,⟨o2a,o2c,o2l⟩⟩,A2,rfl,oko,?_⟩
   show _=VR (ZO.nd ⟨⟨⟨Za,Zb⟩,⟨Zc,Zh⟩,⟨Zj,Zi,Zg⟩,⟨Zf,Ze,Zd⟩⟩,Zq,Zu,ZF,Zx,ZN,ZC,ZA,Zw,Zr,Zy,Zp,Zz,⟨Zt,Zs,Zl⟩,ZE,ZG⟩) ⟨Xc,p_id⟩
   unfold VR
   rw [show WZ (ZO.nd ⟨⟨⟨Za,Zb⟩,⟨Zc,Zh⟩,⟨Zj,Zi,Zg⟩,⟨Zf,Ze,Zd⟩⟩,Zq,Zu,ZF,Zx,ZN,ZC,ZA,Zw,Zr,Zy,Zp,Zz,⟨Zt,Zs,Zl⟩,ZE,ZG⟩).table (ZO.nd ⟨⟨⟨Za,Zb⟩,⟨Zc,Zh⟩,⟨Zj,Zi,Zg⟩,⟨Zf,Ze,Zd⟩⟩,Zq,Zu,ZF,Zx,ZN,ZC,ZA,Zw,Zr,Zy,Zp,Zz,⟨Zt,Zs,Zl⟩,ZE,ZG⟩).cursor ⟨Xc,p_id⟩=_ from hA]
   rw [if_pos (by show A3=0;omega),← hot];rfl
  ·replace hc3:=dF hc3
   simp only [ZD.eta,ZL.eta,ZO.eta,ZM.eta,Yd.eta,ZQ.eta,YI.eta,ZX.eta] at hc3
   refine Yv ?_
   refine Ya (.inl rfl) (.nil) (fun w hw=>?_)
   refine ⟨_,M1,[(bw,rowO (ZQ.segs ⟨⟨⟨⟨Za,Zb⟩,⟨Zc,Zh⟩,⟨Zj,Zi,Zg⟩,⟨Zf,Ze,Zd⟩⟩,Zq,Zu,ZF,Zx,ZN,ZC,ZA,Zw,Zr,Zy,Zp,Zz,⟨Zt,Zs,Zl⟩,ZE,ZG⟩,⟨none,0,[]⟩⟩) 68)],rfl,hm1,hw.c,rfl,⟨⟨Za,Zb⟩,⟨Zc,Zh⟩,⟨Zj,Zi,Zg⟩,⟨Zf,Ze,Zd⟩⟩,Zx,rfl,Yj.mono hm1,?_⟩
   show _=VR (ZO.nd ⟨⟨⟨Za,Zb⟩,⟨Zc,Zh⟩,⟨Zj,Zi,Zg⟩,⟨Zf,Ze,Zd⟩⟩,Zq,Zu,ZF,Zx,ZN,ZC,ZA,Zw,Zr,Zy,Zp,Zz,⟨Zt,Zs,Zl⟩,ZE,ZG⟩) ⟨Xc,p_id⟩
   unfold VR
   rw [show WZ (ZO.nd ⟨⟨⟨Za,Zb⟩,⟨Zc,Zh⟩,⟨Zj,Zi,Zg⟩,⟨Zf,Ze,Zd⟩⟩,Zq,Zu,ZF,Zx,ZN,ZC,ZA,Zw,Zr,Zy,Zp,Zz,⟨Zt,Zs,Zl⟩,ZE,ZG⟩).table (ZO.nd ⟨⟨⟨Za,Zb⟩,⟨Zc,Zh⟩,⟨Zj,Zi,Zg⟩,⟨Zf,Ze,Zd⟩⟩,Zq,Zu,ZF,Zx,ZN,ZC,ZA,Zw,Zr,Zy,Zp,Zz,⟨Zt,Zs,Zl⟩,ZE,ZG⟩).cursor ⟨Xc,p_id⟩=_ from hA]
   rw [if_neg (by show ¬A3=0;omega)]
theorem wother_ok (M:Mem) (bw:Nat) (Za:Int) (Zb:Plc) (Zc:Int) (Zh:Plc) (Zj Zf Zt:Option Addr) (Zi Ze Zs:Nat) (Zg Zd:List ZD) (Zl:List Int) (Zq:Int) (Zu:Bool) (ZF Zx ZN ZC ZA Zw Zr Zy Zp:Int) (Zz:Plc) (ZE ZG:Int) (p:ZD):Fo Tryz.prog 53 [.pointer (some ⟨bw,0,none⟩),p.enc] M [(bw,rowO (ZQ.segs ⟨⟨⟨⟨Za,Zb⟩,⟨Zc,Zh⟩,⟨Zj,Zi,Zg⟩,⟨Zf,Ze,Zd⟩⟩,Zq,Zu,ZF,Zx,ZN,ZC,ZA,Zw,Zr,Zy,Zp,Zz,⟨Zt,Zs,Zl⟩,ZE,ZG⟩,⟨none,0,[]⟩⟩) 68)] (fun M' v=>M'=M∧v=.bool (decide (Xr ⟨Za,Zb⟩ p))):=by
  obtain ⟨Xc,p_id⟩:=p
  refine WT Tryz.func53 rfl Tryz.ntmps53 rfl ?_;intro H
  refine ZI (Zm (l:=[0,1]) rfl ?_)
  refine Xk ?_;intro b1
  refine ZB ?_;refine Zo (Zn (Y_pk [4,3,0] ?_));refine ZI (Zm (l:=[0,1,2,3,4,5,6,7]) rfl ?_);refine Zv ?_;refine ZS ?_;refine Zk F.foff68_0 ?_;refine Zk F.foff32_0 ?_;refine Zk F.foff28_0 ?_;refine ZH F.lay25 ?_
  refine YT F.zero25 ?_;intro b2
  refine Yi F.lay25 ?_;refine Zo (Zn (Y_pk [5,4,3] ?_));refine ZI (Zm (l:=[0,1,2,3,4,5,6,7,8,9,10,11,12,13,14,15,16,17,18,19,20,21,22]) rfl ?_);refine Zk F.foff25_0 ?_;refine ZH F.lay3 ?_;refine Yz ?_;refine Zv ?_
  refine Yh 15 rfl (fun hc3=>?_) (fun hc3=>?_)
  ·replace hc3:=dT hc3
   refine Zk F.foff25_0 ?_;refine ZH F.lay3 ?_;refine Yz ?_;refine ZK ?_;refine Zv ?_
   refine Yh 20 rfl (fun hc4=>?_) (fun hc4=>?_)
   ·replace hc4:=dT hc4
    refine Zk F.foff25_0 ?_;refine ZH F.lay3 ?_;refine Zk F.foff25_0 ?_;refine ZH F.lay3 ?_;refine Yz ?_;refine ZK ?_;refine Zv ?_
    refine Yh 27 rfl (fun hc5=>?_) (fun hc5=>?_)
    ·replace hc5:=nT hc5
     refine Zk F.foff25_1 ?_;refine ZH F.lay23 ?_;refine Zk F.foff25_1 ?_;refine ZH F.lay23 ?_
     refine Wf (m:=20) rfl rfl rfl rfl rfl (by constructor) (by constructor) F.lay23 F.kinds23 rfl F.guard23 (Vg WE) (Vg WE) rfl rfl rfl ?_;intro c6 he7
     replace he7:c6=true↔¬(Segs.cells _=Segs.cells _):=he7
     obtain rfl:=neD he7 (cells_id1 (x:=_) (y:=_));clear he7
     refine ZK ?_;refine ZB ?_;refine Zo (Zn (Y_pk [4] ?_));refine Yg ?_
     refine Ya (.inr rfl) (.tmp rfl .nil) (fun w hw=>?_)
     refine ⟨_,M,rfl,Mem.le.refl M,hw.c,rfl,?_⟩
     clear hw
     refine congrArg Value.bool ?_
     (simp_all [Xr,YH];done)
    ·replace hc5:=nF hc5
     iterate 5 refine ZU ?_
     refine ZK ?_;refine ZB ?_;refine Zo (Zn (Y_pk [4] ?_));refine Yg ?_
     refine Ya (.inr rfl) (.tmp rfl .nil) (fun w hw=>?_)
     refine ⟨_,M,rfl,Mem.le.refl M,hw.c,rfl,?_⟩
     clear hw
     refine congrArg Value.bool ?_
     exact (decide_eq_false (fun h9=>by obtain ⟨⟨h1,h2⟩,h3,h4⟩:=h9;simp only at h1 h2 h3 h4;first|omega|contradiction)).symm
   ·replace hc4:=dF hc4
    iterate 5 refine ZU ?_
    refine ZK ?_;refine Zv ?_
    iterate 5 refine ZU ?_
    refine ZK ?_;refine ZB ?_;refine Zo (Zn (Y_pk [4] ?_));refine Yg ?_
    refine Ya (.inr rfl) (.tmp rfl .nil) (fun w hw=>?_)
    refine ⟨_,M,rfl,Mem.le.refl M,hw.c,rfl,?_⟩
    clear hw
    refine congrArg Value.bool ?_
    exact (decide_eq_false (fun h9=>by obtain ⟨⟨h1,h2⟩,h3,h4⟩:=h9;simp only at h1 h2 h3 h4;first|omega|contradiction)).symm
  ·replace hc3:=dF hc3
   iterate 3 refine ZU ?_
   refine ZK ?_;refine Zv ?_
   iterate 5 refine ZU ?_
   refine ZK ?_;refine Zv ?_
   iterate 5 refine ZU ?_
   refine ZK ?_;refine ZB ?_;refine Zo (Zn (Y_pk [4] ?_));refine Yg ?_
   refine Ya (.inr rfl) (.tmp rfl .nil) (fun w hw=>?_)
   refine ⟨_,M,rfl,Mem.le.refl M,hw.c,rfl,?_⟩
   clear hw
   refine congrArg Value.bool ?_
   exact (decide_eq_false (fun h9=>by obtain ⟨⟨h1,h2⟩,h3,h4⟩:=h9;simp only at h1 h2 h3 h4;first|omega|contradiction)).symm
end Go.Proofs.YtajmnjefajknoaaGreat
namespace Go.Proofs.YtajmnjefajknoaaGreat
open Go.Esp
theorem F.ok80:okFn Tryz.prog 80=true:=by kernel_rfl
theorem F.ok81:okFn Tryz.prog 81=true:=by kernel_rfl
theorem F.ok82:okFn Tryz.prog 82=true:=by kernel_rfl
theorem F.ok84:okFn Tryz.prog 84=true:=by kernel_rfl
theorem F.ok89:okFn Tryz.prog 89=true:=by kernel_rfl
theorem join_ok (M:Mem) (bw:Nat) (Za:Int) (Zb:Plc) (Zc:Int) (Zh:Plc) (Zj Zf Zt:Option Addr) (Zi Ze Zs:Nat) (Zg Zd:List ZD) (Zl:List Int) (Zq:Int) (Zu:Bool) (ZF Zx ZN ZC ZA Zw Zr Zy Zp:Int) (Zz:Plc) (ZE ZG:Int) (Yj:ZL.ok M ⟨⟨Za,Zb⟩,⟨Zc,Zh⟩,⟨Zj,Zi,Zg⟩,⟨Zf,Ze,Zd⟩⟩) (hav:Hp) (hA:OSl 3 1 (.slice Zt Zl.length Zs) hav (Zl.map (oneI .i64))) (hLa:Zl.length≤900) (hj:Zu=false):Fh Tryz.prog 80 [.pointer (some ⟨bw,0,none⟩)] M ((bw,rowO (ZQ.segs ⟨⟨⟨⟨Za,Zb⟩,⟨Zc,Zh⟩,⟨Zj,Zi,Zg⟩,⟨Zf,Ze,Zd⟩⟩,Zq,Zu,ZF,Zx,ZN,ZC,ZA,Zw,Zr,Zy,Zp,Zz,⟨Zt,Zs,Zl⟩,ZE,ZG⟩,⟨none,0,[]⟩⟩) 68)::hav) (fun M' v Hout=>v=.tuple #[]∧WkF bw 68 M' Hout (stabN (ZO.nd ⟨⟨⟨Za,Zb⟩,⟨Zc,Zh⟩,⟨Zj,Zi,Zg⟩,⟨Zf,Ze,Zd⟩⟩,Zq,Zu,ZF,Zx,ZN,ZC,ZA,Zw,Zr,Zy,Zp,Zz,⟨Zt,Zs,Zl⟩,ZE,ZG⟩))):=by
  refine XP (fun H=>(bw,rowO (ZQ.segs ⟨⟨⟨⟨Za,Zb⟩,⟨Zc,Zh⟩,⟨Zj,Zi,Zg⟩,⟨Zf,Ze,Zd⟩⟩,Zq,Zu,ZF,Zx,ZN,ZC,ZA,Zw,Zr,Zy,Zp,Zz,⟨Zt,Zs,Zl⟩,ZE,ZG⟩,⟨none,0,[]⟩⟩) 68)::(hav++H)) (fun _=>by simp only [List.append_assoc,List.cons_append,List.nil_append]) Tryz.func80 rfl Tryz.ntmps80 rfl ?_;intro H
  iterate 2 refine ZI ?_
  refine Yy (l:=[0,1,2,3,4,5,6,7,8,9,10,11,12,13,14,15,16,17,18]) #[0,1,3,7,15,31,63,127,255,511,1023,2047,127,4223,12415,28799,61567,131071,262143] _ rfl (by kernel_rfl) (by kernel_rfl) St.drawn (fun _ h=>h) ?_;refine Zv ?_;refine ZS ?_;refine Zk F.foff68_0 ?_;refine Zk F.foff32_10 ?_;refine ZH F.lay3 ?_;refine Yz ?_;refine Zv ?_
  refine Yh 8 rfl (fun hc1=>?_) (fun hc1=>?_)
  ·replace hc1:=nT hc1
   refine Zv ?_;refine ZS ?_;refine Zk F.foff68_0 ?_;refine Zk F.foff32_10 ?_;refine ZH F.lay3 ?_;refine Zv ?_;refine ZS ?_;refine Zk F.foff68_0 ?_;refine Zk F.foff32_3 ?_;refine ZH F.lay3 ?_;refine Yz ?_;refine ZK ?_;refine Zo (Zn (Y_pk [20,0] ?_))
   refine Yx rfl (fun hc2=>?_) (fun hc2=>?_)
   ·replace hc2:=nT hc2
    refine Xq (l:=[0,1,2,3,4,5,6]) [6] rfl ?_
    iterate 2 refine Zv ?_
    refine ZS ?_;refine Zk F.foff68_0 ?_;refine Zk F.foff32_10 ?_;refine ZH F.lay3 ?_;refine Ww rfl rfl rfl F.ok84 rfl (shun_ok M bw _ _ _ _ _ _ _ _ _ _ _ _ _ _ _ _ _ _ _ _ _ _ _ _ _ _ _ hav hA (by omega) Zy) (by repeat first|exact Rem.here _|exact Rem.two|apply Rem.skip|apply Rem.over) (YA rfl) ?_
    rintro _ M1 hs1 hm1 ⟨hM1,rfl,⟨s_a,s_c,s_l⟩,hs9,rfl,ho9,hl9⟩
    subst M1
    simp only [Sl.val] at ho9
    simp only at hl9
    have hLs:s_l.length≤901:=shun_len hl9 hLa
    simp only [List.append_assoc,List.cons_append,List.nil_append]
    refine Zo (Wk ?_);refine Zn (Y_pk [0] ?_);refine ZI ?_
    refine C_frz ho9 (by repeat first|exact Rem.here _|exact Rem.two|apply Rem.skip|apply Rem.over) (fun M2 hM2 k9=>?_)
    refine Zm (l:=[0,1,2,3,4,5,6,7,8,9,10,11,12,13,14,15,16]) rfl ?_
    iterate 3 refine Zv ?_
    refine ZS ?_;refine Zk F.foff68_0 ?_;refine Zk F.foff32_0 ?_;refine Zk F.foff28_0 ?_;refine Zk F.foff25_1 ?_;refine ZH F.lay23 ?_;refine ZS ?_;refine Zk F.foff68_0 ?_;refine Zk F.foff32_12 ?_;refine Yi F.lay23 ?_;refine ZS ?_;refine Zk F.foff68_0 ?_;refine Zk F.foff32_14 ?_;refine Yi F.lay3 ?_;refine Zo (Zn (Y_pk [0] ?_));refine Xq (l:=[0,1,2,3,4,5,6]) [6] rfl ?_
    iterate 2 refine Zv ?_
    refine ZS ?_;refine Zk F.foff68_0 ?_;refine Zk F.foff32_3 ?_;refine ZH F.lay3 ?_;refine Ww rfl rfl rfl F.ok89 rfl (seek_ok M2 bw _ _ _ _ _ _ _ _ _ _ _ _ _ _ _ _ _ _ _ _ _ _ _ _ _ _ _ (Yj.mono hM2) k9 (by omega) ZF) (by repeat first|exact Rem.here _|exact Rem.two|apply Rem.skip|apply Rem.over) (YA rfl) ?_
    rintro _ M3 hs3 hm3 ⟨rfl,⟨⟨⟨YK,YU⟩,⟨YL,YV⟩,⟨Xb,Xa,YZ⟩,⟨YO,YN,YM⟩⟩,XI,XO,Wt,XH,WI,XY,XJ,XE,Xs,XF,Xt,XG,⟨Xw,Xv,Xu⟩,Wp,Wo⟩,⟨o_a,o_c,o_l⟩,rfl,hv1,hv2,okv,oko,okq⟩
    simp only [List.append_assoc,List.cons_append,List.nil_append]
    refine Zo (Wk ?_)
    refine Ya (.inl rfl) (.nil) (fun w hw=>?_)
    have h3:=stab_alone (n:=ZO.nd ⟨⟨⟨Za,Zb⟩,⟨Zc,Zh⟩,⟨Zj,Zi,Zg⟩,⟨Zf,Ze,Zd⟩⟩,Zq,Zu,ZF,Zx,ZN,ZC,ZA,Zw,Zr,Zy,Zp,Zz,⟨Zt,Zs,Zl⟩,ZE,ZG⟩) (l:=s_l) (show Zu=false from hj) (by rw [if_pos (show (ZO.nd ⟨⟨⟨Za,Zb⟩,⟨Zc,Zh⟩,⟨Zj,Zi,Zg⟩,⟨Zf,Ze,Zd⟩⟩,Zq,Zu,ZF,Zx,ZN,ZC,ZA,Zw,Zr,Zy,Zp,Zz,⟨Zt,Zs,Zl⟩,ZE,ZG⟩).findTo≠-1∧(ZO.nd ⟨⟨⟨Za,Zb⟩,⟨Zc,Zh⟩,⟨Zj,Zi,Zg⟩,⟨Zf,Ze,Zd⟩⟩,Zq,Zu,ZF,Zx,ZN,ZC,ZA,Zw,Zr,Zy,Zp,Zz,⟨Zt,Zs,Zl⟩,ZE,ZG⟩).findTo≠(ZO.nd ⟨⟨⟨Za,Zb⟩,⟨Zc,Zh⟩,⟨Zj,Zi,Zg⟩,⟨Zf,Ze,Zd⟩⟩,Zq,Zu,ZF,Zx,ZN,ZC,ZA,Zw,Zr,Zy,Zp,Zz,⟨Zt,Zs,Zl⟩,ZE,ZG⟩).boot from (show Zy≠-1∧Zy≠ZF by constructor <;> first|assumption|omega))];exact hl9)
    exact ⟨_,M3,[(bw,rowO (ZQ.segs ⟨⟨⟨⟨YK,YU⟩,⟨YL,YV⟩,⟨Xb,Xa,YZ⟩,⟨YO,YN,YM⟩⟩,XI,XO,Wt,XH,WI,XY,XJ,XE,Xs,XF,Xt,XG,⟨Xw,Xv,Xu⟩,Wp,Wo⟩,⟨o_a,o_c,o_l⟩⟩) 68)],rfl,(hM2.trans hm3),hw.c,rfl,⟨⟨⟨YK,YU⟩,⟨YL,YV⟩,⟨Xb,Xa,YZ⟩,⟨YO,YN,YM⟩⟩,XI,XO,Wt,XH,WI,XY,XJ,XE,Xs,XF,Xt,XG,⟨Xw,Xv,Xu⟩,Wp,Wo⟩,⟨o_a,o_c,o_l⟩,rfl,by rw [h3];exact hv1,by rw [h3];exact hv2,okv,oko,okq⟩
   ·replace hc2:=nF hc2
    refine Yv (Zn (Y_pk [0] ?_));refine ZI ?_
    refine C_frz hA (by repeat first|exact Rem.here _|exact Rem.two|apply Rem.skip|apply Rem.over) (fun M2 hM2 k9=>?_)
    refine Zm (l:=[0,1,2,3,4,5,6,7,8,9,10,11,12,13,14,15,16]) rfl ?_
    iterate 3 refine Zv ?_
    refine ZS ?_;refine Zk F.foff68_0 ?_;refine Zk F.foff32_0 ?_;refine Zk F.foff28_0 ?_;refine Zk F.foff25_1 ?_;refine ZH F.lay23 ?_;refine ZS ?_;refine Zk F.foff68_0 ?_;refine Zk F.foff32_12 ?_;refine Yi F.lay23 ?_;refine ZS ?_;refine Zk F.foff68_0 ?_;refine Zk F.foff32_14 ?_;refine Yi F.lay3 ?_;refine Zo (Zn (Y_pk [0] ?_));refine Xq (l:=[0,1,2,3,4,5,6]) [6] rfl ?_
    iterate 2 refine Zv ?_
    refine ZS ?_;refine Zk F.foff68_0 ?_;refine Zk F.foff32_3 ?_;refine ZH F.lay3 ?_;refine Ww rfl rfl rfl F.ok89 rfl (seek_ok M2 bw _ _ _ _ _ _ _ _ _ _ _ _ _ _ _ _ _ _ _ _ _ _ _ _ _ _ _ (Yj.mono hM2) k9 (by omega) ZF) (by repeat first|exact Rem.here _|exact Rem.two|apply Rem.skip|apply Rem.over) (YA rfl) ?_
    rintro _ M3 hs3 hm3 ⟨rfl,⟨⟨⟨YK,YU⟩,⟨YL,YV⟩,⟨Xb,Xa,YZ⟩,⟨YO,YN,YM⟩⟩,XI,XO,Wt,XH,WI,XY,XJ,XE,Xs,XF,Xt,XG,⟨Xw,Xv,Xu⟩,Wp,Wo⟩,⟨o_a,o_c,o_l⟩,rfl,hv1,hv2,okv,oko,okq⟩
    simp only [List.append_assoc,List.cons_append,List.nil_append]
    refine Zo (Wk ?_)
    refine Ya (.inl rfl) (.nil) (fun w hw=>?_)
    have h3:=stab_alone (n:=ZO.nd ⟨⟨⟨Za,Zb⟩,⟨Zc,Zh⟩,⟨Zj,Zi,Zg⟩,⟨Zf,Ze,Zd⟩⟩,Zq,Zu,ZF,Zx,ZN,ZC,ZA,Zw,Zr,Zy,Zp,Zz,⟨Zt,Zs,Zl⟩,ZE,ZG⟩) (l:=Zl) (show Zu=false from hj) (by rw [if_neg (show ¬((ZO.nd ⟨⟨⟨Za,Zb⟩,⟨Zc,Zh⟩,⟨Zj,Zi,Zg⟩,⟨Zf,Ze,Zd⟩⟩,Zq,Zu,ZF,Zx,ZN,ZC,ZA,Zw,Zr,Zy,Zp,Zz,⟨Zt,Zs,Zl⟩,ZE,ZG⟩).findTo≠-1∧(ZO.nd ⟨⟨⟨Za,Zb⟩,⟨Zc,Zh⟩,⟨Zj,Zi,Zg⟩,⟨Zf,Ze,Zd⟩⟩,Zq,Zu,ZF,Zx,ZN,ZC,ZA,Zw,Zr,Zy,Zp,Zz,⟨Zt,Zs,Zl⟩,ZE,ZG⟩).findTo≠(ZO.nd ⟨⟨⟨Za,Zb⟩,⟨Zc,Zh⟩,⟨Zj,Zi,Zg⟩,⟨Zf,Ze,Zd⟩⟩,Zq,Zu,ZF,Zx,ZN,ZC,ZA,Zw,Zr,Zy,Zp,Zz,⟨Zt,Zs,Zl⟩,ZE,ZG⟩).boot) from (show ¬(Zy≠-1∧Zy≠ZF) by first|assumption|omega))];rfl)
    exact ⟨_,M3,[(bw,rowO (ZQ.segs ⟨⟨⟨⟨YK,YU⟩,⟨YL,YV⟩,⟨Xb,Xa,YZ⟩,⟨YO,YN,YM⟩⟩,XI,XO,Wt,XH,WI,XY,XJ,XE,Xs,XF,Xt,XG,⟨Xw,Xv,Xu⟩,Wp,Wo⟩,⟨o_a,o_c,o_l⟩⟩) 68)],rfl,(hM2.trans hm3),hw.c,rfl,⟨⟨⟨YK,YU⟩,⟨YL,YV⟩,⟨Xb,Xa,YZ⟩,⟨YO,YN,YM⟩⟩,XI,XO,Wt,XH,WI,XY,XJ,XE,Xs,XF,Xt,XG,⟨Xw,Xv,Xu⟩,Wp,Wo⟩,⟨o_a,o_c,o_l⟩,rfl,by rw [h3];exact hv1,by rw [h3];exact hv2,okv,oko,okq⟩
  ·replace hc1:=nF hc1
   iterate 11 refine ZU ?_
   refine ZK ?_;refine Zo (Zn (Y_pk [20,0] ?_));refine Ws rfl ?_;refine Yv (Zn (Y_pk [0] ?_));refine ZI ?_
   refine C_frz hA (by repeat first|exact Rem.here _|exact Rem.two|apply Rem.skip|apply Rem.over) (fun M2 hM2 k9=>?_)
   refine Zm (l:=[0,1,2,3,4,5,6,7,8,9,10,11,12,13,14,15,16]) rfl ?_
   iterate 3 refine Zv ?_
   refine ZS ?_;refine Zk F.foff68_0 ?_;refine Zk F.foff32_0 ?_;refine Zk F.foff28_0 ?_;refine Zk F.foff25_1 ?_;refine ZH F.lay23 ?_;refine ZS ?_;refine Zk F.foff68_0 ?_;refine Zk F.foff32_12 ?_;refine Yi F.lay23 ?_;refine ZS ?_;refine Zk F.foff68_0 ?_;refine Zk F.foff32_14 ?_;refine Yi F.lay3 ?_;refine Zo (Zn (Y_pk [0] ?_));refine Xq (l:=[0,1,2,3,4,5,6]) [6] rfl ?_
   iterate 2 refine Zv ?_
   refine ZS ?_;refine Zk F.foff68_0 ?_;refine Zk F.foff32_3 ?_;refine ZH F.lay3 ?_;refine Ww rfl rfl rfl F.ok89 rfl (seek_ok M2 bw _ _ _ _ _ _ _ _ _ _ _ _ _ _ _ _ _ _ _ _ _ _ _ _ _ _ _ (Yj.mono hM2) k9 (by omega) ZF) (by repeat first|exact Rem.here _|exact Rem.two|apply Rem.skip|apply Rem.over) (YA rfl) ?_
   rintro _ M3 hs3 hm3 ⟨rfl,⟨⟨⟨YK,YU⟩,⟨YL,YV⟩,⟨Xb,Xa,YZ⟩,⟨YO,YN,YM⟩⟩,XI,XO,Wt,XH,WI,XY,XJ,XE,Xs,XF,Xt,XG,⟨Xw,Xv,Xu⟩,Wp,Wo⟩,⟨o_a,o_c,o_l⟩,rfl,hv1,hv2,okv,oko,okq⟩
   simp only [List.append_assoc,List.cons_append,List.nil_append]
   refine Zo (Wk ?_)
   refine Ya (.inl rfl) (.nil) (fun w hw=>?_)
   have h3:=stab_alone (n:=ZO.nd ⟨⟨⟨Za,Zb⟩,⟨Zc,Zh⟩,⟨Zj,Zi,Zg⟩,⟨Zf,Ze,Zd⟩⟩,Zq,Zu,ZF,Zx,ZN,ZC,ZA,Zw,Zr,Zy,Zp,Zz,⟨Zt,Zs,Zl⟩,ZE,ZG⟩) (l:=Zl) (show Zu=false from hj) (by rw [if_neg (show ¬((ZO.nd ⟨⟨⟨Za,Zb⟩,⟨Zc,Zh⟩,⟨Zj,Zi,Zg⟩,⟨Zf,Ze,Zd⟩⟩,Zq,Zu,ZF,Zx,ZN,ZC,ZA,Zw,Zr,Zy,Zp,Zz,⟨Zt,Zs,Zl⟩,ZE,ZG⟩).findTo≠-1∧(ZO.nd ⟨⟨⟨Za,Zb⟩,⟨Zc,Zh⟩,⟨Zj,Zi,Zg⟩,⟨Zf,Ze,Zd⟩⟩,Zq,Zu,ZF,Zx,ZN,ZC,ZA,Zw,Zr,Zy,Zp,Zz,⟨Zt,Zs,Zl⟩,ZE,ZG⟩).findTo≠(ZO.nd ⟨⟨⟨Za,Zb⟩,⟨Zc,Zh⟩,⟨Zj,Zi,Zg⟩,⟨Zf,Ze,Zd⟩⟩,Zq,Zu,ZF,Zx,ZN,ZC,ZA,Zw,Zr,Zy,Zp,Zz,⟨Zt,Zs,Zl⟩,ZE,ZG⟩).boot) from (show ¬(Zy≠-1∧Zy≠ZF) by first|assumption|omega))];rfl)
   exact ⟨_,M3,[(bw,rowO (ZQ.segs ⟨⟨⟨⟨YK,YU⟩,⟨YL,YV⟩,⟨Xb,Xa,YZ⟩,⟨YO,YN,YM⟩⟩,XI,XO,Wt,XH,WI,XY,XJ,XE,Xs,XF,Xt,XG,⟨Xw,Xv,Xu⟩,Wp,Wo⟩,⟨o_a,o_c,o_l⟩⟩) 68)],rfl,(hM2.trans hm3),hw.c,rfl,⟨⟨⟨YK,YU⟩,⟨YL,YV⟩,⟨Xb,Xa,YZ⟩,⟨YO,YN,YM⟩⟩,XI,XO,Wt,XH,WI,XY,XJ,XE,Xs,XF,Xt,XG,⟨Xw,Xv,Xu⟩,Wp,Wo⟩,⟨o_a,o_c,o_l⟩,rfl,by rw [h3];exact hv1,by rw [h3];exact hv2,okv,oko,okq⟩
theorem stab_ok (M:Mem) (bw:Nat) (Za:Int) (Zb:Plc) (Zc:Int) (Zh:Plc) (Zj Zf Zt:Option Addr) (Zi Ze Zs:Nat) (Zg Zd:List ZD) (Zl:List Int) (Zq:Int) (Zu:Bool) (ZF Zx ZN ZC ZA Zw Zr Zy Zp:Int) (Zz:Plc) (ZE ZG:Int) (Yj:ZL.ok M ⟨⟨Za,Zb⟩,⟨Zc,Zh⟩,⟨Zj,Zi,Zg⟩,⟨Zf,Ze,Zd⟩⟩) (hbig:Zg.length≤40∧Zd.length≤200) (hav:Hp) (hA:OSl 3 1 (.slice Zt Zl.length Zs) hav (Zl.map (oneI .i64))) (hLa:Zl.length≤900):Fh Tryz.prog 33 [.pointer (some ⟨bw,0,none⟩)] M ((bw,rowO (ZQ.segs ⟨⟨⟨⟨Za,Zb⟩,⟨Zc,Zh⟩,⟨Zj,Zi,Zg⟩,⟨Zf,Ze,Zd⟩⟩,Zq,Zu,ZF,Zx,ZN,ZC,ZA,Zw,Zr,Zy,Zp,Zz,⟨Zt,Zs,Zl⟩,ZE,ZG⟩,⟨none,0,[]⟩⟩) 68)::hav) (fun M' v Hout=>v=.tuple #[]∧WkF bw 68 M' Hout (stabN (ZO.nd ⟨⟨⟨Za,Zb⟩,⟨Zc,Zh⟩,⟨Zj,Zi,Zg⟩,⟨Zf,Ze,Zd⟩⟩,Zq,Zu,ZF,Zx,ZN,ZC,ZA,Zw,Zr,Zy,Zp,Zz,⟨Zt,Zs,Zl⟩,ZE,ZG⟩))):=by
  refine XP (fun H=>(bw,rowO (ZQ.segs ⟨⟨⟨⟨Za,Zb⟩,⟨Zc,Zh⟩,⟨Zj,Zi,Zg⟩,⟨Zf,Ze,Zd⟩⟩,Zq,Zu,ZF,Zx,ZN,ZC,ZA,Zw,Zr,Zy,Zp,Zz,⟨Zt,Zs,Zl⟩,ZE,ZG⟩,⟨none,0,[]⟩⟩) 68)::(hav++H)) (fun _=>by simp only [List.append_assoc,List.cons_append,List.nil_append]) Tryz.func33 rfl Tryz.ntmps33 rfl ?_;intro H
  iterate 2 refine ZI ?_
  refine Zm (l:=[0,1,2,3,4,5]) rfl ?_;refine Zv ?_;refine ZS ?_;refine Zk F.foff68_0 ?_;refine Zk F.foff32_2 ?_;refine ZH F.lay4 ?_;refine Xx ?_;refine Zo (Zn (Y_pk [7,0] ?_))
  refine Yx rfl (fun hc1=>?_) (fun hc1=>?_)
  ·skip
   refine ZI (Xq (l:=[0,1]) [1] rfl ?_);refine Zv ?_;refine Ww rfl rfl rfl F.ok80 rfl (join_ok M bw Za Zb Zc Zh Zj Zf Zt Zi Ze Zs Zg Zd Zl Zq Zu ZF Zx ZN ZC ZA Zw Zr Zy Zp Zz ZE ZG Yj hav hA hLa (by (simp_all;done))) (by repeat first|exact Rem.here _|exact Rem.two|apply Rem.skip|apply Rem.over) (YA rfl) ?_
   rintro _ M1 hs1 hm1 ⟨rfl,⟨⟨⟨YK,YU⟩,⟨YL,YV⟩,⟨Xb,Xa,YZ⟩,⟨YO,YN,YM⟩⟩,XI,XO,Wt,XH,WI,XY,XJ,XE,Xs,XF,Xt,XG,⟨Xw,Xv,Xu⟩,Wp,Wo⟩,⟨o_a,o_c,o_l⟩,rfl,hv1,hv2,okv,oko,okq⟩
   simp only [List.append_assoc,List.cons_append,List.nil_append]
   refine Zo (Wk ?_);refine Zn (Y_pk [0] ?_);refine Yg (YG ?_)
   refine Ya (.inr rfl) (.nil) (fun w hw=>?_)
   exact ⟨_,M1,[(bw,rowO (ZQ.segs ⟨⟨⟨⟨YK,YU⟩,⟨YL,YV⟩,⟨Xb,Xa,YZ⟩,⟨YO,YN,YM⟩⟩,XI,XO,Wt,XH,WI,XY,XJ,XE,Xs,XF,Xt,XG,⟨Xw,Xv,Xu⟩,Wp,Wo⟩,⟨o_a,o_c,o_l⟩⟩) 68)],rfl,hm1,hw.c,rfl,⟨⟨⟨YK,YU⟩,⟨YL,YV⟩,⟨Xb,Xa,YZ⟩,⟨YO,YN,YM⟩⟩,XI,XO,Wt,XH,WI,XY,XJ,XE,Xs,XF,Xt,XG,⟨Xw,Xv,Xu⟩,Wp,Wo⟩,⟨o_a,o_c,o_l⟩,rfl,by exact hv1,by exact hv2,okv,oko,okq⟩
  ·skip
   refine Yv (Zn (Y_pk [0] ?_));refine ZI ?_
   refine C_frz hA (by repeat first|exact Rem.here _|exact Rem.two|apply Rem.skip|apply Rem.over) (fun M2 hM2 k9=>?_)
   refine Xq (l:=[0,1,2,3,4,5]) [5] rfl ?_
   iterate 2 refine Zv ?_
   refine ZS ?_;refine Zk F.foff68_0 ?_;refine Zk F.foff32_6 ?_;refine Ww rfl rfl rfl F.ok81 rfl (lostA_ok M2 bw _ _ _ _ _ _ _ _ _ _ _ _ _ _ _ _ _ _ _ _ _ _ _ _ _ _ _ (Yj.mono hM2) hbig) (by repeat first|exact Rem.here _|exact Rem.two|apply Rem.skip|apply Rem.over) (YA rfl) ?_
   rintro _ M3 hs3 hm3 ⟨rfl,⟨⟨oa,oi⟩,⟨oq,oj⟩,⟨o1a,o1c,o1l⟩,⟨o2a,o2c,o2l⟩⟩,a9,rfl,okt,hlo⟩
   have h1:=lost_ask (n:=ZO.nd ⟨⟨⟨Za,Zb⟩,⟨Zc,Zh⟩,⟨Zj,Zi,Zg⟩,⟨Zf,Ze,Zd⟩⟩,Zq,Zu,ZF,Zx,ZN,ZC,ZA,Zw,Zr,Zy,Zp,Zz,⟨Zt,Zs,Zl⟩,ZE,ZG⟩) hlo
   simp only [List.append_assoc,List.cons_append,List.nil_append]
   refine Zo (Wk ?_);refine Zn (Y_pk [0] ?_)
   iterate 2 refine ZI ?_
   refine Yy (l:=[0,1,2,3,4,5,6,7,8,9,10,11,12,13,14,15,16,17]) #[0,1,3,7,15,31,63,127,255,511,1023,2047,4095,8191,16383,511,65535,131071] _ rfl (by kernel_rfl) (by kernel_rfl) St.drawn (fun _ h=>h) ?_;refine Zv ?_;refine ZS ?_;refine Zk F.foff68_0 ?_;refine Zk F.foff32_0 ?_;refine Zk F.foff28_2 ?_;refine ZH F.lay26 ?_;refine YX F.elem26 ?_;refine Yz ?_;refine Zv ?_
   refine Yh 24 rfl (fun hc2=>?_) (fun hc2=>?_)
   ·replace hc2:=dT hc2
    refine Zv ?_;refine ZS ?_;refine Zk F.foff68_0 ?_;refine Zk F.foff32_0 ?_;refine Zk F.foff28_1 ?_;refine ZH F.lay25 ?_;refine X_fs rfl rfl F.ok66 rfl (WO _) rfl ?_
    rintro _ rfl
    refine WV 31 rfl (show _=aggV [.one (.int .i64 (-1)),Yq 0] from rfl) ?_
    refine Wf (m:=20) rfl rfl rfl rfl rfl (by constructor) (by constructor) F.lay25 F.kinds25 rfl F.guard25 (by exact Xf (⟨_,_⟩)) (by exact Xf (⟨_,_⟩)) rfl rfl rfl ?_;intro c3 he4
    replace he4:c3=true↔¬(Segs.cells _=Segs.cells _):=he4
    obtain rfl:=neD he4 (ZD.inj (x:=⟨_,_⟩) (y:=⟨_,_⟩));clear he4
    refine ZK ?_;refine Zo (Zn (Y_pk [33,0] ?_))
    refine Yx rfl (fun hc5=>?_) (fun hc5=>?_)
    ·replace hc5:=nT hc5
     refine Xq (l:=[0,1,2,3,4,5,6,7]) [7] rfl ?_
     iterate 2 refine Zv ?_
     refine ZS ?_;refine Zk F.foff68_0 ?_;refine Zk F.foff32_0 ?_;refine Zk F.foff28_1 ?_;refine ZH F.lay25 ?_;refine Ww rfl rfl rfl F.ok82 rfl (adopt_ok M3 bw _ _ _ _ _ _ _ _ _ _ _ _ _ _ _ _ _ _ _ _ _ _ _ _ _ _ _ okt ⟨oq,oj⟩ ⟨none,0,[]⟩ SlK.nil) (by repeat first|exact Rem.here _|exact Rem.two|apply Rem.skip|apply Rem.over) (YA rfl) ?_
     rintro _ M4 hs4 hm4 ⟨rfl,⟨⟨wa,wi⟩,⟨wq,wj⟩,⟨w1a,w1c,w1l⟩,⟨w2a,w2c,w2l⟩⟩,rfl,okl,hv1⟩
     simp only [List.append_assoc,List.cons_append,List.nil_append]
     refine Zo (Wk ?_);refine Zn (Y_pk [0] ?_);refine ZI (Zm (l:=[0,1,2,3,4,5,6,7]) rfl ?_);refine Zv ?_;refine ZS ?_;refine Zk F.foff68_0 ?_;refine Zk F.foff32_0 ?_;refine Zk F.foff28_2 ?_;refine ZH F.lay26 ?_;refine YX F.elem26 ?_;refine Yz ?_;refine Zo (Zn (Y_pk [49,0] ?_))
     refine Yx rfl (fun hc6=>?_) (fun hc6=>?_)
     ·replace hc6:=dT hc6
      refine ZI (Zm (l:=[0,1,2,3,4,5,6,7,8,9,10,11]) rfl ?_)
      iterate 2 refine Zv ?_
      refine ZS ?_;refine Zk F.foff68_0 ?_;refine Zk F.foff32_0 ?_;refine ZH F.lay28 ?_;refine X_fs rfl rfl F.ok41 rfl (Vt _ ⟨⟨wa,wi⟩,⟨wq,wj⟩,⟨w1a,w1c,w1l⟩,⟨w2a,w2c,w2l⟩⟩ okl) rfl ?_
      rintro _ rfl
      obtain ⟨⟨fa,fi⟩,hfi⟩:∃ x,Xl (ZL.tb ⟨⟨wa,wi⟩,⟨wq,wj⟩,⟨w1a,w1c,w1l⟩,⟨w2a,w2c,w2l⟩⟩)=x:=⟨_,rfl⟩
      rw [hfi]
      refine Y_field F.fld25_0 F.lay3 ?_;refine ZS ?_;refine Zk F.foff68_0 ?_;refine Zk F.foff32_6 ?_;refine Yi F.lay3 ?_;refine Zo (Zn (Y_pk [0] ?_));refine Xq (l:=[0,1,2,3,4,5,6,7,8,9,10,11,12]) [8] rfl ?_
      iterate 3 refine Zv ?_
      refine ZS ?_;refine Zk F.foff68_0 ?_;refine Zk F.foff32_6 ?_;refine ZH F.lay3 ?_;refine Xg rfl rfl F.bld44 (.cons rfl (by constructor) .nil) rfl rfl ?_;refine Ww rfl rfl rfl F.ok83 rfl (request_ok M4 bw _ _ _ _ _ _ _ _ _ _ _ _ _ _ _ _ _ _ _ _ _ _ _ _ _ _ _ fa ⟨3,⟨0,0⟩,0,0,⟨none,0,[]⟩,false,⟨0,0⟩,⟨none,0,[]⟩⟩) (by repeat first|exact Rem.here _|exact Rem.two|apply Rem.skip|apply Rem.over) (YA rfl) ?_
      rintro _ M5 hs5 hm5 ⟨rfl,⟨o9a,o9c,o9l⟩,rfl,k9o,hl9⟩
      simp only at hl9
      simp only [List.append_assoc,List.cons_append,List.nil_append]
      refine ZS ?_;refine Zk F.foff68_0 ?_;refine Zk F.foff32_7 ?_;refine Yi F.lay29 ?_;refine Zo (Wk ?_)
      refine Ya (.inl rfl) (.nil) (fun w hw=>?_)
      have h2:ZO.nd ⟨⟨⟨wa,wi⟩,⟨wq,wj⟩,⟨w1a,w1c,w1l⟩,⟨w2a,w2c,w2l⟩⟩,Zq,Zu,ZF,Zx,ZN,a9,ZA,Zw,Zr,Zy,Zp,Zz,⟨Zt,Zs,Zl⟩,ZE,ZG⟩=if (ZO.nd ⟨⟨⟨oa,oi⟩,⟨oq,oj⟩,⟨o1a,o1c,o1l⟩,⟨o2a,o2c,o2l⟩⟩,Zq,Zu,ZF,Zx,ZN,a9,ZA,Zw,Zr,Zy,Zp,Zz,⟨Zt,Zs,Zl⟩,ZE,ZG⟩).table.succ=[]∧(ZO.nd ⟨⟨⟨oa,oi⟩,⟨oq,oj⟩,⟨o1a,o1c,o1l⟩,⟨o2a,o2c,o2l⟩⟩,Zq,Zu,ZF,Zx,ZN,a9,ZA,Zw,Zr,Zy,Zp,Zz,⟨Zt,Zs,Zl⟩,ZE,ZG⟩).table.pred≠YW then WF (ZO.nd ⟨⟨⟨oa,oi⟩,⟨oq,oj⟩,⟨o1a,o1c,o1l⟩,⟨o2a,o2c,o2l⟩⟩,Zq,Zu,ZF,Zx,ZN,a9,ZA,Zw,Zr,Zy,Zp,Zz,⟨Zt,Zs,Zl⟩,ZE,ZG⟩) (ZO.nd ⟨⟨⟨oa,oi⟩,⟨oq,oj⟩,⟨o1a,o1c,o1l⟩,⟨o2a,o2c,o2l⟩⟩,Zq,Zu,ZF,Zx,ZN,a9,ZA,Zw,Zr,Zy,Zp,Zz,⟨Zt,Zs,Zl⟩,ZE,ZG⟩).table.pred [] else (ZO.nd ⟨⟨⟨oa,oi⟩,⟨oq,oj⟩,⟨o1a,o1c,o1l⟩,⟨o2a,o2c,o2l⟩⟩,Zq,Zu,ZF,Zx,ZN,a9,ZA,Zw,Zr,Zy,Zp,Zz,⟨Zt,Zs,Zl⟩,ZE,ZG⟩):=by
       rw [if_pos ⟨show o1l=[] from List.length_eq_zero_iff.1 (by omega),show (⟨oq,oj⟩:ZD)≠YW from (by assumption)⟩];exact hv1
      have h3:=stab_joined (n:=ZO.nd ⟨⟨⟨Za,Zb⟩,⟨Zc,Zh⟩,⟨Zj,Zi,Zg⟩,⟨Zf,Ze,Zd⟩⟩,Zq,Zu,ZF,Zx,ZN,ZC,ZA,Zw,Zr,Zy,Zp,Zz,⟨Zt,Zs,Zl⟩,ZE,ZG⟩) (by show Zu=true;simp_all) h1 h2
      rw [if_neg (show ¬(ZO.nd ⟨⟨⟨wa,wi⟩,⟨wq,wj⟩,⟨w1a,w1c,w1l⟩,⟨w2a,w2c,w2l⟩⟩,Zq,Zu,ZF,Zx,ZN,a9,ZA,Zw,Zr,Zy,Zp,Zz,⟨Zt,Zs,Zl⟩,ZE,ZG⟩).table.succ=[] from (fun q1=>absurd (show w1l.length=0 from congrArg List.length q1) (by omega))),show Xl (ZO.nd ⟨⟨⟨wa,wi⟩,⟨wq,wj⟩,⟨w1a,w1c,w1l⟩,⟨w2a,w2c,w2l⟩⟩,Zq,Zu,ZF,Zx,ZN,a9,ZA,Zw,Zr,Zy,Zp,Zz,⟨Zt,Zs,Zl⟩,ZE,ZG⟩).table=⟨fa,fi⟩ from hfi] at h3
      refine ⟨_,M5,[(bw,rowO (ZQ.segs ⟨⟨⟨⟨wa,wi⟩,⟨wq,wj⟩,⟨w1a,w1c,w1l⟩,⟨w2a,w2c,w2l⟩⟩,Zq,Zu,ZF,Zx,(nxR ZN),fa,(nxR ZN),Zw,Zr,Zy,Zp,Zz,⟨Zt,Zs,Zl⟩,ZE,ZG⟩,⟨o9a,o9c,o9l⟩⟩) 68)],rfl,(((hM2.trans hm3).trans hm4).trans hm5),hw.c,rfl,⟨⟨⟨wa,wi⟩,⟨wq,wj⟩,⟨w1a,w1c,w1l⟩,⟨w2a,w2c,w2l⟩⟩,Zq,Zu,ZF,Zx,(nxR ZN),fa,(nxR ZN),Zw,Zr,Zy,Zp,Zz,⟨Zt,Zs,Zl⟩,ZE,ZG⟩,⟨o9a,o9c,o9l⟩,rfl,?_,?_,⟨okl.mono hm5,((k9.mono hm3).mono hm4).mono hm5⟩,k9o,fun y hy=>?_⟩
      ·rw [h3] <;> rfl
      ·rw [h3]
       show sndl o9l=_
       rw [hl9];rfl
      ·simp only at hy
       rw [hl9] at hy
       obtain rfl:=List.mem_singleton.1 hy
       exact ⟨⟨SlK.nil,SlK.nil⟩⟩
     ·replace hc6:=dF hc6
      refine Yv ?_
      refine Ya (.inl rfl) (.nil) (fun w hw=>?_)
      have h2:ZO.nd ⟨⟨⟨wa,wi⟩,⟨wq,wj⟩,⟨w1a,w1c,w1l⟩,⟨w2a,w2c,w2l⟩⟩,Zq,Zu,ZF,Zx,ZN,a9,ZA,Zw,Zr,Zy,Zp,Zz,⟨Zt,Zs,Zl⟩,ZE,ZG⟩=if (ZO.nd ⟨⟨⟨oa,oi⟩,⟨oq,oj⟩,⟨o1a,o1c,o1l⟩,⟨o2a,o2c,o2l⟩⟩,Zq,Zu,ZF,Zx,ZN,a9,ZA,Zw,Zr,Zy,Zp,Zz,⟨Zt,Zs,Zl⟩,ZE,ZG⟩).table.succ=[]∧(ZO.nd ⟨⟨⟨oa,oi⟩,⟨oq,oj⟩,⟨o1a,o1c,o1l⟩,⟨o2a,o2c,o2l⟩⟩,Zq,Zu,ZF,Zx,ZN,a9,ZA,Zw,Zr,Zy,Zp,Zz,⟨Zt,Zs,Zl⟩,ZE,ZG⟩).table.pred≠YW then WF (ZO.nd ⟨⟨⟨oa,oi⟩,⟨oq,oj⟩,⟨o1a,o1c,o1l⟩,⟨o2a,o2c,o2l⟩⟩,Zq,Zu,ZF,Zx,ZN,a9,ZA,Zw,Zr,Zy,Zp,Zz,⟨Zt,Zs,Zl⟩,ZE,ZG⟩) (ZO.nd ⟨⟨⟨oa,oi⟩,⟨oq,oj⟩,⟨o1a,o1c,o1l⟩,⟨o2a,o2c,o2l⟩⟩,Zq,Zu,ZF,Zx,ZN,a9,ZA,Zw,Zr,Zy,Zp,Zz,⟨Zt,Zs,Zl⟩,ZE,ZG⟩).table.pred [] else (ZO.nd ⟨⟨⟨oa,oi⟩,⟨oq,oj⟩,⟨o1a,o1c,o1l⟩,⟨o2a,o2c,o2l⟩⟩,Zq,Zu,ZF,Zx,ZN,a9,ZA,Zw,Zr,Zy,Zp,Zz,⟨Zt,Zs,Zl⟩,ZE,ZG⟩):=by
       rw [if_pos ⟨show o1l=[] from List.length_eq_zero_iff.1 (by omega),show (⟨oq,oj⟩:ZD)≠YW from (by assumption)⟩];exact hv1
      have h3:=stab_joined (n:=ZO.nd ⟨⟨⟨Za,Zb⟩,⟨Zc,Zh⟩,⟨Zj,Zi,Zg⟩,⟨Zf,Ze,Zd⟩⟩,Zq,Zu,ZF,Zx,ZN,ZC,ZA,Zw,Zr,Zy,Zp,Zz,⟨Zt,Zs,Zl⟩,ZE,ZG⟩) (by show Zu=true;simp_all) h1 h2
      rw [if_pos (show (ZO.nd ⟨⟨⟨wa,wi⟩,⟨wq,wj⟩,⟨w1a,w1c,w1l⟩,⟨w2a,w2c,w2l⟩⟩,Zq,Zu,ZF,Zx,ZN,a9,ZA,Zw,Zr,Zy,Zp,Zz,⟨Zt,Zs,Zl⟩,ZE,ZG⟩).table.succ=[] from List.length_eq_zero_iff.1 (show w1l.length=0 from by omega))] at h3
      refine ⟨_,M4,[(bw,rowO (ZQ.segs ⟨⟨⟨⟨wa,wi⟩,⟨wq,wj⟩,⟨w1a,w1c,w1l⟩,⟨w2a,w2c,w2l⟩⟩,Zq,Zu,ZF,Zx,ZN,a9,ZA,Zw,Zr,Zy,Zp,Zz,⟨Zt,Zs,Zl⟩,ZE,ZG⟩,⟨none,0,[]⟩⟩) 68)],rfl,((hM2.trans hm3).trans hm4),hw.c,rfl,⟨⟨⟨wa,wi⟩,⟨wq,wj⟩,⟨w1a,w1c,w1l⟩,⟨w2a,w2c,w2l⟩⟩,Zq,Zu,ZF,Zx,ZN,a9,ZA,Zw,Zr,Zy,Zp,Zz,⟨Zt,Zs,Zl⟩,ZE,ZG⟩,⟨none,0,[]⟩,rfl,?_,?_,⟨okl,((k9.mono hm3).mono hm4)⟩,SlK.nil,fun y hy=>by cases hy⟩
      ·rw [h3] <;> rfl
      ·rw [h3] <;> rfl
    ·replace hc5:=nF hc5
     refine Yv (Zn (Y_pk [0] ?_));refine ZI (Zm (l:=[0,1,2,3,4,5,6,7]) rfl ?_);refine Zv ?_;refine ZS ?_;refine Zk F.foff68_0 ?_;refine Zk F.foff32_0 ?_;refine Zk F.foff28_2 ?_;refine ZH F.lay26 ?_;refine YX F.elem26 ?_;refine Yz ?_;refine Zo (Zn (Y_pk [49,0] ?_))
     refine Yx rfl (fun hc7=>?_) (fun hc7=>?_)
     ·replace hc7:=dT hc7
      (exfalso;omega)
     ·replace hc7:=dF hc7
      refine Yv ?_
      refine Ya (.inl rfl) (.nil) (fun w hw=>?_)
      have h2:ZO.nd ⟨⟨⟨oa,oi⟩,⟨oq,oj⟩,⟨o1a,o1c,o1l⟩,⟨o2a,o2c,o2l⟩⟩,Zq,Zu,ZF,Zx,ZN,a9,ZA,Zw,Zr,Zy,Zp,Zz,⟨Zt,Zs,Zl⟩,ZE,ZG⟩=if (ZO.nd ⟨⟨⟨oa,oi⟩,⟨oq,oj⟩,⟨o1a,o1c,o1l⟩,⟨o2a,o2c,o2l⟩⟩,Zq,Zu,ZF,Zx,ZN,a9,ZA,Zw,Zr,Zy,Zp,Zz,⟨Zt,Zs,Zl⟩,ZE,ZG⟩).table.succ=[]∧(ZO.nd ⟨⟨⟨oa,oi⟩,⟨oq,oj⟩,⟨o1a,o1c,o1l⟩,⟨o2a,o2c,o2l⟩⟩,Zq,Zu,ZF,Zx,ZN,a9,ZA,Zw,Zr,Zy,Zp,Zz,⟨Zt,Zs,Zl⟩,ZE,ZG⟩).table.pred≠YW then WF (ZO.nd ⟨⟨⟨oa,oi⟩,⟨oq,oj⟩,⟨o1a,o1c,o1l⟩,⟨o2a,o2c,o2l⟩⟩,Zq,Zu,ZF,Zx,ZN,a9,ZA,Zw,Zr,Zy,Zp,Zz,⟨Zt,Zs,Zl⟩,ZE,ZG⟩) (ZO.nd ⟨⟨⟨oa,oi⟩,⟨oq,oj⟩,⟨o1a,o1c,o1l⟩,⟨o2a,o2c,o2l⟩⟩,Zq,Zu,ZF,Zx,ZN,a9,ZA,Zw,Zr,Zy,Zp,Zz,⟨Zt,Zs,Zl⟩,ZE,ZG⟩).table.pred [] else (ZO.nd ⟨⟨⟨oa,oi⟩,⟨oq,oj⟩,⟨o1a,o1c,o1l⟩,⟨o2a,o2c,o2l⟩⟩,Zq,Zu,ZF,Zx,ZN,a9,ZA,Zw,Zr,Zy,Zp,Zz,⟨Zt,Zs,Zl⟩,ZE,ZG⟩):=by
       rw [if_neg (by rintro ⟨q1,q2⟩;exact q2 (show (⟨oq,oj⟩:ZD)=YW from (by assumption)))]
      have h3:=stab_joined (n:=ZO.nd ⟨⟨⟨Za,Zb⟩,⟨Zc,Zh⟩,⟨Zj,Zi,Zg⟩,⟨Zf,Ze,Zd⟩⟩,Zq,Zu,ZF,Zx,ZN,ZC,ZA,Zw,Zr,Zy,Zp,Zz,⟨Zt,Zs,Zl⟩,ZE,ZG⟩) (by show Zu=true;simp_all) h1 h2
      rw [if_pos (show (ZO.nd ⟨⟨⟨oa,oi⟩,⟨oq,oj⟩,⟨o1a,o1c,o1l⟩,⟨o2a,o2c,o2l⟩⟩,Zq,Zu,ZF,Zx,ZN,a9,ZA,Zw,Zr,Zy,Zp,Zz,⟨Zt,Zs,Zl⟩,ZE,ZG⟩).table.succ=[] from List.length_eq_zero_iff.1 (show o1l.length=0 from by omega))] at h3
      refine ⟨_,M3,[(bw,rowO (ZQ.segs ⟨⟨⟨⟨oa,oi⟩,⟨oq,oj⟩,⟨o1a,o1c,o1l⟩,⟨o2a,o2c,o2l⟩⟩,Zq,Zu,ZF,Zx,ZN,a9,ZA,Zw,Zr,Zy,Zp,Zz,⟨Zt,Zs,Zl⟩,ZE,ZG⟩,⟨none,0,[]⟩⟩) 68)],rfl,(hM2.trans hm3),hw.c,rfl,⟨⟨⟨oa,oi⟩,⟨oq,oj⟩,⟨o1a,o1c,o1l⟩,⟨o2a,o2c,o2l⟩⟩,Zq,Zu,ZF,Zx,ZN,a9,ZA,Zw,Zr,Zy,Zp,Zz,⟨Zt,Zs,Zl⟩,ZE,ZG⟩,⟨none,0,[]⟩,rfl,?_,?_,⟨okt,(k9.mono hm3)⟩,SlK.nil,fun y hy=>by cases hy⟩
      ·rw [h3] <;> rfl
      ·rw [h3] <;> rfl
   ·replace hc2:=dF hc2
    iterate 8 refine ZU ?_
    refine ZK ?_;refine Zo (Zn (Y_pk [33,0] ?_));refine Ws rfl ?_;refine Yv (Zn (Y_pk [0] ?_));refine ZI (Zm (l:=[0,1,2,3,4,5,6,7]) rfl ?_);refine Zv ?_;refine ZS ?_;refine Zk F.foff68_0 ?_;refine Zk F.foff32_0 ?_;refine Zk F.foff28_2 ?_;refine ZH F.lay26 ?_;refine YX F.elem26 ?_;refine Yz ?_;refine Zo (Zn (Y_pk [49,0] ?_))
    refine Yx rfl (fun hc8=>?_) (fun hc8=>?_)
    ·replace hc8:=dT hc8
     refine ZI (Zm (l:=[0,1,2,3,4,5,6,7,8,9,10,11]) rfl ?_)
     iterate 2 refine Zv ?_
     refine ZS ?_;refine Zk F.foff68_0 ?_;refine Zk F.foff32_0 ?_;refine ZH F.lay28 ?_;refine X_fs rfl rfl F.ok41 rfl (Vt _ ⟨⟨oa,oi⟩,⟨oq,oj⟩,⟨o1a,o1c,o1l⟩,⟨o2a,o2c,o2l⟩⟩ okt) rfl ?_
     rintro _ rfl
     obtain ⟨⟨fa,fi⟩,hfi⟩:∃ x,Xl (ZL.tb ⟨⟨oa,oi⟩,⟨oq,oj⟩,⟨o1a,o1c,o1l⟩,⟨o2a,o2c,o2l⟩⟩)=x:=⟨_,rfl⟩
     rw [hfi]
     refine Y_field F.fld25_0 F.lay3 ?_;refine ZS ?_;refine Zk F.foff68_0 ?_;refine Zk F.foff32_6 ?_;refine Yi F.lay3 ?_;refine Zo (Zn (Y_pk [0] ?_));refine Xq (l:=[0,1,2,3,4,5,6,7,8,9,10,11,12]) [8] rfl ?_
     iterate 3 refine Zv ?_
     refine ZS ?_;refine Zk F.foff68_0 ?_;refine Zk F.foff32_6 ?_;refine ZH F.lay3 ?_;refine Xg rfl rfl F.bld44 (.cons rfl (by constructor) .nil) rfl rfl ?_;refine Ww rfl rfl rfl F.ok83 rfl (request_ok M3 bw _ _ _ _ _ _ _ _ _ _ _ _ _ _ _ _ _ _ _ _ _ _ _ _ _ _ _ fa ⟨3,⟨0,0⟩,0,0,⟨none,0,[]⟩,false,⟨0,0⟩,⟨none,0,[]⟩⟩) (by repeat first|exact Rem.here _|exact Rem.two|apply Rem.skip|apply Rem.over) (YA rfl) ?_
     rintro _ M5 hs5 hm5 ⟨rfl,⟨o9a,o9c,o9l⟩,rfl,k9o,hl9⟩
     simp only at hl9
     simp only [List.append_assoc,List.cons_append,List.nil_append]
     refine ZS ?_;refine Zk F.foff68_0 ?_;refine Zk F.foff32_7 ?_;refine Yi F.lay29 ?_;refine Zo (Wk ?_)
     refine Ya (.inl rfl) (.nil) (fun w hw=>?_)
     have h2:ZO.nd ⟨⟨⟨oa,oi⟩,⟨oq,oj⟩,⟨o1a,o1c,o1l⟩,⟨o2a,o2c,o2l⟩⟩,Zq,Zu,ZF,Zx,ZN,a9,ZA,Zw,Zr,Zy,Zp,Zz,⟨Zt,Zs,Zl⟩,ZE,ZG⟩=if (ZO.nd ⟨⟨⟨oa,oi⟩,⟨oq,oj⟩,⟨o1a,o1c,o1l⟩,⟨o2a,o2c,o2l⟩⟩,Zq,Zu,ZF,Zx,ZN,a9,ZA,Zw,Zr,Zy,Zp,Zz,⟨Zt,Zs,Zl⟩,ZE,ZG⟩).table.succ=[]∧(ZO.nd ⟨⟨⟨oa,oi⟩,⟨oq,oj⟩,⟨o1a,o1c,o1l⟩,⟨o2a,o2c,o2l⟩⟩,Zq,Zu,ZF,Zx,ZN,a9,ZA,Zw,Zr,Zy,Zp,Zz,⟨Zt,Zs,Zl⟩,ZE,ZG⟩).table.pred≠YW then WF (ZO.nd ⟨⟨⟨oa,oi⟩,⟨oq,oj⟩,⟨o1a,o1c,o1l⟩,⟨o2a,o2c,o2l⟩⟩,Zq,Zu,ZF,Zx,ZN,a9,ZA,Zw,Zr,Zy,Zp,Zz,⟨Zt,Zs,Zl⟩,ZE,ZG⟩) (ZO.nd ⟨⟨⟨oa,oi⟩,⟨oq,oj⟩,⟨o1a,o1c,o1l⟩,⟨o2a,o2c,o2l⟩⟩,Zq,Zu,ZF,Zx,ZN,a9,ZA,Zw,Zr,Zy,Zp,Zz,⟨Zt,Zs,Zl⟩,ZE,ZG⟩).table.pred [] else (ZO.nd ⟨⟨⟨oa,oi⟩,⟨oq,oj⟩,⟨o1a,o1c,o1l⟩,⟨o2a,o2c,o2l⟩⟩,Zq,Zu,ZF,Zx,ZN,a9,ZA,Zw,Zr,Zy,Zp,Zz,⟨Zt,Zs,Zl⟩,ZE,ZG⟩):=by
      rw [if_neg (by rintro ⟨q1,q2⟩;have q3:o1l.length=0:=congrArg List.length q1;omega)]
     have h3:=stab_joined (n:=ZO.nd ⟨⟨⟨Za,Zb⟩,⟨Zc,Zh⟩,⟨Zj,Zi,Zg⟩,⟨Zf,Ze,Zd⟩⟩,Zq,Zu,ZF,Zx,ZN,ZC,ZA,Zw,Zr,Zy,Zp,Zz,⟨Zt,Zs,Zl⟩,ZE,ZG⟩) (by show Zu=true;simp_all) h1 h2
     rw [if_neg (show ¬(ZO.nd ⟨⟨⟨oa,oi⟩,⟨oq,oj⟩,⟨o1a,o1c,o1l⟩,⟨o2a,o2c,o2l⟩⟩,Zq,Zu,ZF,Zx,ZN,a9,ZA,Zw,Zr,Zy,Zp,Zz,⟨Zt,Zs,Zl⟩,ZE,ZG⟩).table.succ=[] from (fun q1=>absurd (show o1l.length=0 from congrArg List.length q1) (by omega))),show Xl (ZO.nd ⟨⟨⟨oa,oi⟩,⟨oq,oj⟩,⟨o1a,o1c,o1l⟩,⟨o2a,o2c,o2l⟩⟩,Zq,Zu,ZF,Zx,ZN,a9,ZA,Zw,Zr,Zy,Zp,Zz,⟨Zt,Zs,Zl⟩,ZE,ZG⟩).table=⟨fa,fi⟩ from hfi] at h3
     refine ⟨_,M5,[(bw,rowO (ZQ.segs ⟨⟨⟨⟨oa,oi⟩,⟨oq,oj⟩,⟨o1a,o1c,o1l⟩,⟨o2a,o2c,o2l⟩⟩,Zq,Zu,ZF,Zx,(nxR ZN),fa,(nxR ZN),Zw,Zr,Zy,Zp,Zz,⟨Zt,Zs,Zl⟩,ZE,ZG⟩,⟨o9a,o9c,o9l⟩⟩) 68)],rfl,((hM2.trans hm3).trans hm5),hw.c,rfl,⟨⟨⟨oa,oi⟩,⟨oq,oj⟩,⟨o1a,o1c,o1l⟩,⟨o2a,o2c,o2l⟩⟩,Zq,Zu,ZF,Zx,(nxR ZN),fa,(nxR ZN),Zw,Zr,Zy,Zp,Zz,⟨Zt,Zs,Zl⟩,ZE,ZG⟩,⟨o9a,o9c,o9l⟩,rfl,?_,?_,⟨okt.mono hm5,(k9.mono hm3).mono hm5⟩,k9o,fun y hy=>?_⟩
     ·rw [h3] <;> rfl
     ·rw [h3]
      show sndl o9l=_
      rw [hl9];rfl
     ·simp only at hy
      rw [hl9] at hy
      obtain rfl:=List.mem_singleton.1 hy
      exact ⟨⟨SlK.nil,SlK.nil⟩⟩
    ·replace hc8:=dF hc8
     (exfalso;omega)
end Go.Proofs.YtajmnjefajknoaaGreat
namespace Go.Proofs.YtajmnjefajknoaaGreat
open Go.Esp
theorem F.ok19:okFn Tryz.prog 19=true:=by kernel_rfl
theorem F.ok87:okFn Tryz.prog 87=true:=by kernel_rfl
theorem F.ok88:okFn Tryz.prog 88=true:=by kernel_rfl
theorem fix_ok (M:Mem) (bw:Nat) (Za:Int) (Zb:Plc) (Zc:Int) (Zh:Plc) (Zj Zf Zt:Option Addr) (Zi Ze Zs:Nat) (Zg Zd:List ZD) (Zl:List Int) (Zq:Int) (Zu:Bool) (ZF Zx ZN ZC ZA Zw Zr Zy Zp:Int) (Zz:Plc) (ZE ZG:Int) (Yj:ZL.ok M ⟨⟨Za,Zb⟩,⟨Zc,Zh⟩,⟨Zj,Zi,Zg⟩,⟨Zf,Ze,Zd⟩⟩) (hbig:Zg.length≤40∧Zd.length≤200) (hcu:0≤Zx∧Zx≤159) (hav:Hp) (hA:OSl 3 1 (.slice Zt Zl.length Zs) hav (Zl.map (oneI .i64))) (hLa:Zl.length≤900):Fh Tryz.prog 34 [.pointer (some ⟨bw,0,none⟩)] M ((bw,rowO (ZQ.segs ⟨⟨⟨⟨Za,Zb⟩,⟨Zc,Zh⟩,⟨Zj,Zi,Zg⟩,⟨Zf,Ze,Zd⟩⟩,Zq,Zu,ZF,Zx,ZN,ZC,ZA,Zw,Zr,Zy,Zp,Zz,⟨Zt,Zs,Zl⟩,ZE,ZG⟩,⟨none,0,[]⟩⟩) 68)::hav) (fun M' v Hout=>v=.tuple #[]∧WkF bw 68 M' Hout (fixN (ZO.nd ⟨⟨⟨Za,Zb⟩,⟨Zc,Zh⟩,⟨Zj,Zi,Zg⟩,⟨Zf,Ze,Zd⟩⟩,Zq,Zu,ZF,Zx,ZN,ZC,ZA,Zw,Zr,Zy,Zp,Zz,⟨Zt,Zs,Zl⟩,ZE,ZG⟩))):=by
  obtain ⟨kn,rfl⟩:∃ kn:Nat,Zx=(kn:Int):=⟨Zx.toNat,by omega⟩
  refine XP (fun H=>(bw,rowO (ZQ.segs ⟨⟨⟨⟨Za,Zb⟩,⟨Zc,Zh⟩,⟨Zj,Zi,Zg⟩,⟨Zf,Ze,Zd⟩⟩,Zq,Zu,ZF,(kn:Int),ZN,ZC,ZA,Zw,Zr,Zy,Zp,Zz,⟨Zt,Zs,Zl⟩,ZE,ZG⟩,⟨none,0,[]⟩⟩) 68)::(hav++H)) (fun _=>by simp only [List.append_assoc,List.cons_append,List.nil_append]) Tryz.func34 rfl Tryz.ntmps34 rfl ?_;intro H
  iterate 2 refine ZI ?_
  refine Zm (l:=[0,1,2,3,4,5]) rfl ?_;refine Zv ?_;refine ZS ?_;refine Zk F.foff68_0 ?_;refine Zk F.foff32_2 ?_;refine ZH F.lay4 ?_;refine Xx ?_;refine Zo (Zn (Y_pk [14,0] ?_))
  refine Yx rfl (fun hc1=>?_) (fun hc1=>?_)
  ·skip
   refine Yg (YG ?_)
   refine Ya (.inr rfl) (.nil) (fun w hw=>?_)
   obtain ⟨M9,j1,j2,j3⟩:=OSl.frz (H:=(bw,rowO (ZQ.segs ⟨⟨⟨⟨Za,Zb⟩,⟨Zc,Zh⟩,⟨Zj,Zi,Zg⟩,⟨Zf,Ze,Zd⟩⟩,Zq,Zu,ZF,(kn:Int),ZN,ZC,ZA,Zw,Zr,Zy,Zp,Zz,⟨Zt,Zs,Zl⟩,ZE,ZG⟩,⟨none,0,[]⟩⟩) 68)::H) hA (hw.c)
   refine ⟨_,M9,[(bw,rowO (ZQ.segs ⟨⟨⟨⟨Za,Zb⟩,⟨Zc,Zh⟩,⟨Zj,Zi,Zg⟩,⟨Zf,Ze,Zd⟩⟩,Zq,Zu,ZF,(kn:Int),ZN,ZC,ZA,Zw,Zr,Zy,Zp,Zz,⟨Zt,Zs,Zl⟩,ZE,ZG⟩,⟨none,0,[]⟩⟩) 68)],rfl,j1,j2,rfl,⟨⟨⟨Za,Zb⟩,⟨Zc,Zh⟩,⟨Zj,Zi,Zg⟩,⟨Zf,Ze,Zd⟩⟩,Zq,Zu,ZF,(kn:Int),ZN,ZC,ZA,Zw,Zr,Zy,Zp,Zz,⟨Zt,Zs,Zl⟩,ZE,ZG⟩,⟨none,0,[]⟩,rfl,?_,?_,⟨Yj.mono j1,j3⟩,SlK.nil,fun y hy=>by cases hy⟩
   ·rw [fix_out (n:=ZO.nd ⟨⟨⟨Za,Zb⟩,⟨Zc,Zh⟩,⟨Zj,Zi,Zg⟩,⟨Zf,Ze,Zd⟩⟩,Zq,Zu,ZF,(kn:Int),ZN,ZC,ZA,Zw,Zr,Zy,Zp,Zz,⟨Zt,Zs,Zl⟩,ZE,ZG⟩) (show Zu=false by simp_all)]
   ·rw [fix_out (n:=ZO.nd ⟨⟨⟨Za,Zb⟩,⟨Zc,Zh⟩,⟨Zj,Zi,Zg⟩,⟨Zf,Ze,Zd⟩⟩,Zq,Zu,ZF,(kn:Int),ZN,ZC,ZA,Zw,Zr,Zy,Zp,Zz,⟨Zt,Zs,Zl⟩,ZE,ZG⟩) (show Zu=false by simp_all)] <;> rfl
  ·skip
   refine Yv (Zn (Y_pk [0] ?_))
   iterate 2 refine ZI ?_
   refine Zm (l:=[0,1,2,3,4,5]) rfl ?_;refine Zv ?_;refine ZS ?_;refine Zk F.foff68_0 ?_;refine Zk F.foff32_10 ?_;refine ZH F.lay3 ?_;refine Yz ?_;refine Zo (Zn (Y_pk [20,0] ?_))
   refine Yx rfl (fun hc2=>?_) (fun hc2=>?_)
   ·replace hc2:=dT hc2
    refine Zm (l:=[0,1,2,3,4]) rfl ?_;refine Zv ?_;refine ZS ?_;refine Zk F.foff68_0 ?_;refine Zk F.foff32_13 ?_;refine Yi F.lay30 ?_;refine Zo (Zn (Y_pk [0] ?_));refine ZI ?_
    have hM2:=Mem.le.refl M
    have k9:SlK M (oneI .i64) 1 ⟨none,0,[]⟩:=SlK.nil
    refine Xq (l:=[0,1,2,3,4,5]) [5] rfl ?_
    iterate 2 refine Zv ?_
    refine ZS ?_;refine Zk F.foff68_0 ?_;refine Zk F.foff32_10 ?_;refine Ww rfl rfl rfl F.ok81 rfl (lostF_ok M bw Za Zb Zc Zh Zj Zf none Zi Ze 0 Zg Zd [] Zq Zu ZF (kn:Int) ZN ZC ZA Zw Zr Zy Zp Zz ZE ZG (Yj.mono hM2) hbig) (by repeat first|exact Rem.here _|exact Rem.two|apply Rem.skip|apply Rem.over) (YA rfl) ?_
    rintro _ M3 hs3 hm3 ⟨rfl,⟨⟨oa,oi⟩,⟨oq,oj⟩,⟨o1a,o1c,o1l⟩,⟨o2a,o2c,o2l⟩⟩,a9,rfl,okt,hlo⟩
    have hbo:=lost_big (congrArg Prod.fst hlo) hbig
    have h2:=fix_nil (n:=ZO.nd ⟨⟨⟨Za,Zb⟩,⟨Zc,Zh⟩,⟨Zj,Zi,Zg⟩,⟨Zf,Ze,Zd⟩⟩,Zq,Zu,ZF,(kn:Int),ZN,ZC,ZA,Zw,Zr,Zy,Zp,Zz,⟨Zt,Zs,Zl⟩,ZE,ZG⟩) hlo (show Zy=-1 by omega)
    simp only [List.append_assoc,List.cons_append,List.nil_append]
    refine Zo (Wk ?_);refine Zn (Y_pk [0] ?_);refine ZI (Zm (l:=[0,1,2,3,4,5,6,7,8,9,10,11]) rfl ?_);refine Zv ?_;refine ZS ?_;refine Zk F.foff68_0 ?_;refine Zk F.foff32_4 ?_;refine ZH F.lay3 ?_;refine X_fs rfl rfl F.ok85 rfl (Power_ok_in _ kn (by omega)) rfl ?_
    rintro _ rfl
    refine Zv ?_
    iterate 2 refine Xz ?_
    refine YT F.zero23 ?_;intro b3
    refine Yi F.lay23 ?_;refine ZB ?_;refine Zo (Zn (Y_pk [2,0] ?_));refine ZI (Yy (l:=[0,1,2,3,4,5,6,7,8,9,10]) #[0,1,3,7,15,31,63,0,255,0,1023] _ rfl (by kernel_rfl) (by kernel_rfl) St.drawn (fun _ h=>h) ?_);refine Zv ?_;refine ZS ?_;refine Zk F.foff68_0 ?_;refine Zk F.foff32_0 ?_;refine Zk F.foff28_0 ?_;refine Zk F.foff25_1 ?_
    iterate 2 refine ZH F.lay23 ?_
    refine X_fs rfl rfl F.ok86 rfl (Plus_ok _ _ _) rfl ?_
    rintro _ rfl
    refine YT F.zero23 ?_;intro b4
    refine Yi F.lay23 ?_;refine Zo (Zn (Y_pk [4,0] ?_))
    iterate 2 refine ZI ?_
    refine Yy (l:=[0,1,2,3,4,5,6,7,8,9,10,11,12]) #[0,1,3,7,15,0,63,127,255,255,0,1535,4095] _ rfl (by kernel_rfl) (by kernel_rfl) St.drawn (fun _ h=>h) ?_;refine Zv ?_;refine ZS ?_;refine Zk F.foff68_0 ?_;refine Zk F.foff32_0 ?_;refine ZH F.lay28 ?_;refine ZH F.lay23 ?_;refine X_fs rfl rfl F.ok19 rfl (Done_ok _ ⟨⟨oa,oi⟩,⟨oq,oj⟩,⟨o1a,o1c,o1l⟩,⟨o2a,o2c,o2l⟩⟩ (oi+powP kn) okt) rfl ?_
    rintro _ rfl
    obtain ⟨⟨⟨da,di⟩,db⟩,hd⟩:∃ x,VN (ZL.tb ⟨⟨oa,oi⟩,⟨oq,oj⟩,⟨o1a,o1c,o1l⟩,⟨o2a,o2c,o2l⟩⟩) (oi+powP kn)=x:=⟨_,rfl⟩
    rw [hd]
    refine Zv ?_
    iterate 2 refine Xz ?_
    refine YT F.zero25 ?_;intro b5
    refine Yi F.lay25 ?_;refine ZB ?_;refine Zo (Zn (Y_pk [6,5,4,0] ?_));refine ZI (Zm (l:=[0]) rfl ?_);refine Zv ?_;refine Zo (Zn (Y_pk [66,5,4,0] ?_))
    refine Yx rfl (fun hc6=>?_) (fun hc6=>?_)
    ·skip
     simp only [ZD.eta,ZL.eta,ZO.eta,ZM.eta,Yd.eta,ZQ.eta,YI.eta,ZX.eta] at hc6
     refine ZI (Xq (l:=[0,1,2]) [2] rfl ?_);refine Zv ?_;refine ZH F.lay25 ?_;refine Ww rfl rfl rfl F.ok87 rfl (point_ok M3 bw oa oi oq oj o1a o2a none o1c o2c 0 o1l o2l [] Zq Zu ZF (kn:Int) ZN ZC ZA Zw Zr a9 Zp Zz ZE ZG okt ⟨da,di⟩) (by repeat first|exact Rem.here _|exact Rem.two|apply Rem.skip|apply Rem.over) (YA rfl) ?_
     rintro _ M4 hs4 hm4 ⟨rfl,⟨⟨wa,wi⟩,⟨wq,wj⟩,⟨w1a,w1c,w1l⟩,⟨w2a,w2c,w2l⟩⟩,c9,rfl,okl,hv1⟩
     simp only [List.append_assoc,List.cons_append,List.nil_append]
     refine Zo (Wk ?_);refine Zn (Y_pk [4,0] ?_);refine Yg (YG ?_)
     refine Ya (.inr rfl) (.nil) (fun w hw=>?_)
     have h3:=fix_eq (n:=ZO.nd ⟨⟨⟨Za,Zb⟩,⟨Zc,Zh⟩,⟨Zj,Zi,Zg⟩,⟨Zf,Ze,Zd⟩⟩,Zq,Zu,ZF,(kn:Int),ZN,ZC,ZA,Zw,Zr,Zy,Zp,Zz,⟨Zt,Zs,Zl⟩,ZE,ZG⟩) (m:=(ZO.nd ⟨⟨⟨oa,oi⟩,⟨oq,oj⟩,⟨o1a,o1c,o1l⟩,⟨o2a,o2c,o2l⟩⟩,Zq,Zu,ZF,(kn:Int),ZN,ZC,ZA,Zw,Zr,a9,Zp,Zz,⟨none,0,[]⟩,ZE,ZG⟩)) (id:=(oi+powP kn)) (by show Zu=true;simp_all) h2 rfl
     rw [show VN (ZO.nd ⟨⟨⟨oa,oi⟩,⟨oq,oj⟩,⟨o1a,o1c,o1l⟩,⟨o2a,o2c,o2l⟩⟩,Zq,Zu,ZF,(kn:Int),ZN,ZC,ZA,Zw,Zr,a9,Zp,Zz,⟨none,0,[]⟩,ZE,ZG⟩).table (oi+powP kn)=_ from hd] at h3
     rw [if_pos (by show db=true;simp_all)] at h3
     exact ⟨_,M4,[(bw,rowO (ZQ.segs ⟨⟨⟨⟨wa,wi⟩,⟨wq,wj⟩,⟨w1a,w1c,w1l⟩,⟨w2a,w2c,w2l⟩⟩,Zq,Zu,ZF,c9,ZN,ZC,ZA,Zw,Zr,a9,Zp,Zz,⟨none,0,[]⟩,ZE,ZG⟩,⟨none,0,[]⟩⟩) 68)],rfl,(hM2.trans hm3).trans hm4,hw.c,rfl,⟨⟨⟨wa,wi⟩,⟨wq,wj⟩,⟨w1a,w1c,w1l⟩,⟨w2a,w2c,w2l⟩⟩,Zq,Zu,ZF,c9,ZN,ZC,ZA,Zw,Zr,a9,Zp,Zz,⟨none,0,[]⟩,ZE,ZG⟩,⟨none,0,[]⟩,rfl,by rw [h3];exact hv1,by rw [h3];rfl,⟨okl,(k9.mono hm3).mono hm4⟩,SlK.nil,fun y hy=>by cases hy⟩
    ·skip
     simp only [ZD.eta,ZL.eta,ZO.eta,ZM.eta,Yd.eta,ZQ.eta,YI.eta,ZX.eta] at hc6
     refine Yv (Zn (Y_pk [4,0] ?_));refine ZI (Yy (l:=[0,1,2,3,4,5,6,7,8,9,10,11,12,13,14,15,16,17]) #[0,1,3,7,15,0,0,64,192,448,960,2047,4095,8191,8191,0,49151,131071] _ rfl (by kernel_rfl) (by kernel_rfl) St.drawn (fun _ h=>h) ?_);refine Zv ?_;refine ZS ?_;refine Zk F.foff68_0 ?_;refine Zk F.foff32_0 ?_;refine ZH F.lay28 ?_;refine ZH F.lay23 ?_;refine Zv ?_;refine ZS ?_;refine Zk F.foff68_0 ?_;refine Zk F.foff32_13 ?_;refine ZH F.lay30 ?_;refine X_fn rfl rfl F.ok88 rfl (Nearest_ok _ ⟨⟨oa,oi⟩,⟨oq,oj⟩,⟨o1a,o1c,o1l⟩,⟨o2a,o2c,o2l⟩⟩ (oi+powP kn) ⟨none,0,[]⟩ okt (k9.mono hm3) hbo) rfl ?_
     rintro _ M4 hm4 rfl
     obtain ⟨⟨⟨qa,qi⟩,qb⟩,hq⟩:∃ x,WB (ZL.tb ⟨⟨oa,oi⟩,⟨oq,oj⟩,⟨o1a,o1c,o1l⟩,⟨o2a,o2c,o2l⟩⟩) (oi+powP kn) (⟨none,0,[]⟩:Sl Int).l=x:=⟨_,rfl⟩
     rw [hq]
     refine Zv ?_
     iterate 2 refine Xz ?_
     refine YT F.zero25 ?_;intro b7
     refine Yi F.lay25 ?_;refine ZB ?_;refine Zo (Zn (Y_pk [8,7,4,0] ?_))
     iterate 2 refine ZI ?_
     refine Zm (l:=[0,1]) rfl ?_;refine Zv ?_;refine Xx ?_;refine Zo (Zn (Y_pk [86,7,4,0] ?_))
     refine Yx rfl (fun hc8=>?_) (fun hc8=>?_)
     ·skip
      simp only [ZD.eta,ZL.eta,ZO.eta,ZM.eta,Yd.eta,ZQ.eta,YI.eta,ZX.eta] at hc8
      refine ZI (Zm (l:=[0,1,2,3,4]) rfl ?_);refine Zv ?_;refine ZS ?_;refine Zk F.foff68_0 ?_;refine Zk F.foff32_4 ?_;refine Yi F.lay3 ?_;refine Zo (Zn (Y_pk [7,4,0] ?_));refine Yg (YG ?_)
      refine Ya (.inr rfl) (.nil) (fun w hw=>?_)
      have h3:=fix_eq (n:=ZO.nd ⟨⟨⟨Za,Zb⟩,⟨Zc,Zh⟩,⟨Zj,Zi,Zg⟩,⟨Zf,Ze,Zd⟩⟩,Zq,Zu,ZF,(kn:Int),ZN,ZC,ZA,Zw,Zr,Zy,Zp,Zz,⟨Zt,Zs,Zl⟩,ZE,ZG⟩) (m:=(ZO.nd ⟨⟨⟨oa,oi⟩,⟨oq,oj⟩,⟨o1a,o1c,o1l⟩,⟨o2a,o2c,o2l⟩⟩,Zq,Zu,ZF,(kn:Int),ZN,ZC,ZA,Zw,Zr,a9,Zp,Zz,⟨none,0,[]⟩,ZE,ZG⟩)) (id:=(oi+powP kn)) (by show Zu=true;simp_all) h2 rfl
      rw [show VN (ZO.nd ⟨⟨⟨oa,oi⟩,⟨oq,oj⟩,⟨o1a,o1c,o1l⟩,⟨o2a,o2c,o2l⟩⟩,Zq,Zu,ZF,(kn:Int),ZN,ZC,ZA,Zw,Zr,a9,Zp,Zz,⟨none,0,[]⟩,ZE,ZG⟩).table (oi+powP kn)=_ from hd] at h3
      rw [if_neg (by show ¬db=true;simp_all),show WB (ZO.nd ⟨⟨⟨oa,oi⟩,⟨oq,oj⟩,⟨o1a,o1c,o1l⟩,⟨o2a,o2c,o2l⟩⟩,Zq,Zu,ZF,(kn:Int),ZN,ZC,ZA,Zw,Zr,a9,Zp,Zz,⟨none,0,[]⟩,ZE,ZG⟩).table (oi+powP kn) (ZO.nd ⟨⟨⟨oa,oi⟩,⟨oq,oj⟩,⟨o1a,o1c,o1l⟩,⟨o2a,o2c,o2l⟩⟩,Zq,Zu,ZF,(kn:Int),ZN,ZC,ZA,Zw,Zr,a9,Zp,Zz,⟨none,0,[]⟩,ZE,ZG⟩).avoid=_ from hq] at h3
      rw [if_pos (by show qb=false;simp_all)] at h3
      refine ⟨_,M4,[(bw,rowO (ZQ.segs ⟨⟨⟨⟨oa,oi⟩,⟨oq,oj⟩,⟨o1a,o1c,o1l⟩,⟨o2a,o2c,o2l⟩⟩,Zq,Zu,ZF,0,ZN,ZC,ZA,Zw,Zr,a9,Zp,Zz,⟨none,0,[]⟩,ZE,ZG⟩,⟨none,0,[]⟩⟩) 68)],rfl,((hM2.trans hm3).trans hm4),hw.c,rfl,⟨⟨⟨oa,oi⟩,⟨oq,oj⟩,⟨o1a,o1c,o1l⟩,⟨o2a,o2c,o2l⟩⟩,Zq,Zu,ZF,0,ZN,ZC,ZA,Zw,Zr,a9,Zp,Zz,⟨none,0,[]⟩,ZE,ZG⟩,⟨none,0,[]⟩,rfl,?_,?_,⟨okt.mono hm4,(k9.mono hm3).mono hm4⟩,SlK.nil,fun y hy=>by cases hy⟩
      ·rw [h3] <;> rfl
      ·rw [h3] <;> rfl
     ·skip
      simp only [ZD.eta,ZL.eta,ZO.eta,ZM.eta,Yd.eta,ZQ.eta,YI.eta,ZX.eta] at hc8
      refine Yv (Zn (Y_pk [7,4,0] ?_));refine ZI (Zm (l:=[0,1,2,3,4,5,6,7,8,9,10]) rfl ?_)
      iterate 2 refine Zv ?_
      refine ZH F.lay23 ?_;refine ZS ?_;refine Zk F.foff68_0 ?_;refine Zk F.foff32_12 ?_;refine Yi F.lay23 ?_;refine ZS ?_;refine Zk F.foff68_0 ?_;refine Zk F.foff32_14 ?_;refine Yi F.lay3 ?_;refine Zo (Zn (Y_pk [7,0] ?_));refine Xq (l:=[0,1,2,3]) [3] rfl ?_;refine Zv ?_;refine Zk F.foff25_0 ?_;refine ZH F.lay3 ?_;refine Ww rfl rfl rfl F.ok89 rfl (seek_ok M4 bw oa oi oq oj o1a o2a none o1c o2c 0 o1l o2l [] Zq Zu ZF (kn:Int) ZN ZC ZA Zw Zr a9 Zp (oi+powP kn) 0 ZG (okt.mono hm4) ((k9.mono hm3).mono hm4) (by (simp;done)) qa) (by repeat first|exact Rem.here _|exact Rem.two|apply Rem.skip|apply Rem.over) (YA rfl) ?_
      rintro _ M5 hs5 hm5 ⟨rfl,⟨⟨⟨YK,YU⟩,⟨YL,YV⟩,⟨Xb,Xa,YZ⟩,⟨YO,YN,YM⟩⟩,XI,XO,Wt,XH,WI,XY,XJ,XE,Xs,XF,Xt,XG,⟨Xw,Xv,Xu⟩,Wp,Wo⟩,⟨o_a,o_c,o_l⟩,rfl,hv1,hv2,okv,oko,okq⟩
      simp only [List.append_assoc,List.cons_append,List.nil_append]
      refine Zo (Wk ?_)
      refine Ya (.inl rfl) (.nil) (fun w hw=>?_)
      have h3:=fix_eq (n:=ZO.nd ⟨⟨⟨Za,Zb⟩,⟨Zc,Zh⟩,⟨Zj,Zi,Zg⟩,⟨Zf,Ze,Zd⟩⟩,Zq,Zu,ZF,(kn:Int),ZN,ZC,ZA,Zw,Zr,Zy,Zp,Zz,⟨Zt,Zs,Zl⟩,ZE,ZG⟩) (m:=(ZO.nd ⟨⟨⟨oa,oi⟩,⟨oq,oj⟩,⟨o1a,o1c,o1l⟩,⟨o2a,o2c,o2l⟩⟩,Zq,Zu,ZF,(kn:Int),ZN,ZC,ZA,Zw,Zr,a9,Zp,Zz,⟨none,0,[]⟩,ZE,ZG⟩)) (id:=(oi+powP kn)) (by show Zu=true;simp_all) h2 rfl
      rw [show VN (ZO.nd ⟨⟨⟨oa,oi⟩,⟨oq,oj⟩,⟨o1a,o1c,o1l⟩,⟨o2a,o2c,o2l⟩⟩,Zq,Zu,ZF,(kn:Int),ZN,ZC,ZA,Zw,Zr,a9,Zp,Zz,⟨none,0,[]⟩,ZE,ZG⟩).table (oi+powP kn)=_ from hd] at h3
      rw [if_neg (by show ¬db=true;simp_all),show WB (ZO.nd ⟨⟨⟨oa,oi⟩,⟨oq,oj⟩,⟨o1a,o1c,o1l⟩,⟨o2a,o2c,o2l⟩⟩,Zq,Zu,ZF,(kn:Int),ZN,ZC,ZA,Zw,Zr,a9,Zp,Zz,⟨none,0,[]⟩,ZE,ZG⟩).table (oi+powP kn) (ZO.nd ⟨⟨⟨oa,oi⟩,⟨oq,oj⟩,⟨o1a,o1c,o1l⟩,⟨o2a,o2c,o2l⟩⟩,Zq,Zu,ZF,(kn:Int),ZN,ZC,ZA,Zw,Zr,a9,Zp,Zz,⟨none,0,[]⟩,ZE,ZG⟩).avoid=_ from hq] at h3
      rw [if_neg (by show ¬qb=false;simp_all)] at h3
      exact ⟨_,M5,[(bw,rowO (ZQ.segs ⟨⟨⟨⟨YK,YU⟩,⟨YL,YV⟩,⟨Xb,Xa,YZ⟩,⟨YO,YN,YM⟩⟩,XI,XO,Wt,XH,WI,XY,XJ,XE,Xs,XF,Xt,XG,⟨Xw,Xv,Xu⟩,Wp,Wo⟩,⟨o_a,o_c,o_l⟩⟩) 68)],rfl,(((hM2.trans hm3).trans hm4).trans hm5),hw.c,rfl,⟨⟨⟨YK,YU⟩,⟨YL,YV⟩,⟨Xb,Xa,YZ⟩,⟨YO,YN,YM⟩⟩,XI,XO,Wt,XH,WI,XY,XJ,XE,Xs,XF,Xt,XG,⟨Xw,Xv,Xu⟩,Wp,Wo⟩,⟨o_a,o_c,o_l⟩,rfl,by rw [h3];exact hv1,by rw [h3];exact hv2,okv,oko,okq⟩
   ·replace hc2:=dF hc2
    refine Xq (l:=[0,1,2,3,4,5,6]) [6] rfl ?_
    iterate 2 refine Zv ?_
    refine ZS ?_;refine Zk F.foff68_0 ?_;refine Zk F.foff32_10 ?_;refine ZH F.lay3 ?_;refine Ww rfl rfl rfl F.ok84 rfl (shun_ok M bw _ _ _ _ _ _ _ _ _ _ _ _ _ _ _ _ _ _ _ _ _ _ _ _ _ _ _ hav hA (by omega) Zy) (by repeat first|exact Rem.here _|exact Rem.two|apply Rem.skip|apply Rem.over) (YA rfl) ?_
    rintro _ M1 hs1 hm1 ⟨hM1,rfl,⟨s_a,s_c,s_l⟩,hs9,rfl,ho9,hl9⟩
    subst M1
    simp only [Sl.val] at ho9
    simp only at hl9
    have hLs:s_l.length≤901:=shun_len hl9 hLa
    simp only [List.append_assoc,List.cons_append,List.nil_append]
    refine Zo (Wk ?_);refine Zn (Y_pk [0] ?_);refine ZI ?_
    refine C_frz ho9 (by repeat first|exact Rem.here _|exact Rem.two|apply Rem.skip|apply Rem.over) (fun M2 hM2 k9=>?_)
    refine Xq (l:=[0,1,2,3,4,5]) [5] rfl ?_
    iterate 2 refine Zv ?_
    refine ZS ?_;refine Zk F.foff68_0 ?_;refine Zk F.foff32_10 ?_;refine Ww rfl rfl rfl F.ok81 rfl (lostF_ok M2 bw Za Zb Zc Zh Zj Zf s_a Zi Ze s_c Zg Zd s_l Zq Zu ZF (kn:Int) ZN ZC ZA Zw Zr Zy Zp Zz ZE ZG (Yj.mono hM2) hbig) (by repeat first|exact Rem.here _|exact Rem.two|apply Rem.skip|apply Rem.over) (YA rfl) ?_
    rintro _ M3 hs3 hm3 ⟨rfl,⟨⟨oa,oi⟩,⟨oq,oj⟩,⟨o1a,o1c,o1l⟩,⟨o2a,o2c,o2l⟩⟩,a9,rfl,okt,hlo⟩
    have hbo:=lost_big (congrArg Prod.fst hlo) hbig
    have h2:=fix_shun (n:=ZO.nd ⟨⟨⟨Za,Zb⟩,⟨Zc,Zh⟩,⟨Zj,Zi,Zg⟩,⟨Zf,Ze,Zd⟩⟩,Zq,Zu,ZF,(kn:Int),ZN,ZC,ZA,Zw,Zr,Zy,Zp,Zz,⟨Zt,Zs,Zl⟩,ZE,ZG⟩) (l:=s_l) hlo (show Zy≠-1 by omega) hl9
    simp only [List.append_assoc,List.cons_append,List.nil_append]
    refine Zo (Wk ?_);refine Zn (Y_pk [0] ?_);refine ZI (Zm (l:=[0,1,2,3,4,5,6,7,8,9,10,11]) rfl ?_);refine Zv ?_;refine ZS ?_;refine Zk F.foff68_0 ?_;refine Zk F.foff32_4 ?_;refine ZH F.lay3 ?_;refine X_fs rfl rfl F.ok85 rfl (Power_ok_in _ kn (by omega)) rfl ?_
    rintro _ rfl
    refine Zv ?_
    iterate 2 refine Xz ?_
    refine YT F.zero23 ?_;intro b9
    refine Yi F.lay23 ?_;refine ZB ?_;refine Zo (Zn (Y_pk [2,0] ?_));refine ZI (Yy (l:=[0,1,2,3,4,5,6,7,8,9,10]) #[0,1,3,7,15,31,63,0,255,0,1023] _ rfl (by kernel_rfl) (by kernel_rfl) St.drawn (fun _ h=>h) ?_);refine Zv ?_;refine ZS ?_;refine Zk F.foff68_0 ?_;refine Zk F.foff32_0 ?_;refine Zk F.foff28_0 ?_;refine Zk F.foff25_1 ?_
    iterate 2 refine ZH F.lay23 ?_
    refine X_fs rfl rfl F.ok86 rfl (Plus_ok _ _ _) rfl ?_
    rintro _ rfl
    refine YT F.zero23 ?_;intro b10
    refine Yi F.lay23 ?_;refine Zo (Zn (Y_pk [4,0] ?_))
    iterate 2 refine ZI ?_
    refine Yy (l:=[0,1,2,3,4,5,6,7,8,9,10,11,12]) #[0,1,3,7,15,0,63,127,255,255,0,1535,4095] _ rfl (by kernel_rfl) (by kernel_rfl) St.drawn (fun _ h=>h) ?_;refine Zv ?_;refine ZS ?_;refine Zk F.foff68_0 ?_;refine Zk F.foff32_0 ?_;refine ZH F.lay28 ?_;refine ZH F.lay23 ?_;refine X_fs rfl rfl F.ok19 rfl (Done_ok _ ⟨⟨oa,oi⟩,⟨oq,oj⟩,⟨o1a,o1c,o1l⟩,⟨o2a,o2c,o2l⟩⟩ (oi+powP kn) okt) rfl ?_
    rintro _ rfl
    obtain ⟨⟨⟨da,di⟩,db⟩,hd⟩:∃ x,VN (ZL.tb ⟨⟨oa,oi⟩,⟨oq,oj⟩,⟨o1a,o1c,o1l⟩,⟨o2a,o2c,o2l⟩⟩) (oi+powP kn)=x:=⟨_,rfl⟩
    rw [hd]
    refine Zv ?_
    iterate 2 refine Xz ?_
    refine YT F.zero25 ?_;intro b11
    refine Yi F.lay25 ?_;refine ZB ?_;refine Zo (Zn (Y_pk [6,5,4,0] ?_));refine ZI (Zm (l:=[0]) rfl ?_);refine Zv ?_;refine Zo (Zn (Y_pk [66,5,4,0] ?_))
    refine Yx rfl (fun hc12=>?_) (fun hc12=>?_)
    ·skip
     simp only [ZD.eta,ZL.eta,ZO.eta,ZM.eta,Yd.eta,ZQ.eta,YI.eta,ZX.eta] at hc12
     refine ZI (Xq (l:=[0,1,2]) [2] rfl ?_);refine Zv ?_;refine ZH F.lay25 ?_;refine Ww rfl rfl rfl F.ok87 rfl (point_ok M3 bw oa oi oq oj o1a o2a s_a o1c o2c s_c o1l o2l s_l Zq Zu ZF (kn:Int) ZN ZC ZA Zw Zr a9 Zp Zz ZE ZG okt ⟨da,di⟩) (by repeat first|exact Rem.here _|exact Rem.two|apply Rem.skip|apply Rem.over) (YA rfl) ?_
     rintro _ M4 hs4 hm4 ⟨rfl,⟨⟨wa,wi⟩,⟨wq,wj⟩,⟨w1a,w1c,w1l⟩,⟨w2a,w2c,w2l⟩⟩,c9,rfl,okl,hv1⟩
     simp only [List.append_assoc,List.cons_append,List.nil_append]
     refine Zo (Wk ?_);refine Zn (Y_pk [4,0] ?_);refine Yg (YG ?_)
     refine Ya (.inr rfl) (.nil) (fun w hw=>?_)
     have h3:=fix_eq (n:=ZO.nd ⟨⟨⟨Za,Zb⟩,⟨Zc,Zh⟩,⟨Zj,Zi,Zg⟩,⟨Zf,Ze,Zd⟩⟩,Zq,Zu,ZF,(kn:Int),ZN,ZC,ZA,Zw,Zr,Zy,Zp,Zz,⟨Zt,Zs,Zl⟩,ZE,ZG⟩) (m:=(ZO.nd ⟨⟨⟨oa,oi⟩,⟨oq,oj⟩,⟨o1a,o1c,o1l⟩,⟨o2a,o2c,o2l⟩⟩,Zq,Zu,ZF,(kn:Int),ZN,ZC,ZA,Zw,Zr,a9,Zp,Zz,⟨s_a,s_c,s_l⟩,ZE,ZG⟩)) (id:=(oi+powP kn)) (by show Zu=true;simp_all) h2 rfl
     rw [show VN (ZO.nd ⟨⟨⟨oa,oi⟩,⟨oq,oj⟩,⟨o1a,o1c,o1l⟩,⟨o2a,o2c,o2l⟩⟩,Zq,Zu,ZF,(kn:Int),ZN,ZC,ZA,Zw,Zr,a9,Zp,Zz,⟨s_a,s_c,s_l⟩,ZE,ZG⟩).table (oi+powP kn)=_ from hd] at h3
     rw [if_pos (by show db=true;simp_all)] at h3
     exact ⟨_,M4,[(bw,rowO (ZQ.segs ⟨⟨⟨⟨wa,wi⟩,⟨wq,wj⟩,⟨w1a,w1c,w1l⟩,⟨w2a,w2c,w2l⟩⟩,Zq,Zu,ZF,c9,ZN,ZC,ZA,Zw,Zr,a9,Zp,Zz,⟨s_a,s_c,s_l⟩,ZE,ZG⟩,⟨none,0,[]⟩⟩) 68)],rfl,(hM2.trans hm3).trans hm4,hw.c,rfl,⟨⟨⟨wa,wi⟩,⟨wq,wj⟩,⟨w1a,w1c,w1l⟩,⟨w2a,w2c,w2l⟩⟩,Zq,Zu,ZF,c9,ZN,ZC,ZA,Zw,Zr,a9,Zp,Zz,⟨s_a,s_c,s_l⟩,ZE,ZG⟩,⟨none,0,[]⟩,rfl,by rw [h3];exact hv1,by rw [h3];rfl,⟨okl,(k9.mono hm3).mono hm4⟩,SlK.nil,fun y hy=>by cases hy⟩
    ·skip
     simp only [ZD.eta,ZL.eta,ZO.eta,ZM.eta,Yd.eta,ZQ.eta,YI.eta,ZX.eta] at hc12
     refine Yv (Zn (Y_pk [4,0] ?_));refine ZI (Yy (l:=[0,1,2,3,4,5,6,7,8,9,10,11,12,13,14,15,16,17]) #[0,1,3,7,15,0,0,64,192,448,960,2047,4095,8191,8191,0,49151,131071] _ rfl (by kernel_rfl) (by kernel_rfl) St.drawn (fun _ h=>h) ?_);refine Zv ?_;refine ZS ?_;refine Zk F.foff68_0 ?_;refine Zk F.foff32_0 ?_;refine ZH F.lay28 ?_;refine ZH F.lay23 ?_;refine Zv ?_;refine ZS ?_;refine Zk F.foff68_0 ?_;refine Zk F.foff32_13 ?_;refine ZH F.lay30 ?_;refine X_fn rfl rfl F.ok88 rfl (Nearest_ok _ ⟨⟨oa,oi⟩,⟨oq,oj⟩,⟨o1a,o1c,o1l⟩,⟨o2a,o2c,o2l⟩⟩ (oi+powP kn) ⟨s_a,s_c,s_l⟩ okt (k9.mono hm3) hbo) rfl ?_
     rintro _ M4 hm4 rfl
     obtain ⟨⟨⟨qa,qi⟩,qb⟩,hq⟩:∃ x,WB (ZL.tb ⟨⟨oa,oi⟩,⟨oq,oj⟩,⟨o1a,o1c,o1l⟩,⟨o2a,o2c,o2l⟩⟩) (oi+powP kn) (⟨s_a,s_c,s_l⟩:Sl Int).l=x:=⟨_,rfl⟩
     rw [hq]
     refine Zv ?_
     iterate 2 refine Xz ?_
     refine YT F.zero25 ?_;intro b13
     refine Yi F.lay25 ?_;refine ZB ?_;refine Zo (Zn (Y_pk [8,7,4,0] ?_))
     iterate 2 refine ZI ?_
     refine Zm (l:=[0,1]) rfl ?_;refine Zv ?_;refine Xx ?_;refine Zo (Zn (Y_pk [86,7,4,0] ?_))
     refine Yx rfl (fun hc14=>?_) (fun hc14=>?_)
     ·skip
      simp only [ZD.eta,ZL.eta,ZO.eta,ZM.eta,Yd.eta,ZQ.eta,YI.eta,ZX.eta] at hc14
      refine ZI (Zm (l:=[0,1,2,3,4]) rfl ?_);refine Zv ?_;refine ZS ?_;refine Zk F.foff68_0 ?_;refine Zk F.foff32_4 ?_;refine Yi F.lay3 ?_;refine Zo (Zn (Y_pk [7,4,0] ?_));refine Yg (YG ?_)
      refine Ya (.inr rfl) (.nil) (fun w hw=>?_)
      have h3:=fix_eq (n:=ZO.nd ⟨⟨⟨Za,Zb⟩,⟨Zc,Zh⟩,⟨Zj,Zi,Zg⟩,⟨Zf,Ze,Zd⟩⟩,Zq,Zu,ZF,(kn:Int),ZN,ZC,ZA,Zw,Zr,Zy,Zp,Zz,⟨Zt,Zs,Zl⟩,ZE,ZG⟩) (m:=(ZO.nd ⟨⟨⟨oa,oi⟩,⟨oq,oj⟩,⟨o1a,o1c,o1l⟩,⟨o2a,o2c,o2l⟩⟩,Zq,Zu,ZF,(kn:Int),ZN,ZC,ZA,Zw,Zr,a9,Zp,Zz,⟨s_a,s_c,s_l⟩,ZE,ZG⟩)) (id:=(oi+powP kn)) (by show Zu=true;simp_all) h2 rfl
      rw [show VN (ZO.nd ⟨⟨⟨oa,oi⟩,⟨oq,oj⟩,⟨o1a,o1c,o1l⟩,⟨o2a,o2c,o2l⟩⟩,Zq,Zu,ZF,(kn:Int),ZN,ZC,ZA,Zw,Zr,a9,Zp,Zz,⟨s_a,s_c,s_l⟩,ZE,ZG⟩).table (oi+powP kn)=_ from hd] at h3
      rw [if_neg (by show ¬db=true;simp_all),show WB (ZO.nd ⟨⟨⟨oa,oi⟩,⟨oq,oj⟩,⟨o1a,o1c,o1l⟩,⟨o2a,o2c,o2l⟩⟩,Zq,Zu,ZF,(kn:Int),ZN,ZC,ZA,Zw,Zr,a9,Zp,Zz,⟨s_a,s_c,s_l⟩,ZE,ZG⟩).table (oi+powP kn) (ZO.nd ⟨⟨⟨oa,oi⟩,⟨oq,oj⟩,⟨o1a,o1c,o1l⟩,⟨o2a,o2c,o2l⟩⟩,Zq,Zu,ZF,(kn:Int),ZN,ZC,ZA,Zw,Zr,a9,Zp,Zz,⟨s_a,s_c,s_l⟩,ZE,ZG⟩).avoid=_ from hq] at h3
      rw [if_pos (by show qb=false;simp_all)] at h3
      refine ⟨_,M4,[(bw,rowO (ZQ.segs ⟨⟨⟨⟨oa,oi⟩,⟨oq,oj⟩,⟨o1a,o1c,o1l⟩,⟨o2a,o2c,o2l⟩⟩,Zq,Zu,ZF,0,ZN,ZC,ZA,Zw,Zr,a9,Zp,Zz,⟨s_a,s_c,s_l⟩,ZE,ZG⟩,⟨none,0,[]⟩⟩) 68)],rfl,((hM2.trans hm3).trans hm4),hw.c,rfl,⟨⟨⟨oa,oi⟩,⟨oq,oj⟩,⟨o1a,o1c,o1l⟩,⟨o2a,o2c,o2l⟩⟩,Zq,Zu,ZF,0,ZN,ZC,ZA,Zw,Zr,a9,Zp,Zz,⟨s_a,s_c,s_l⟩,ZE,ZG⟩,⟨none,0,[]⟩,rfl,?_,?_,⟨okt.mono hm4,(k9.mono hm3).mono hm4⟩,SlK.nil,fun y hy=>by cases hy⟩
      ·rw [h3] <;> rfl
      ·rw [h3] <;> rfl
     ·skip
      simp only [ZD.eta,ZL.eta,ZO.eta,ZM.eta,Yd.eta,ZQ.eta,YI.eta,ZX.eta] at hc14
      refine Yv (Zn (Y_pk [7,4,0] ?_));refine ZI (Zm (l:=[0,1,2,3,4,5,6,7,8,9,10]) rfl ?_)
      iterate 2 refine Zv ?_
      refine ZH F.lay23 ?_;refine ZS ?_;refine Zk F.foff68_0 ?_;refine Zk F.foff32_12 ?_;refine Yi F.lay23 ?_;refine ZS ?_;refine Zk F.foff68_0 ?_;refine Zk F.foff32_14 ?_;refine Yi F.lay3 ?_;refine Zo (Zn (Y_pk [7,0] ?_));refine Xq (l:=[0,1,2,3]) [3] rfl ?_;refine Zv ?_;refine Zk F.foff25_0 ?_;refine ZH F.lay3 ?_;refine Ww rfl rfl rfl F.ok89 rfl (seek_ok M4 bw oa oi oq oj o1a o2a s_a o1c o2c s_c o1l o2l s_l Zq Zu ZF (kn:Int) ZN ZC ZA Zw Zr a9 Zp (oi+powP kn) 0 ZG (okt.mono hm4) ((k9.mono hm3).mono hm4) (by omega) qa) (by repeat first|exact Rem.here _|exact Rem.two|apply Rem.skip|apply Rem.over) (YA rfl) ?_
      rintro _ M5 hs5 hm5 ⟨rfl,⟨⟨⟨YK,YU⟩,⟨YL,YV⟩,⟨Xb,Xa,YZ⟩,⟨YO,YN,YM⟩⟩,XI,XO,Wt,XH,WI,XY,XJ,XE,Xs,XF,Xt,XG,⟨Xw,Xv,Xu⟩,Wp,Wo⟩,⟨o_a,o_c,o_l⟩,rfl,hv1,hv2,okv,oko,okq⟩
      simp only [List.append_assoc,List.cons_append,List.nil_append]
      refine Zo (Wk ?_)
      refine Ya (.inl rfl) (.nil) (fun w hw=>?_)
      have h3:=fix_eq (n:=ZO.nd ⟨⟨⟨Za,Zb⟩,⟨Zc,Zh⟩,⟨Zj,Zi,Zg⟩,⟨Zf,Ze,Zd⟩⟩,Zq,Zu,ZF,(kn:Int),ZN,ZC,ZA,Zw,Zr,Zy,Zp,Zz,⟨Zt,Zs,Zl⟩,ZE,ZG⟩) (m:=(ZO.nd ⟨⟨⟨oa,oi⟩,⟨oq,oj⟩,⟨o1a,o1c,o1l⟩,⟨o2a,o2c,o2l⟩⟩,Zq,Zu,ZF,(kn:Int),ZN,ZC,ZA,Zw,Zr,a9,Zp,Zz,⟨s_a,s_c,s_l⟩,ZE,ZG⟩)) (id:=(oi+powP kn)) (by show Zu=true;simp_all) h2 rfl
      rw [show VN (ZO.nd ⟨⟨⟨oa,oi⟩,⟨oq,oj⟩,⟨o1a,o1c,o1l⟩,⟨o2a,o2c,o2l⟩⟩,Zq,Zu,ZF,(kn:Int),ZN,ZC,ZA,Zw,Zr,a9,Zp,Zz,⟨s_a,s_c,s_l⟩,ZE,ZG⟩).table (oi+powP kn)=_ from hd] at h3
      rw [if_neg (by show ¬db=true;simp_all),show WB (ZO.nd ⟨⟨⟨oa,oi⟩,⟨oq,oj⟩,⟨o1a,o1c,o1l⟩,⟨o2a,o2c,o2l⟩⟩,Zq,Zu,ZF,(kn:Int),ZN,ZC,ZA,Zw,Zr,a9,Zp,Zz,⟨s_a,s_c,s_l⟩,ZE,ZG⟩).table (oi+powP kn) (ZO.nd ⟨⟨⟨oa,oi⟩,⟨oq,oj⟩,⟨o1a,o1c,o1l⟩,⟨o2a,o2c,o2l⟩⟩,Zq,Zu,ZF,(kn:Int),ZN,ZC,ZA,Zw,Zr,a9,Zp,Zz,⟨s_a,s_c,s_l⟩,ZE,ZG⟩).avoid=_ from hq] at h3
      rw [if_neg (by show ¬qb=false;simp_all)] at h3
      exact ⟨_,M5,[(bw,rowO (ZQ.segs ⟨⟨⟨⟨YK,YU⟩,⟨YL,YV⟩,⟨Xb,Xa,YZ⟩,⟨YO,YN,YM⟩⟩,XI,XO,Wt,XH,WI,XY,XJ,XE,Xs,XF,Xt,XG,⟨Xw,Xv,Xu⟩,Wp,Wo⟩,⟨o_a,o_c,o_l⟩⟩) 68)],rfl,(((hM2.trans hm3).trans hm4).trans hm5),hw.c,rfl,⟨⟨⟨YK,YU⟩,⟨YL,YV⟩,⟨Xb,Xa,YZ⟩,⟨YO,YN,YM⟩⟩,XI,XO,Wt,XH,WI,XY,XJ,XE,Xs,XF,Xt,XG,⟨Xw,Xv,Xu⟩,Wp,Wo⟩,⟨o_a,o_c,o_l⟩,rfl,by rw [h3];exact hv1,by rw [h3];exact hv2,okv,oko,okq⟩
end Go.Proofs.YtajmnjefajknoaaGreat
namespace Go.Proofs.YtajmnjefajknoaaGreat
open Go.Esp
theorem check_ok (M:Mem) (bw:Nat) (Za:Int) (Zb:Plc) (Zc:Int) (Zh:Plc) (Zj Zf Zt:Option Addr) (Zi Ze Zs:Nat) (Zg Zd:List ZD) (Zl:List Int) (Zq:Int) (Zu:Bool) (ZF Zx ZN ZC ZA Zw Zr Zy Zp:Int) (Zz:Plc) (ZE ZG:Int) (Yj:ZL.ok M ⟨⟨Za,Zb⟩,⟨Zc,Zh⟩,⟨Zj,Zi,Zg⟩,⟨Zf,Ze,Zd⟩⟩) (hbig:Zg.length≤40∧Zd.length≤200) (htu:0≤ZG∧ZG≤999999) (hav:Hp) (hA:OSl 3 1 (.slice Zt Zl.length Zs) hav (Zl.map (oneI .i64))) (hLa:Zl.length≤900):Fh Tryz.prog 35 [.pointer (some ⟨bw,0,none⟩)] M ((bw,rowO (ZQ.segs ⟨⟨⟨⟨Za,Zb⟩,⟨Zc,Zh⟩,⟨Zj,Zi,Zg⟩,⟨Zf,Ze,Zd⟩⟩,Zq,Zu,ZF,Zx,ZN,ZC,ZA,Zw,Zr,Zy,Zp,Zz,⟨Zt,Zs,Zl⟩,ZE,ZG⟩,⟨none,0,[]⟩⟩) 68)::hav) (fun M' v Hout=>v=.tuple #[]∧WkF bw 68 M' Hout (checkN (ZO.nd ⟨⟨⟨Za,Zb⟩,⟨Zc,Zh⟩,⟨Zj,Zi,Zg⟩,⟨Zf,Ze,Zd⟩⟩,Zq,Zu,ZF,Zx,ZN,ZC,ZA,Zw,Zr,Zy,Zp,Zz,⟨Zt,Zs,Zl⟩,ZE,ZG⟩))):=by
  obtain ⟨tn,rfl⟩:∃ tn:Nat,ZG=(tn:Int):=⟨ZG.toNat,by omega⟩
  refine XP (fun H=>(bw,rowO (ZQ.segs ⟨⟨⟨⟨Za,Zb⟩,⟨Zc,Zh⟩,⟨Zj,Zi,Zg⟩,⟨Zf,Ze,Zd⟩⟩,Zq,Zu,ZF,Zx,ZN,ZC,ZA,Zw,Zr,Zy,Zp,Zz,⟨Zt,Zs,Zl⟩,ZE,(tn:Int)⟩,⟨none,0,[]⟩⟩) 68)::(hav++H)) (fun _=>by simp only [List.append_assoc,List.cons_append,List.nil_append]) Tryz.func35 rfl Tryz.ntmps35 rfl ?_;intro H
  refine ZI ?_
  refine C_frz hA (by repeat first|exact Rem.here _|exact Rem.two|apply Rem.skip|apply Rem.over) (fun M2 hM2 k9=>?_)
  refine Xq (l:=[0,1,2,3,4,5]) [5] rfl ?_
  iterate 2 refine Zv ?_
  refine ZS ?_;refine Zk F.foff68_0 ?_;refine Zk F.foff32_8 ?_;refine Ww rfl rfl rfl F.ok81 rfl (lostP_ok M2 bw Za Zb Zc Zh Zj Zf Zt Zi Ze Zs Zg Zd Zl Zq Zu ZF Zx ZN ZC ZA Zw Zr Zy Zp Zz ZE (tn:Int) (Yj.mono hM2) hbig) (by repeat first|exact Rem.here _|exact Rem.two|apply Rem.skip|apply Rem.over) (YA rfl) ?_
  rintro _ M3 hs3 hm3 ⟨rfl,⟨⟨oa,oi⟩,⟨oq,oj⟩,⟨o1a,o1c,o1l⟩,⟨o2a,o2c,o2l⟩⟩,a9,rfl,okt,hlo⟩
  have hbo:=lost_big (congrArg Prod.fst hlo) hbig
  have h2:=lost_ping (n:=ZO.nd ⟨⟨⟨Za,Zb⟩,⟨Zc,Zh⟩,⟨Zj,Zi,Zg⟩,⟨Zf,Ze,Zd⟩⟩,Zq,Zu,ZF,Zx,ZN,ZC,ZA,Zw,Zr,Zy,Zp,Zz,⟨Zt,Zs,Zl⟩,ZE,(tn:Int)⟩) hlo
  simp only [List.append_assoc,List.cons_append,List.nil_append]
  refine Zo (Wk ?_);refine Zn (Y_pk [0] ?_);refine ZI (Zm (l:=[0,1,2,3,4,5,6]) rfl ?_);refine Zv ?_;refine ZS ?_;refine Zk F.foff68_0 ?_;refine Zk F.foff32_0 ?_;refine ZH F.lay28 ?_;refine X_fn rfl rfl F.ok90 rfl (Known_ok _ ⟨⟨oa,oi⟩,⟨oq,oj⟩,⟨o1a,o1c,o1l⟩,⟨o2a,o2c,o2l⟩⟩ okt hbo) rfl ?_
  rintro _ M4 hm4 ⟨⟨l_a,l_c,l_l⟩,rfl,hkl,okl⟩
  simp only at hkl
  have s_l:=okl.h1
  simp only at s_l
  have n_l:(l_l.map ZD.segs).length=l_l.length:=List.length_map ..
  have m_l:l_l.length≤9223372036854775807:=okl.h2
  refine ZB ?_;refine Zo (Zn (Y_pk [2,0] ?_))
  iterate 2 refine ZI ?_
  refine Zm (l:=[0,1,2]) rfl ?_;refine Zv ?_;refine YX F.elem26 ?_;refine Yz ?_;refine Zo (Zn (Y_pk [17,2,0] ?_))
  refine Yx rfl (fun hc1=>?_) (fun hc1=>?_)
  ·replace hc1:=dT hc1
   refine Yg (YG ?_)
   refine Ya (.inr rfl) (.nil) (fun w hw=>?_)
   have hl0:l_l=[]:=List.length_eq_zero_iff.1 (by omega)
   rw [hl0] at hkl
   have h3:=check_nil (n:=(ZO.nd ⟨⟨⟨Za,Zb⟩,⟨Zc,Zh⟩,⟨Zj,Zi,Zg⟩,⟨Zf,Ze,Zd⟩⟩,Zq,Zu,ZF,Zx,ZN,ZC,ZA,Zw,Zr,Zy,Zp,Zz,⟨Zt,Zs,Zl⟩,ZE,(tn:Int)⟩)) (m:=(ZO.nd ⟨⟨⟨oa,oi⟩,⟨oq,oj⟩,⟨o1a,o1c,o1l⟩,⟨o2a,o2c,o2l⟩⟩,Zq,Zu,ZF,Zx,ZN,ZC,ZA,a9,Zr,Zy,Zp,Zz,⟨Zt,Zs,Zl⟩,ZE,(tn:Int)⟩)) h2 hkl.symm
   refine ⟨_,M4,[(bw,rowO (ZQ.segs ⟨⟨⟨⟨oa,oi⟩,⟨oq,oj⟩,⟨o1a,o1c,o1l⟩,⟨o2a,o2c,o2l⟩⟩,Zq,Zu,ZF,Zx,ZN,ZC,ZA,a9,Zr,Zy,Zp,Zz,⟨Zt,Zs,Zl⟩,ZE,(tn:Int)⟩,⟨none,0,[]⟩⟩) 68)],rfl,((hM2.trans hm3).trans hm4),hw.c,rfl,⟨⟨⟨oa,oi⟩,⟨oq,oj⟩,⟨o1a,o1c,o1l⟩,⟨o2a,o2c,o2l⟩⟩,Zq,Zu,ZF,Zx,ZN,ZC,ZA,a9,Zr,Zy,Zp,Zz,⟨Zt,Zs,Zl⟩,ZE,(tn:Int)⟩,⟨none,0,[]⟩,rfl,?_,?_,⟨okt.mono hm4,(k9.mono hm3).mono hm4⟩,SlK.nil,fun y hy=>by cases hy⟩
   ·rw [h3] <;> rfl
   ·rw [h3] <;> rfl
  ·replace hc1:=dF hc1
   refine Yv (Zn (Y_pk [2,0] ?_));refine ZI ?_
   obtain ⟨kk,hkt⟩:∃ kk,tn % l_l.length=kk:=⟨_,rfl⟩
   have hkk:kk<l_l.length:=by rw [← hkt];exact Nat.mod_lt _ (by omega)
   refine Zm (l:=[0,1,2,3,4,5,6,7,8,9,10,11,12,13,14,15,16]) rfl ?_
   iterate 3 refine Zv ?_
   refine ZS ?_;refine Zk F.foff68_0 ?_;refine Zk F.foff32_15 ?_;refine ZH F.lay3 ?_;refine Zv ?_;refine YX F.elem26 ?_;refine X_rem rfl rfl rfl rfl (by omega) (by exact rem_nn (by omega)) rfl ?_;refine WV 27 rfl (show _=Value.int .i64 (kk:Int) from by rw [← hkt];rfl) ?_;refine YR rfl rfl rfl rfl F.elem26 (by rfl) (by omega) (by exact SlM.plain (by assumption) (by (simp;omega))) rfl ?_;refine Xp rfl rfl rfl (by exact SlM.plain (by assumption) (by (simp;omega))) F.foff25_0 rfl ?_;refine Xo rfl rfl rfl (by assumption) (by exact XW (by omega)) F.lay3 rfl rfl rfl ?_;refine ZS ?_;refine Zk F.foff68_0 ?_;refine Zk F.foff32_8 ?_;refine Yi F.lay3 ?_;refine Zo (Zn (Y_pk [0] ?_));refine ZI (Xq (l:=[0,1,2,3,4,5,6,7,8,9,10,11,12]) [8] rfl ?_)
   iterate 3 refine Zv ?_
   refine ZS ?_;refine Zk F.foff68_0 ?_;refine Zk F.foff32_8 ?_;refine ZH F.lay3 ?_;refine Xg rfl rfl F.bld44 (.cons rfl (by constructor) .nil) rfl rfl ?_;refine Ww rfl rfl rfl F.ok83 rfl (request_ok M4 bw oa oi oq oj o1a o2a Zt o1c o2c Zs o1l o2l Zl Zq Zu ZF Zx ZN ZC ZA l_l[kk].addr Zr Zy Zp Zz ZE (tn:Int) l_l[kk].addr ⟨6,⟨0,0⟩,0,0,⟨none,0,[]⟩,false,⟨0,0⟩,⟨none,0,[]⟩⟩) (by repeat first|exact Rem.here _|exact Rem.two|apply Rem.skip|apply Rem.over) (YA rfl) ?_
   rintro _ M5 hs5 hm5 ⟨rfl,⟨o9a,o9c,o9l⟩,rfl,k9o,hl9⟩
   simp only at hl9
   simp only [List.append_assoc,List.cons_append,List.nil_append]
   refine ZS ?_;refine Zk F.foff68_0 ?_;refine Zk F.foff32_9 ?_;refine Yi F.lay29 ?_;refine Zo (Wk ?_);refine Zn (Y_pk [0] ?_);refine Zm (l:=[0,1,2,3,4,5,6,7,8,9,10,11]) rfl ?_
   iterate 2 refine Zv ?_
   refine ZS ?_;refine Zk F.foff68_0 ?_;refine Zk F.foff32_15 ?_;refine ZH F.lay3 ?_;refine XN rfl rfl rfl rfl rfl (by exact Xn (by decide) (by omega)) rfl ?_;refine X_rem rfl rfl rfl rfl (by decide) (by exact rem_nn (by omega)) rfl ?_;refine ZS ?_;refine Zk F.foff68_0 ?_;refine Zk F.foff32_15 ?_;refine Yi F.lay3 ?_;refine Zo ?_
   refine Ya (.inl rfl) (.nil) (fun w hw=>?_)
   have h3:=check_cons (n:=(ZO.nd ⟨⟨⟨Za,Zb⟩,⟨Zc,Zh⟩,⟨Zj,Zi,Zg⟩,⟨Zf,Ze,Zd⟩⟩,Zq,Zu,ZF,Zx,ZN,ZC,ZA,Zw,Zr,Zy,Zp,Zz,⟨Zt,Zs,Zl⟩,ZE,(tn:Int)⟩)) (m:=(ZO.nd ⟨⟨⟨oa,oi⟩,⟨oq,oj⟩,⟨o1a,o1c,o1l⟩,⟨o2a,o2c,o2l⟩⟩,Zq,Zu,ZF,Zx,ZN,ZC,ZA,a9,Zr,Zy,Zp,Zz,⟨Zt,Zs,Zl⟩,ZE,(tn:Int)⟩)) h2 hkl.symm hkk hkt rfl
   refine ⟨_,M5,[(bw,rowO (ZQ.segs ⟨⟨⟨⟨oa,oi⟩,⟨oq,oj⟩,⟨o1a,o1c,o1l⟩,⟨o2a,o2c,o2l⟩⟩,Zq,Zu,ZF,Zx,(nxR ZN),ZC,ZA,l_l[kk].addr,(nxR ZN),Zy,Zp,Zz,⟨Zt,Zs,Zl⟩,ZE,(((tn:Int)+1) % 1000000)⟩,⟨o9a,o9c,o9l⟩⟩) 68)],rfl,(((hM2.trans hm3).trans hm4).trans hm5),hw.c,rfl,⟨⟨⟨oa,oi⟩,⟨oq,oj⟩,⟨o1a,o1c,o1l⟩,⟨o2a,o2c,o2l⟩⟩,Zq,Zu,ZF,Zx,(nxR ZN),ZC,ZA,l_l[kk].addr,(nxR ZN),Zy,Zp,Zz,⟨Zt,Zs,Zl⟩,ZE,(((tn:Int)+1) % 1000000)⟩,⟨o9a,o9c,o9l⟩,rfl,?_,?_,⟨(okt.mono hm4).mono hm5,((k9.mono hm3).mono hm4).mono hm5⟩,k9o,fun y hy=>?_⟩
   ·rw [h3] <;> rfl
   ·rw [h3]
    show sndl o9l=_
    rw [hl9];rfl
   ·simp only at hy
    rw [hl9] at hy
    obtain rfl:=List.mem_singleton.1 hy
    exact ⟨⟨SlK.nil,SlK.nil⟩⟩
end Go.Proofs.YtajmnjefajknoaaGreat
namespace Go.Proofs.YtajmnjefajknoaaGreat
open Go.Esp
theorem F.bld68:Bld Tryz.prog 68 [[.one (.int .i64 0),Yq 0,.one (.int .i64 0),Yq 0,.one (.slice none 0 0),.one (.slice none 0 0),.one (.int .i64 0),.one (.bool false),.one (.int .i64 0),.one (.int .i64 0),.one (.int .u64 0),.one (.int .i64 0),.one (.int .u64 0),.one (.int .i64 0),.one (.int .u64 0),.one (.int .i64 0),.one (.int .u64 0),Yq 0,.one (.slice none 0 0),.one (.int .i64 0),.one (.int .i64 0)],[.one (.slice none 0 0)]]:=by rw [VI];exact ⟨by kernel_rfl,by kernel_rfl⟩
theorem F.map65:mapOf Tryz.prog 65=some (3,63):=by kernel_rfl
theorem F.ok27:okFn Tryz.prog 27=true:=by kernel_rfl
theorem F.ok33:okFn Tryz.prog 33=true:=by kernel_rfl
theorem F.ok34:okFn Tryz.prog 34=true:=by kernel_rfl
theorem F.ok35:okFn Tryz.prog 35=true:=by kernel_rfl
theorem F.ok36:okFn Tryz.prog 36=true:=by kernel_rfl
theorem F.zero63:Wa Tryz.prog 63=some (.nilFunc):=by kernel_rfl
theorem of_ok (M:Mem) (Za:Int) (Zb:Plc) (Zc:Int) (Zh:Plc) (Zj Zf Zt:Option Addr) (Zi Ze Zs:Nat) (Zg Zd:List ZD) (Zl:List Int) (Zq:Int) (Zu:Bool) (ZF Zx ZN ZC ZA Zw Zr Zy Zp:Int) (Zz:Plc) (ZE ZG:Int) (Ys:SlK M (oneI .i64) 1 ⟨Zt,Zs,Zl⟩) (hLa:Zl.length≤1000):Fh Tryz.prog 36 [ZO.enc ⟨⟨⟨Za,Zb⟩,⟨Zc,Zh⟩,⟨Zj,Zi,Zg⟩,⟨Zf,Ze,Zd⟩⟩,Zq,Zu,ZF,Zx,ZN,ZC,ZA,Zw,Zr,Zy,Zp,Zz,⟨Zt,Zs,Zl⟩,ZE,ZG⟩] M [] (fun M' v Hout=>M'=M∧∃ (bw:Nat) (a9:Option Addr) (c9:Nat) (hs9:Hp),v=.pointer (some ⟨bw,0,none⟩)∧Hout=(bw,rowO (ZQ.segs ⟨⟨⟨⟨Za,Zb⟩,⟨Zc,Zh⟩,⟨Zj,Zi,Zg⟩,⟨Zf,Ze,Zd⟩⟩,Zq,Zu,ZF,Zx,ZN,ZC,ZA,Zw,Zr,Zy,Zp,Zz,⟨a9,c9,Zl⟩,ZE,ZG⟩,⟨none,0,[]⟩⟩) 68)::hs9∧OSl 3 1 (.slice a9 Zl.length c9) hs9 (Zl.map (oneI .i64))):=by
  refine fh_enter Tryz.func36 rfl Tryz.ntmps36 rfl ?_;intro H
  refine ZI (Zm (l:=[0,1]) rfl ?_)
  refine Xk ?_;intro b1
  refine ZB ?_;refine Zo (Zn (Y_pk [2,1] ?_));refine ZI (Zm (l:=[0,1,2,3,4]) rfl ?_);refine Zk F.foff32_13 ?_;refine ZH F.lay30 ?_;refine VU rfl rfl F.ok91 rfl (CloneI_ok M Zt Zs Zl Ys (by omega)) (by repeat first|exact Rem.here _|exact Rem.two|apply Rem.skip|apply Rem.over) (fun _ _ _ hm hw=>(hw.lower (by exact hm)).c) (YA rfl) ?_
  rintro v0 M1 hs0 hm1 ⟨hM1,ho0⟩;subst M1
  obtain ⟨ad0,cp0,rfl⟩:=ho0.valL
  refine Zk F.foff32_13 ?_;refine Yi F.lay30 ?_;refine Zo (Zn (Y_pk [2,1] ?_));refine ZI (Zm (l:=[0,1,2,3]) rfl ?_);refine ZH F.lay32 ?_;refine Xg rfl rfl F.bld68 (.cons rfl (by constructor) .nil) (setParts_first (by simp only [ZD.segs,ZL.segs,ZO.segs,ZM.segs,Yd.segs,ZQ.segs,YI.segs,ZX.segs,cat,List.append_eq,List.cons_append,List.nil_append,List.append_nil,Segs.len,Seg.len,Yq])) rfl ?_
  refine Xk ?_;intro b2
  refine ZB ?_;refine Zo (Zn (Y_pk [2] ?_));refine Yg ?_
  refine Ya (.inr rfl) (.tmp rfl .nil) (fun w hw=>?_)
  refine ⟨_,M,(b2,rowO (ZQ.segs ⟨⟨⟨⟨Za,Zb⟩,⟨Zc,Zh⟩,⟨Zj,Zi,Zg⟩,⟨Zf,Ze,Zd⟩⟩,Zq,Zu,ZF,Zx,ZN,ZC,ZA,Zw,Zr,Zy,Zp,Zz,⟨ad0,cp0,Zl⟩,ZE,ZG⟩,⟨none,0,[]⟩⟩) 68)::hs0,rfl,Mem.le.refl M,?_,rfl,b2,ad0,cp0,hs0,rfl,rfl,ho0⟩
  simp only [ZQ.segs,Sl.val,List.length_nil] at hw ⊢
  exact hw.c
theorem Tick_yes (M:Mem) (n:ZO) (hn0:ZO.ok M n) (kind:Int) (hk:1≤kind∧kind≤3) (fid:FuncId) (X:Nd→Nd×List Snd) (hl:(WJ (tickL 33 34 35) kind).getD .nilFunc=.func (.func fid) #[] #[]) (hok:okFn Tryz.prog fid=true) (hx:∀ n:Nd,X n=if kind=1 then stabN n else if kind=2 then fixN n else checkN n)
   (hc:∀ (M:Mem) (bw:Nat) (Za:Int) (Zb:Plc) (Zc:Int) (Zh:Plc) (Zj Zf Zt:Option Addr) (Zi Ze Zs:Nat) (Zg Zd:List ZD) (Zl:List Int) (Zq:Int) (Zu:Bool) (ZF Zx ZN ZC ZA Zw Zr Zy Zp:Int) (Zz:Plc) (ZE ZG:Int) (Yj:ZL.ok M ⟨⟨Za,Zb⟩,⟨Zc,Zh⟩,⟨Zj,Zi,Zg⟩,⟨Zf,Ze,Zd⟩⟩) (hbig:Zg.length≤40∧Zd.length≤200) (hcu:0≤Zx∧Zx≤159) (htu:0≤ZG∧ZG≤999999) (hav:Hp) (hA:OSl 3 1 (.slice Zt Zl.length Zs) hav (Zl.map (oneI .i64))) (hLa:Zl.length≤900),Fh Tryz.prog fid [.pointer (some ⟨bw,0,none⟩)] M ((bw,rowO (ZQ.segs ⟨⟨⟨⟨Za,Zb⟩,⟨Zc,Zh⟩,⟨Zj,Zi,Zg⟩,⟨Zf,Ze,Zd⟩⟩,Zq,Zu,ZF,Zx,ZN,ZC,ZA,Zw,Zr,Zy,Zp,Zz,⟨Zt,Zs,Zl⟩,ZE,ZG⟩,⟨none,0,[]⟩⟩) 68)::hav) (fun M' v Hout=>v=.tuple #[]∧WkF bw 68 M' Hout (X (ZO.nd ⟨⟨⟨Za,Zb⟩,⟨Zc,Zh⟩,⟨Zj,Zi,Zg⟩,⟨Zf,Ze,Zd⟩⟩,Zq,Zu,ZF,Zx,ZN,ZC,ZA,Zw,Zr,Zy,Zp,Zz,⟨Zt,Zs,Zl⟩,ZE,ZG⟩)))):Esp.Fn Tryz.prog 11 [n.enc,.int .i64 kind] M (fun M' v=>NtE M' v (VP n.nd kind)):=by
  obtain ⟨⟨⟨Za,Zb⟩,⟨Zc,Zh⟩,⟨Zj,Zi,Zg⟩,⟨Zf,Ze,Zd⟩⟩,Zq,Zu,ZF,Zx,ZN,ZC,ZA,Zw,Zr,Zy,Zp,Zz,⟨Zt,Zs,Zl⟩,ZE,ZG⟩:=n
  have Yj:ZL.ok M ⟨⟨Za,Zb⟩,⟨Zc,Zh⟩,⟨Zj,Zi,Zg⟩,⟨Zf,Ze,Zd⟩⟩:=hn0.h0
  have YQ:SlK M ZD.segs 21 ⟨Zj,Zi,Zg⟩:=hn0.h0.h0
  have s_n_table_succ:SlM M Zj (Zg.map ZD.segs) 21:=YQ.h1
  have n_n_table_succ:(Zg.map ZD.segs).length=Zg.length:=List.length_map ..
  have m_n_table_succ:Zg.length≤9223372036854775807:=YQ.h2
  have c_n_table_succ:Zg.length≤Zi:=YQ.h3
  have YD:SlK M ZD.segs 21 ⟨Zf,Ze,Zd⟩:=hn0.h0.h1
  have s_n_table_fingers:SlM M Zf (Zd.map ZD.segs) 21:=YD.h1
  have n_n_table_fingers:(Zd.map ZD.segs).length=Zd.length:=List.length_map ..
  have m_n_table_fingers:Zd.length≤9223372036854775807:=YD.h2
  have c_n_table_fingers:Zd.length≤Ze:=YD.h3
  have Ys:SlK M (oneI .i64) 1 ⟨Zt,Zs,Zl⟩:=hn0.h1
  have WY:SlM M Zt (Zl.map (oneI .i64)) 1:=Ys.h1
  have n_n_avoid:(Zl.map (oneI .i64)).length=Zl.length:=List.length_map ..
  have Vc:Zl.length≤9223372036854775807:=Ys.h2
  have c_n_avoid:Zl.length≤Zs:=Ys.h3
  refine Wu Tryz.func11 rfl Tryz.ntmps11 rfl ?_;intro H
  refine ZI (Zm (l:=[0,1,2,3]) rfl ?_)
  refine Xk ?_;intro b1
  refine YT F.zero32 ?_;intro b2
  iterate 2 refine ZB ?_
  refine Zo (Zn (Y_pk [6,5,4,2,1] ?_));refine ZI (Zm (l:=[0,1,2,3,4,5]) rfl ?_)
  refine X_makeMap rfl rfl rfl ?_;intro b3
  refine Wy rfl rfl rfl rfl rfl F.map65 imO_nil (by repeat first|exact List.Mem.head _|refine List.Mem.tail _ ?_|refine List.mem_append_right _ ?_) ?_;intro o4 him5;refine ⟨_,(by repeat first|exact Upd.head|apply Upd.tail|apply Upd.over),?_⟩
  refine Wy rfl rfl rfl rfl rfl F.map65 him5 (by repeat first|exact List.Mem.head _|refine List.Mem.tail _ ?_|refine List.mem_append_right _ ?_) ?_;intro o6 him7;refine ⟨_,(by repeat first|exact Upd.head|apply Upd.tail|apply Upd.over),?_⟩
  refine Wy rfl rfl rfl rfl rfl F.map65 him7 (by repeat first|exact List.Mem.head _|refine List.Mem.tail _ ?_|refine List.mem_append_right _ ?_) ?_;intro o8 him9;refine ⟨_,(by repeat first|exact Upd.head|apply Upd.tail|apply Upd.over),?_⟩
  refine Zv ?_;refine ZB ?_;refine Zo (Zn (Y_pk [7,6,5,4,2,1] ?_));refine ZI (Zm (l:=[0,1,2,3]) rfl ?_)
  iterate 2 refine Zv ?_
  refine X_lookup rfl rfl rfl rfl F.map65 F.zero63 (by repeat first|exact List.Mem.head _|refine List.Mem.tail _ ?_|refine List.mem_append_right _ ?_) him9 (show (WJ (tickL 33 34 35) kind).getD .nilFunc=.func (.func fid) #[] #[] from hl) rfl ?_;refine ZB ?_;refine Zo (Zn (Y_pk [8,6,5,4,2] ?_))
  iterate 2 refine ZI ?_
  refine Zm (l:=[0,1,2,3,4,5,6]) rfl ?_;refine Zv ?_;refine Y_nil Tryz.underlying63 ?_;refine Zv ?_
  refine Yh 17 rfl (fun hc10=>?_) (fun hc10=>?_)
  ·skip
   (exfalso;simp [eqX] at hc10;done)
  ·skip
   refine ZH F.lay32 ?_;refine X_fs rfl rfl F.ok27 rfl (IsN_ok _ ⟨⟨⟨Za,Zb⟩,⟨Zc,Zh⟩,⟨Zj,Zi,Zg⟩,⟨Zf,Ze,Zd⟩⟩,Zq,Zu,ZF,Zx,ZN,ZC,ZA,Zw,Zr,Zy,Zp,Zz,⟨Zt,Zs,Zl⟩,ZE,ZG⟩ hn0) rfl ?_
   rintro _ rfl
   refine Xx ?_;refine ZK ?_;refine Zo (Zn (Y_pk [21,8,6,5,4,2] ?_))
   refine Yx rfl (fun hc11=>?_) (fun hc11=>?_)
   ·replace hc11:=nT hc11
    refine ZI (Zm (l:=[0,1,2,3]) rfl ?_);refine Xg rfl rfl F.bld32 (.nil) rfl rfl ?_;refine Xy F.lay32 ?_
    iterate 2 refine ZB ?_
    refine Zo (Zn (Y_pk [6,5,8,4,2] ?_));refine Yg (YG ?_)
    refine Ya (.inr rfl) (.cell rfl (by repeat first|exact List.Mem.head _|refine List.Mem.tail _ ?_|refine List.mem_append_right _ ?_) F.lay32 rfl rfl (.tmp rfl (.tmp rfl .nil))) (fun w hw=>?_)
    refine ⟨_,M,rfl,Mem.le.refl M,hw.c,ZO.zero,⟨none,0,[]⟩,?_,?_,?_,ZO.zero_ok _,SlK.nil,fun y hy=>by cases hy⟩
    ·rw [tick_no (n:=ZO.nd ⟨⟨⟨Za,Zb⟩,⟨Zc,Zh⟩,⟨Zj,Zi,Zg⟩,⟨Zf,Ze,Zd⟩⟩,Zq,Zu,ZF,Zx,ZN,ZC,ZA,Zw,Zr,Zy,Zp,Zz,⟨Zt,Zs,Zl⟩,ZE,ZG⟩) (fun q=>absurd q.1 (by assumption))];rfl
    ·rw [tick_no (n:=ZO.nd ⟨⟨⟨Za,Zb⟩,⟨Zc,Zh⟩,⟨Zj,Zi,Zg⟩,⟨Zf,Ze,Zd⟩⟩,Zq,Zu,ZF,Zx,ZN,ZC,ZA,Zw,Zr,Zy,Zp,Zz,⟨Zt,Zs,Zl⟩,ZE,ZG⟩) (fun q=>absurd q.1 (by assumption))];rfl
    ·rw [tick_no (n:=ZO.nd ⟨⟨⟨Za,Zb⟩,⟨Zc,Zh⟩,⟨Zj,Zi,Zg⟩,⟨Zf,Ze,Zd⟩⟩,Zq,Zu,ZF,Zx,ZN,ZC,ZA,Zw,Zr,Zy,Zp,Zz,⟨Zt,Zs,Zl⟩,ZE,ZG⟩) (fun q=>absurd q.1 (by assumption))];rfl
   ·replace hc11:=nF hc11
    refine Yv (Zn (Y_pk [8,6,5,4,2] ?_));refine ZI ?_
    have hnd9:IsNd (ZO.nd ⟨⟨⟨Za,Zb⟩,⟨Zc,Zh⟩,⟨Zj,Zi,Zg⟩,⟨Zf,Ze,Zd⟩⟩,Zq,Zu,ZF,Zx,ZN,ZC,ZA,Zw,Zr,Zy,Zp,Zz,⟨Zt,Zs,Zl⟩,ZE,ZG⟩):=by assumption
    have htb9:IsTb (ZL.tb ⟨⟨Za,Zb⟩,⟨Zc,Zh⟩,⟨Zj,Zi,Zg⟩,⟨Zf,Ze,Zd⟩⟩):=hnd9.1
    have hcu9:0≤Zx∧Zx≤159:=hnd9.2.2.2.1
    have htu9:0≤ZG∧ZG≤999999:=hnd9.2.2.2.2.2.2.1
    have hav9:Zl.length≤16:=hnd9.2.2.2.2.1
    refine Zm (l:=[0,1,2]) rfl ?_;refine ZH F.lay32 ?_;refine VU rfl rfl F.ok36 rfl (of_ok M _ _ _ _ _ _ _ _ _ _ _ _ _ _ _ _ _ _ _ _ _ _ _ _ _ _ _ Ys (by omega)) (by repeat first|exact Rem.here _|exact Rem.two|apply Rem.skip|apply Rem.over) (fun _ _ _ hm hw=>(hw.lower (by exact hm)).c) (YA rfl) ?_
    rintro v1 M1 hs1 hm1 ⟨hM1,bw,s_a,s_c,hs9,rfl,rfl,ho9⟩;subst M1
    simp only [List.append_assoc,List.cons_append,List.nil_append]
    refine ZB ?_;refine Zo (Zn (Y_pk [9,8,6,5,4] ?_));refine ZI (Xq (l:=[0,1,2]) [2] rfl ?_)
    iterate 2 refine Zv ?_
    refine X_fhVW (caps:=[]) rfl rfl rfl rfl hok rfl rfl (hc M bw Za Zb Zc Zh Zj Zf s_a Zi Ze s_c Zg Zd Zl Zq Zu ZF Zx ZN ZC ZA Zw Zr Zy Zp Zz ZE ZG Yj (isTb_small (t:=⟨⟨Za,Zb⟩,⟨Zc,Zh⟩,⟨Zj,Zi,Zg⟩,⟨Zf,Ze,Zd⟩⟩) htb9) hcu9 htu9 hs9 ho9 (by omega)) (by repeat first|exact Rem.here _|exact Rem.two|apply Rem.skip|apply Rem.over) (YA rfl) ?_
    rintro _ M2 hs2 hm2 ⟨rfl,⟨⟨⟨YK,YU⟩,⟨YL,YV⟩,⟨Xb,Xa,YZ⟩,⟨YO,YN,YM⟩⟩,XI,XO,Wt,XH,WI,XY,XJ,XE,Xs,XF,Xt,XG,⟨Xw,Xv,Xu⟩,Wp,Wo⟩,⟨o_a,o_c,o_l⟩,rfl,hv1,hv2,okv,oko,okq⟩
    simp only [List.append_assoc,List.cons_append,List.nil_append]
    refine Zo (Wk ?_);refine Zn (Y_pk [9,6,5,4] ?_);refine ZI (C_region_anyWR (l:=[0,1,2,3,4,5,6,7,8,9,10]) (Hin:=[(b2,_)]) [8] #[0,1,3,7,0,16,48,112,15,511,1023] (by repeat first|exact Rem.here _|exact Rem.two|apply Rem.skip|apply Rem.over) rfl (by kernel_rfl) (by kernel_rfl) ?_);refine Zv ?_;refine ZS ?_;refine Zk F.foff68_0 ?_;refine ZH F.lay32 ?_;refine Zv ?_;refine ZS ?_;refine Zk F.foff68_1 ?_;refine ZH F.lay35 ?_;refine X_storeE rfl rfl rfl rfl rfl (by constructor) (by ((try simp only [cat,List.cons_append,List.nil_append,List.append_nil]);(repeat (first|exact XA|refine XC ?_|(refine YF ?_ ?_;rfl)));done)) (by repeat first|exact Upd.head|apply Upd.tail|apply Upd.over) F.lay32 (by simp only [ZD.segs,ZL.segs,ZO.segs,ZM.segs,Yd.segs,ZQ.segs,YI.segs,ZX.segs,cat,List.append_eq,List.cons_append,List.nil_append,List.append_nil,Segs.len,Seg.len,Yq]) (put_all (m:=78) rfl (by simp only [ZD.segs,ZL.segs,ZO.segs,ZM.segs,Yd.segs,ZQ.segs,YI.segs,ZX.segs,cat,List.append_eq,List.cons_append,List.nil_append,List.append_nil,Segs.len,Seg.len,Yq]) (by simp only [ZD.segs,ZL.segs,ZO.segs,ZM.segs,Yd.segs,ZQ.segs,YI.segs,ZX.segs,cat,List.append_eq,List.cons_append,List.nil_append,List.append_nil,Segs.len,Seg.len,Yq])) (fun _ h=>h.c) ?_
    iterate 2 refine ZB ?_
    refine Zo (Wk ?_);refine Zn (Y_pk [6,5,4] ?_);refine Yg ?_
    refine Ya (.inr rfl) (.cell rfl (by repeat first|exact List.Mem.head _|refine List.Mem.tail _ ?_|refine List.mem_append_right _ ?_) F.lay32 rfl rfl (.tmp rfl (.tmp rfl .nil))) (fun w hw=>?_)
    have h3:=tick_yes (n:=ZO.nd ⟨⟨⟨Za,Zb⟩,⟨Zc,Zh⟩,⟨Zj,Zi,Zg⟩,⟨Zf,Ze,Zd⟩⟩,Zq,Zu,ZF,Zx,ZN,ZC,ZA,Zw,Zr,Zy,Zp,Zz,⟨Zt,Zs,Zl⟩,ZE,ZG⟩) (k:=kind) (r:=X (ZO.nd ⟨⟨⟨Za,Zb⟩,⟨Zc,Zh⟩,⟨Zj,Zi,Zg⟩,⟨Zf,Ze,Zd⟩⟩,Zq,Zu,ZF,Zx,ZN,ZC,ZA,Zw,Zr,Zy,Zp,Zz,⟨Zt,Zs,Zl⟩,ZE,ZG⟩)) hnd9 hk (hx _)
    exact ⟨_,M2,rfl,hm2,hw.c,⟨⟨⟨YK,YU⟩,⟨YL,YV⟩,⟨Xb,Xa,YZ⟩,⟨YO,YN,YM⟩⟩,XI,XO,Wt,XH,WI,XY,XJ,XE,Xs,XF,Xt,XG,⟨Xw,Xv,Xu⟩,Wp,Wo⟩,⟨o_a,o_c,o_l⟩,by rw [h3] <;> rfl,by rw [h3];exact hv1,by rw [h3];exact hv2,okv,oko,okq⟩
theorem Tick_no (M:Mem) (n:ZO) (hn0:ZO.ok M n) (kind:Int) (hk:¬(1≤kind∧kind≤3)) (hl:(WJ (tickL 33 34 35) kind).getD .nilFunc=.nilFunc):Esp.Fn Tryz.prog 11 [n.enc,.int .i64 kind] M (fun M' v=>NtE M' v (VP n.nd kind)):=by
  obtain ⟨⟨⟨Za,Zb⟩,⟨Zc,Zh⟩,⟨Zj,Zi,Zg⟩,⟨Zf,Ze,Zd⟩⟩,Zq,Zu,ZF,Zx,ZN,ZC,ZA,Zw,Zr,Zy,Zp,Zz,⟨Zt,Zs,Zl⟩,ZE,ZG⟩:=n
  have Yj:ZL.ok M ⟨⟨Za,Zb⟩,⟨Zc,Zh⟩,⟨Zj,Zi,Zg⟩,⟨Zf,Ze,Zd⟩⟩:=hn0.h0
  have YQ:SlK M ZD.segs 21 ⟨Zj,Zi,Zg⟩:=hn0.h0.h0
  have s_n_table_succ:SlM M Zj (Zg.map ZD.segs) 21:=YQ.h1
  have n_n_table_succ:(Zg.map ZD.segs).length=Zg.length:=List.length_map ..
  have m_n_table_succ:Zg.length≤9223372036854775807:=YQ.h2
  have c_n_table_succ:Zg.length≤Zi:=YQ.h3
  have YD:SlK M ZD.segs 21 ⟨Zf,Ze,Zd⟩:=hn0.h0.h1
  have s_n_table_fingers:SlM M Zf (Zd.map ZD.segs) 21:=YD.h1
  have n_n_table_fingers:(Zd.map ZD.segs).length=Zd.length:=List.length_map ..
  have m_n_table_fingers:Zd.length≤9223372036854775807:=YD.h2
  have c_n_table_fingers:Zd.length≤Ze:=YD.h3
  have Ys:SlK M (oneI .i64) 1 ⟨Zt,Zs,Zl⟩:=hn0.h1
  have WY:SlM M Zt (Zl.map (oneI .i64)) 1:=Ys.h1
  have n_n_avoid:(Zl.map (oneI .i64)).length=Zl.length:=List.length_map ..
  have Vc:Zl.length≤9223372036854775807:=Ys.h2
  have c_n_avoid:Zl.length≤Zs:=Ys.h3
  refine Wu Tryz.func11 rfl Tryz.ntmps11 rfl ?_;intro H
  refine ZI (Zm (l:=[0,1,2,3]) rfl ?_)
  refine Xk ?_;intro b1
  refine YT F.zero32 ?_;intro b2
  iterate 2 refine ZB ?_
  refine Zo (Zn (Y_pk [6,5,4,2,1] ?_));refine ZI (Zm (l:=[0,1,2,3,4,5]) rfl ?_)
  refine X_makeMap rfl rfl rfl ?_;intro b3
  refine Wy rfl rfl rfl rfl rfl F.map65 imO_nil (by repeat first|exact List.Mem.head _|refine List.Mem.tail _ ?_|refine List.mem_append_right _ ?_) ?_;intro o4 him5;refine ⟨_,(by repeat first|exact Upd.head|apply Upd.tail|apply Upd.over),?_⟩
  refine Wy rfl rfl rfl rfl rfl F.map65 him5 (by repeat first|exact List.Mem.head _|refine List.Mem.tail _ ?_|refine List.mem_append_right _ ?_) ?_;intro o6 him7;refine ⟨_,(by repeat first|exact Upd.head|apply Upd.tail|apply Upd.over),?_⟩
  refine Wy rfl rfl rfl rfl rfl F.map65 him7 (by repeat first|exact List.Mem.head _|refine List.Mem.tail _ ?_|refine List.mem_append_right _ ?_) ?_;intro o8 him9;refine ⟨_,(by repeat first|exact Upd.head|apply Upd.tail|apply Upd.over),?_⟩
  refine Zv ?_;refine ZB ?_;refine Zo (Zn (Y_pk [7,6,5,4,2,1] ?_));refine ZI (Zm (l:=[0,1,2,3]) rfl ?_)
  iterate 2 refine Zv ?_
  refine X_lookup rfl rfl rfl rfl F.map65 F.zero63 (by repeat first|exact List.Mem.head _|refine List.Mem.tail _ ?_|refine List.mem_append_right _ ?_) him9 (show (WJ (tickL 33 34 35) kind).getD .nilFunc=.nilFunc from hl) rfl ?_;refine ZB ?_;refine Zo (Zn (Y_pk [8,6,5,4,2] ?_))
  iterate 2 refine ZI ?_
  refine Zm (l:=[0,1,2,3,4,5,6]) rfl ?_;refine Zv ?_;refine Y_nil Tryz.underlying63 ?_;refine Zv ?_
  refine Yh 17 rfl (fun hc10=>?_) (fun hc10=>?_)
  ·skip
   iterate 3 refine ZU ?_
   refine ZK ?_;refine Zo (Zn (Y_pk [21,8,6,5,4,2] ?_));refine Xe rfl ?_;refine ZI (Zm (l:=[0,1,2,3]) rfl ?_);refine Xg rfl rfl F.bld32 (.nil) rfl rfl ?_;refine Xy F.lay32 ?_
   iterate 2 refine ZB ?_
   refine Zo (Zn (Y_pk [6,5,8,4,2] ?_));refine Yg (YG ?_)
   refine Ya (.inr rfl) (.cell rfl (by repeat first|exact List.Mem.head _|refine List.Mem.tail _ ?_|refine List.mem_append_right _ ?_) F.lay32 rfl rfl (.tmp rfl (.tmp rfl .nil))) (fun w hw=>?_)
   refine ⟨_,M,rfl,Mem.le.refl M,hw.c,ZO.zero,⟨none,0,[]⟩,?_,?_,?_,ZO.zero_ok _,SlK.nil,fun y hy=>by cases hy⟩
   ·rw [tick_no (fun q=>hk ⟨q.2.1,q.2.2⟩)];rfl
   ·rw [tick_no (fun q=>hk ⟨q.2.1,q.2.2⟩)];rfl
   ·rw [tick_no (fun q=>hk ⟨q.2.1,q.2.2⟩)];rfl
  ·skip
   (exfalso;simp [eqX] at hc10;done)
theorem Tick_ok (M:Mem) (n:ZO) (kind:Int) (hn0:ZO.ok M n):Esp.Fn Tryz.prog 11 [n.enc,.int .i64 kind] M (fun M' v=>NtE M' v (VP n.nd kind)):=by
  by_cases h1:kind=1
  ·subst h1;exact Tick_yes M n hn0 1 ⟨by decide,by decide⟩ 33 stabN tickL1 F.ok33 (fun n=>rfl) (fun M bw Za Zb Zc Zh Zj Zf Zt Zi Ze Zs Zg Zd Zl Zq Zu ZF Zx ZN ZC ZA Zw Zr Zy Zp Zz ZE ZG Yj hbig hcu htu hav hA hLa=>stab_ok M bw Za Zb Zc Zh Zj Zf Zt Zi Ze Zs Zg Zd Zl Zq Zu ZF Zx ZN ZC ZA Zw Zr Zy Zp Zz ZE ZG Yj hbig hav hA hLa)
  by_cases h2:kind=2
  ·subst h2;exact Tick_yes M n hn0 2 ⟨by decide,by decide⟩ 34 fixN tickL2 F.ok34 (fun n=>rfl) (fun M bw Za Zb Zc Zh Zj Zf Zt Zi Ze Zs Zg Zd Zl Zq Zu ZF Zx ZN ZC ZA Zw Zr Zy Zp Zz ZE ZG Yj hbig hcu htu hav hA hLa=>fix_ok M bw Za Zb Zc Zh Zj Zf Zt Zi Ze Zs Zg Zd Zl Zq Zu ZF Zx ZN ZC ZA Zw Zr Zy Zp Zz ZE ZG Yj hbig hcu hav hA hLa)
  by_cases h3:kind=3
  ·subst h3;exact Tick_yes M n hn0 3 ⟨by decide,by decide⟩ 35 checkN tickL3 F.ok35 (fun n=>rfl) (fun M bw Za Zb Zc Zh Zj Zf Zt Zi Ze Zs Zg Zd Zl Zq Zu ZF Zx ZN ZC ZA Zw Zr Zy Zp Zz ZE ZG Yj hbig hcu htu hav hA hLa=>check_ok M bw Za Zb Zc Zh Zj Zf Zt Zi Ze Zs Zg Zd Zl Zq Zu ZF Zx ZN ZC ZA Zw Zr Zy Zp Zz ZE ZG Yj hbig htu hav hA hLa)
  have hk:¬(1≤kind∧kind≤3):=by omega
  exact Tick_no M n hn0 kind hk (tickL0 hk)
end Go.Proofs.YtajmnjefajknoaaGreat
namespace Go.Proofs.YtajmnjefajknoaaGreat
open Go.Esp
theorem F.ok107:okFn Tryz.prog 107=true:=by kernel_rfl
theorem find_ok (M:Mem) (bw:Nat) (Za:Int) (Zb:Plc) (Zc:Int) (Zh:Plc) (Zj Zf Zt:Option Addr) (Zi Ze Zs:Nat) (Zg Zd:List ZD) (Zl:List Int) (Zq:Int) (Zu:Bool) (ZF Zx ZN ZC ZA Zw Zr Zy Zp:Int) (Zz:Plc) (ZE ZG:Int) (Yj:ZL.ok M ⟨⟨Za,Zb⟩,⟨Zc,Zh⟩,⟨Zj,Zi,Zg⟩,⟨Zf,Ze,Zd⟩⟩) (Ys:SlK M (oneI .i64) 1 ⟨Zt,Zs,Zl⟩) (hbig:Zg.length≤40∧Zd.length≤200) (hLa:Zl.length≤1000) (hh:0≤ZE∧ZE≤1000) (l:ZM) (hl0:ZM.ok M l) (hLp:l.peers.l.length≤1000) (hk:l.kind=1):Fh Tryz.prog 45 [.pointer (some ⟨bw,0,none⟩),l.enc] M [(bw,rowO (ZQ.segs ⟨⟨⟨⟨Za,Zb⟩,⟨Zc,Zh⟩,⟨Zj,Zi,Zg⟩,⟨Zf,Ze,Zd⟩⟩,Zq,Zu,ZF,Zx,ZN,ZC,ZA,Zw,Zr,Zy,Zp,Zz,⟨Zt,Zs,Zl⟩,ZE,ZG⟩,⟨none,0,[]⟩⟩) 68)] (fun M' v Hout=>v=.tuple #[]∧WkF bw 68 M' Hout (XU (ZO.nd ⟨⟨⟨Za,Zb⟩,⟨Zc,Zh⟩,⟨Zj,Zi,Zg⟩,⟨Zf,Ze,Zd⟩⟩,Zq,Zu,ZF,Zx,ZN,ZC,ZA,Zw,Zr,Zy,Zp,Zz,⟨Zt,Zs,Zl⟩,ZE,ZG⟩) l.lt)):=by
  obtain ⟨Yk,⟨ZV,YB⟩,YY,l_id,⟨Yo,Yn,ZT⟩,YP,⟨ZP,ZY⟩,⟨Ym,Yf,ZR⟩⟩:=l
  simp only at hLp hk
  have XT:SlK M (oneI .i64) 1 ⟨Yo,Yn,ZT⟩:=hl0.h0
  have Xh:SlK M ZD.segs 21 ⟨Ym,Yf,ZR⟩:=hl0.h1
  have XX:=Xh.h1
  simp only at XX
  have Vb:(ZR.map ZD.segs).length=ZR.length:=List.length_map ..
  have Vd:ZR.length≤Yf:=Xh.h3
  refine XP (fun H=>(bw,rowO (ZQ.segs ⟨⟨⟨⟨Za,Zb⟩,⟨Zc,Zh⟩,⟨Zj,Zi,Zg⟩,⟨Zf,Ze,Zd⟩⟩,Zq,Zu,ZF,Zx,ZN,ZC,ZA,Zw,Zr,Zy,Zp,Zz,⟨Zt,Zs,Zl⟩,ZE,ZG⟩,⟨none,0,[]⟩⟩) 68)::H) (fun _=>by simp only [List.append_assoc,List.cons_append,List.nil_append]) Tryz.func45 rfl Tryz.ntmps45 rfl ?_;intro H
  refine ZI (Zm (l:=[0]) rfl ?_)
  refine Xk ?_;intro b1
  refine Zo (Zn (Y_pk [3,0] ?_))
  iterate 2 refine ZI ?_
  refine Zm (l:=[0,1,2,3,4,5]) rfl ?_;refine Zv ?_;refine ZS ?_;refine Zk F.foff68_0 ?_;refine Zk F.foff32_2 ?_;refine ZH F.lay4 ?_;refine Xx ?_;refine Zo (Zn (Y_pk [12,3,0] ?_))
  refine Yx rfl (fun hc2=>?_) (fun hc2=>?_)
  ·skip
   refine Yg (YG ?_)
   refine Ya (.inr rfl) (.nil) (fun w hw=>?_)
   have h3:XU (ZO.nd ⟨⟨⟨Za,Zb⟩,⟨Zc,Zh⟩,⟨Zj,Zi,Zg⟩,⟨Zf,Ze,Zd⟩⟩,Zq,Zu,ZF,Zx,ZN,ZC,ZA,Zw,Zr,Zy,Zp,Zz,⟨Zt,Zs,Zl⟩,ZE,ZG⟩) (ZM.lt ⟨Yk,⟨ZV,YB⟩,YY,l_id,⟨Yo,Yn,ZT⟩,YP,⟨ZP,ZY⟩,⟨Ym,Yf,ZR⟩⟩)=((ZO.nd ⟨⟨⟨Za,Zb⟩,⟨Zc,Zh⟩,⟨Zj,Zi,Zg⟩,⟨Zf,Ze,Zd⟩⟩,Zq,Zu,ZF,Zx,ZN,ZC,ZA,Zw,Zr,Zy,Zp,Zz,⟨Zt,Zs,Zl⟩,ZE,ZG⟩),[]):=(does1 hk).trans (congrArg (Prod.mk (ZO.nd ⟨⟨⟨Za,Zb⟩,⟨Zc,Zh⟩,⟨Zj,Zi,Zg⟩,⟨Zf,Ze,Zd⟩⟩,Zq,Zu,ZF,Zx,ZN,ZC,ZA,Zw,Zr,Zy,Zp,Zz,⟨Zt,Zs,Zl⟩,ZE,ZG⟩)) (find_no (show Zu=false by first|assumption|(simp_all;done))))
   refine ⟨_,M,[(bw,rowO (ZQ.segs ⟨⟨⟨⟨Za,Zb⟩,⟨Zc,Zh⟩,⟨Zj,Zi,Zg⟩,⟨Zf,Ze,Zd⟩⟩,Zq,Zu,ZF,Zx,ZN,ZC,ZA,Zw,Zr,Zy,Zp,Zz,⟨Zt,Zs,Zl⟩,ZE,ZG⟩,⟨none,0,[]⟩⟩) 68)],rfl,Mem.le.refl M,hw.c,rfl,⟨⟨⟨Za,Zb⟩,⟨Zc,Zh⟩,⟨Zj,Zi,Zg⟩,⟨Zf,Ze,Zd⟩⟩,Zq,Zu,ZF,Zx,ZN,ZC,ZA,Zw,Zr,Zy,Zp,Zz,⟨Zt,Zs,Zl⟩,ZE,ZG⟩,⟨none,0,[]⟩,rfl,?_,?_,⟨Yj,Ys⟩,SlK.nil,fun y hy=>by cases hy⟩
   ·rw [h3] <;> rfl
   ·rw [h3] <;> rfl
  ·skip
   refine Yv (Zn (Y_pk [3,0] ?_));refine ZI (Zm (l:=[0,1,2,3,4]) rfl ?_);refine Zk F.foff44_2 ?_;refine ZH F.lay29 ?_;refine Xg rfl rfl F.bld44 (.cons rfl (by constructor) (.cons rfl (by constructor) .nil)) rfl rfl ?_
   refine YT F.zero44 ?_;intro b3
   refine X_store rfl rfl rfl rfl (by constructor) (by ((try simp only [cat,List.cons_append,List.nil_append,List.append_nil]);(repeat (first|exact XA|refine XC ?_|(refine YF ?_ ?_;rfl)));done)) (by repeat first|exact Upd.head|apply Upd.tail|apply Upd.over) F.lay44 (by simp only [ZD.segs,ZL.segs,ZO.segs,ZM.segs,Yd.segs,ZQ.segs,YI.segs,ZX.segs,cat,List.append_eq,List.cons_append,List.nil_append,List.append_nil,Segs.len,Seg.len,Yq]) (put_all (m:=67) rfl (by simp only [ZD.segs,ZL.segs,ZO.segs,ZM.segs,Yd.segs,ZQ.segs,YI.segs,ZX.segs,cat,List.append_eq,List.cons_append,List.nil_append,List.append_nil,Segs.len,Seg.len,Yq]) (by simp only [ZD.segs,ZL.segs,ZO.segs,ZM.segs,Yd.segs,ZQ.segs,YI.segs,ZX.segs,cat,List.append_eq,List.cons_append,List.nil_append,List.append_nil,Segs.len,Seg.len,Yq])) ?_
   refine Zo (Zn (Y_pk [4,3,0] ?_));refine ZI (Yy (l:=[0,1,2,3,4,5,6,7,8,9,10,11,12,13,14]) #[0,1,3,7,15,0,32,127,255,511,511,1023,3071,8191,16383] _ rfl (by kernel_rfl) (by kernel_rfl) St.drawn (fun _ h=>h) ?_);refine Zv ?_;refine ZS ?_;refine Zk F.foff68_0 ?_;refine Zk F.foff32_0 ?_;refine ZH F.lay28 ?_;refine Zk F.foff44_3 ?_;refine ZH F.lay23 ?_;refine X_fs rfl rfl F.ok19 rfl (Done_ok _ ⟨⟨Za,Zb⟩,⟨Zc,Zh⟩,⟨Zj,Zi,Zg⟩,⟨Zf,Ze,Zd⟩⟩ l_id Yj) rfl ?_
   rintro _ rfl
   obtain ⟨⟨⟨da,di⟩,db⟩,hd⟩:∃ x,VN (ZL.tb ⟨⟨Za,Zb⟩,⟨Zc,Zh⟩,⟨Zj,Zi,Zg⟩,⟨Zf,Ze,Zd⟩⟩) l_id=x:=⟨_,rfl⟩
   rw [hd]
   refine Zv ?_
   iterate 2 refine Xz ?_
   refine Zk F.foff44_6 ?_;refine Yi F.lay25 ?_;refine Zk F.foff44_5 ?_;refine Yi F.lay4 ?_;refine Zo (Zn (Y_pk [4,3,0] ?_))
   iterate 2 refine ZI ?_
   refine Yy (l:=[0,1,2,3,4,5,6,7,8,9,10,11,12,13,14,15]) #[0,1,3,7,15,0,32,0,128,511,1023,2047,2047,0,12287,32767] _ rfl (by kernel_rfl) (by kernel_rfl) St.drawn (fun _ h=>h) ?_;refine Zv ?_;refine ZS ?_;refine Zk F.foff68_0 ?_;refine Zk F.foff32_0 ?_;refine ZH F.lay28 ?_;refine Zk F.foff44_3 ?_;refine ZH F.lay23 ?_;refine Zk F.foff44_4 ?_;refine ZH F.lay30 ?_;refine X_fn rfl rfl F.ok88 rfl (Nearest_ok _ ⟨⟨Za,Zb⟩,⟨Zc,Zh⟩,⟨Zj,Zi,Zg⟩,⟨Zf,Ze,Zd⟩⟩ l_id ⟨Yo,Yn,ZT⟩ Yj XT hbig) rfl ?_
   rintro _ M1 hm1 rfl
   obtain ⟨⟨⟨qa,qi⟩,qb⟩,hq⟩:∃ x,WB (ZL.tb ⟨⟨Za,Zb⟩,⟨Zc,Zh⟩,⟨Zj,Zi,Zg⟩,⟨Zf,Ze,Zd⟩⟩) l_id (⟨Yo,Yn,ZT⟩:Sl Int).l=x:=⟨_,rfl⟩
   rw [hq]
   refine Zv ?_
   iterate 2 refine Xz ?_
   refine YT F.zero25 ?_;intro b4
   refine Yi F.lay25 ?_;refine ZB ?_;refine Zo (Zn (Y_pk [6,5,4,3,0] ?_));refine ZI (Zm (l:=[0,1,2]) rfl ?_);refine Zk F.foff44_5 ?_;refine ZH F.lay4 ?_;refine Xx ?_;refine Zo (Zn (Y_pk [44,6,5,4,3,0] ?_))
   refine Yx rfl (fun hc5=>?_) (fun hc5=>?_)
   ·skip
    simp only [ZD.eta,ZL.eta,ZO.eta,ZM.eta,Yd.eta,ZQ.eta,YI.eta,ZX.eta] at hc5
    iterate 2 refine ZI ?_
    refine Zm (l:=[0]) rfl ?_;refine Zv ?_;refine Zo (Zn (Y_pk [45,6,5,4,3,0] ?_))
    refine Yx rfl (fun hc6=>?_) (fun hc6=>?_)
    ·skip
     simp only [ZD.eta,ZL.eta,ZO.eta,ZM.eta,Yd.eta,ZQ.eta,YI.eta,ZX.eta] at hc6
     refine Zm (l:=[0,1,2]) rfl ?_;refine ZH F.lay25 ?_;refine Zk F.foff44_6 ?_;refine Yi F.lay25 ?_;refine Zo (Zn (Y_pk [6,4,3,0] ?_));refine Zm (l:=[0,1,2,3]) rfl ?_;refine Zv ?_;refine Xx ?_;refine Zk F.foff44_5 ?_;refine Yi F.lay4 ?_;refine Zo (Zn (Y_pk [4,3,0] ?_));refine Xq (l:=[0,1,2,3,4,5]) [5] rfl ?_;refine Zv ?_;refine Zk F.foff44_1 ?_;refine Zk F.foff25_0 ?_;refine ZH F.lay3 ?_;refine ZH F.lay44 ?_;refine Ww rfl rfl rfl F.ok65 rfl (sendF_ok M1 bw Za Zb Zc Zh Zj Zf Zt Zi Ze Zs Zg Zd Zl Zq Zu ZF Zx ZN ZC ZA Zw Zr Zy Zp Zz ZE ZG ZV ⟨2,⟨0,0⟩,YY,0,⟨none,0,[]⟩,(!qb),⟨qa,qi⟩,⟨none,0,[]⟩⟩) (by repeat first|exact Rem.here _|exact Rem.two|apply Rem.skip|apply Rem.over) (YA rfl) ?_
     rintro _ M2 hs2 hm2 ⟨rfl,⟨o9a,o9c,o9l⟩,rfl,k9o,hl9⟩
     simp only at hl9
     simp only [List.append_assoc,List.cons_append,List.nil_append]
     refine Zo (Wk ?_)
     refine Ya (.inl rfl) (.nil) (fun w hw=>?_)
     obtain rfl:db=false:=by first|assumption|(simp_all;done)
     obtain rfl:qb=true:=by first|assumption|(simp_all;done)
     have h3:XU (ZO.nd ⟨⟨⟨Za,Zb⟩,⟨Zc,Zh⟩,⟨Zj,Zi,Zg⟩,⟨Zf,Ze,Zd⟩⟩,Zq,Zu,ZF,Zx,ZN,ZC,ZA,Zw,Zr,Zy,Zp,Zz,⟨Zt,Zs,Zl⟩,ZE,ZG⟩) (ZM.lt ⟨Yk,⟨ZV,YB⟩,YY,l_id,⟨Yo,Yn,ZT⟩,YP,⟨ZP,ZY⟩,⟨Ym,Yf,ZR⟩⟩)=(ZO.nd ⟨⟨⟨Za,Zb⟩,⟨Zc,Zh⟩,⟨Zj,Zi,Zg⟩,⟨Zf,Ze,Zd⟩⟩,Zq,Zu,ZF,Zx,ZN,ZC,ZA,Zw,Zr,Zy,Zp,Zz,⟨Zt,Zs,Zl⟩,ZE,ZG⟩,[Yd.snd (⟨ZV,(⟨2,⟨Za,Zb⟩,YY,0,⟨none,0,[]⟩,false,⟨qa,qi⟩,⟨none,0,[]⟩⟩:ZM)⟩:Yd)]):=(does1 hk).trans (congrArg (Prod.mk (ZO.nd ⟨⟨⟨Za,Zb⟩,⟨Zc,Zh⟩,⟨Zj,Zi,Zg⟩,⟨Zf,Ze,Zd⟩⟩,Zq,Zu,ZF,Zx,ZN,ZC,ZA,Zw,Zr,Zy,Zp,Zz,⟨Zt,Zs,Zl⟩,ZE,ZG⟩)) ((find_yes (n:=(ZO.nd ⟨⟨⟨Za,Zb⟩,⟨Zc,Zh⟩,⟨Zj,Zi,Zg⟩,⟨Zf,Ze,Zd⟩⟩,Zq,Zu,ZF,Zx,ZN,ZC,ZA,Zw,Zr,Zy,Zp,Zz,⟨Zt,Zs,Zl⟩,ZE,ZG⟩)) (l:=(ZM.lt ⟨Yk,⟨ZV,YB⟩,YY,l_id,⟨Yo,Yn,ZT⟩,YP,⟨ZP,ZY⟩,⟨Ym,Yf,ZR⟩⟩)) (show Zu=true by first|assumption|(simp_all;done)) hd hq).trans rfl))
     refine ⟨_,M2,[(bw,rowO (ZQ.segs ⟨⟨⟨⟨Za,Zb⟩,⟨Zc,Zh⟩,⟨Zj,Zi,Zg⟩,⟨Zf,Ze,Zd⟩⟩,Zq,Zu,ZF,Zx,ZN,ZC,ZA,Zw,Zr,Zy,Zp,Zz,⟨Zt,Zs,Zl⟩,ZE,ZG⟩,⟨o9a,o9c,o9l⟩⟩) 68)],rfl,(hm1.trans hm2),hw.c,rfl,⟨⟨⟨Za,Zb⟩,⟨Zc,Zh⟩,⟨Zj,Zi,Zg⟩,⟨Zf,Ze,Zd⟩⟩,Zq,Zu,ZF,Zx,ZN,ZC,ZA,Zw,Zr,Zy,Zp,Zz,⟨Zt,Zs,Zl⟩,ZE,ZG⟩,⟨o9a,o9c,o9l⟩,rfl,?_,?_,⟨(Yj.mono hm1).mono hm2,(Ys.mono hm1).mono hm2⟩,k9o,fun y hy=>?_⟩
     ·rw [h3] <;> rfl
     ·rw [h3]
      show sndl o9l=_
      rw [hl9];rfl
     ·simp only at hy
      rw [hl9] at hy
      obtain rfl:=List.mem_singleton.1 hy
      exact ⟨⟨SlK.nil,SlK.nil⟩⟩
    ·skip
     simp only [ZD.eta,ZL.eta,ZO.eta,ZM.eta,Yd.eta,ZQ.eta,YI.eta,ZX.eta] at hc6
     refine Yv (Zn (Y_pk [6,4,3,0] ?_));refine Zm (l:=[0,1,2,3]) rfl ?_;refine Zv ?_;refine Xx ?_;refine Zk F.foff44_5 ?_;refine Yi F.lay4 ?_;refine Zo (Zn (Y_pk [4,3,0] ?_));refine Xq (l:=[0,1,2,3,4,5]) [5] rfl ?_;refine Zv ?_;refine Zk F.foff44_1 ?_;refine Zk F.foff25_0 ?_;refine ZH F.lay3 ?_;refine ZH F.lay44 ?_;refine Ww rfl rfl rfl F.ok65 rfl (sendF_ok M1 bw Za Zb Zc Zh Zj Zf Zt Zi Ze Zs Zg Zd Zl Zq Zu ZF Zx ZN ZC ZA Zw Zr Zy Zp Zz ZE ZG ZV ⟨2,⟨0,0⟩,YY,0,⟨none,0,[]⟩,(!qb),⟨da,di⟩,⟨none,0,[]⟩⟩) (by repeat first|exact Rem.here _|exact Rem.two|apply Rem.skip|apply Rem.over) (YA rfl) ?_
     rintro _ M2 hs2 hm2 ⟨rfl,⟨o9a,o9c,o9l⟩,rfl,k9o,hl9⟩
     simp only at hl9
     simp only [List.append_assoc,List.cons_append,List.nil_append]
     refine Zo (Wk ?_)
     refine Ya (.inl rfl) (.nil) (fun w hw=>?_)
     obtain rfl:db=false:=by first|assumption|(simp_all;done)
     obtain rfl:qb=false:=by first|assumption|(simp_all;done)
     have h3:XU (ZO.nd ⟨⟨⟨Za,Zb⟩,⟨Zc,Zh⟩,⟨Zj,Zi,Zg⟩,⟨Zf,Ze,Zd⟩⟩,Zq,Zu,ZF,Zx,ZN,ZC,ZA,Zw,Zr,Zy,Zp,Zz,⟨Zt,Zs,Zl⟩,ZE,ZG⟩) (ZM.lt ⟨Yk,⟨ZV,YB⟩,YY,l_id,⟨Yo,Yn,ZT⟩,YP,⟨ZP,ZY⟩,⟨Ym,Yf,ZR⟩⟩)=(ZO.nd ⟨⟨⟨Za,Zb⟩,⟨Zc,Zh⟩,⟨Zj,Zi,Zg⟩,⟨Zf,Ze,Zd⟩⟩,Zq,Zu,ZF,Zx,ZN,ZC,ZA,Zw,Zr,Zy,Zp,Zz,⟨Zt,Zs,Zl⟩,ZE,ZG⟩,[Yd.snd (⟨ZV,(⟨2,⟨Za,Zb⟩,YY,0,⟨none,0,[]⟩,true,⟨da,di⟩,⟨none,0,[]⟩⟩:ZM)⟩:Yd)]):=(does1 hk).trans (congrArg (Prod.mk (ZO.nd ⟨⟨⟨Za,Zb⟩,⟨Zc,Zh⟩,⟨Zj,Zi,Zg⟩,⟨Zf,Ze,Zd⟩⟩,Zq,Zu,ZF,Zx,ZN,ZC,ZA,Zw,Zr,Zy,Zp,Zz,⟨Zt,Zs,Zl⟩,ZE,ZG⟩)) ((find_yes (n:=(ZO.nd ⟨⟨⟨Za,Zb⟩,⟨Zc,Zh⟩,⟨Zj,Zi,Zg⟩,⟨Zf,Ze,Zd⟩⟩,Zq,Zu,ZF,Zx,ZN,ZC,ZA,Zw,Zr,Zy,Zp,Zz,⟨Zt,Zs,Zl⟩,ZE,ZG⟩)) (l:=(ZM.lt ⟨Yk,⟨ZV,YB⟩,YY,l_id,⟨Yo,Yn,ZT⟩,YP,⟨ZP,ZY⟩,⟨Ym,Yf,ZR⟩⟩)) (show Zu=true by first|assumption|(simp_all;done)) hd hq).trans rfl))
     refine ⟨_,M2,[(bw,rowO (ZQ.segs ⟨⟨⟨⟨Za,Zb⟩,⟨Zc,Zh⟩,⟨Zj,Zi,Zg⟩,⟨Zf,Ze,Zd⟩⟩,Zq,Zu,ZF,Zx,ZN,ZC,ZA,Zw,Zr,Zy,Zp,Zz,⟨Zt,Zs,Zl⟩,ZE,ZG⟩,⟨o9a,o9c,o9l⟩⟩) 68)],rfl,(hm1.trans hm2),hw.c,rfl,⟨⟨⟨Za,Zb⟩,⟨Zc,Zh⟩,⟨Zj,Zi,Zg⟩,⟨Zf,Ze,Zd⟩⟩,Zq,Zu,ZF,Zx,ZN,ZC,ZA,Zw,Zr,Zy,Zp,Zz,⟨Zt,Zs,Zl⟩,ZE,ZG⟩,⟨o9a,o9c,o9l⟩,rfl,?_,?_,⟨(Yj.mono hm1).mono hm2,(Ys.mono hm1).mono hm2⟩,k9o,fun y hy=>?_⟩
     ·rw [h3] <;> rfl
     ·rw [h3]
      show sndl o9l=_
      rw [hl9];rfl
     ·simp only at hy
      rw [hl9] at hy
      obtain rfl:=List.mem_singleton.1 hy
      exact ⟨⟨SlK.nil,SlK.nil⟩⟩
   ·skip
    simp only [ZD.eta,ZL.eta,ZO.eta,ZM.eta,Yd.eta,ZQ.eta,YI.eta,ZX.eta] at hc5
    refine Yv (Zn (Y_pk [4,3,0] ?_));refine Xq (l:=[0,1,2,3,4,5]) [5] rfl ?_;refine Zv ?_;refine Zk F.foff44_1 ?_;refine Zk F.foff25_0 ?_;refine ZH F.lay3 ?_;refine ZH F.lay44 ?_;refine Ww rfl rfl rfl F.ok65 rfl (sendF_ok M1 bw Za Zb Zc Zh Zj Zf Zt Zi Ze Zs Zg Zd Zl Zq Zu ZF Zx ZN ZC ZA Zw Zr Zy Zp Zz ZE ZG ZV ⟨2,⟨0,0⟩,YY,0,⟨none,0,[]⟩,db,⟨da,di⟩,⟨none,0,[]⟩⟩) (by repeat first|exact Rem.here _|exact Rem.two|apply Rem.skip|apply Rem.over) (YA rfl) ?_
    rintro _ M2 hs2 hm2 ⟨rfl,⟨o9a,o9c,o9l⟩,rfl,k9o,hl9⟩
    simp only at hl9
    simp only [List.append_assoc,List.cons_append,List.nil_append]
    refine Zo (Wk ?_)
    refine Ya (.inl rfl) (.nil) (fun w hw=>?_)
    obtain rfl:db=true:=by first|assumption|(simp_all;done)
    have h3:XU (ZO.nd ⟨⟨⟨Za,Zb⟩,⟨Zc,Zh⟩,⟨Zj,Zi,Zg⟩,⟨Zf,Ze,Zd⟩⟩,Zq,Zu,ZF,Zx,ZN,ZC,ZA,Zw,Zr,Zy,Zp,Zz,⟨Zt,Zs,Zl⟩,ZE,ZG⟩) (ZM.lt ⟨Yk,⟨ZV,YB⟩,YY,l_id,⟨Yo,Yn,ZT⟩,YP,⟨ZP,ZY⟩,⟨Ym,Yf,ZR⟩⟩)=(ZO.nd ⟨⟨⟨Za,Zb⟩,⟨Zc,Zh⟩,⟨Zj,Zi,Zg⟩,⟨Zf,Ze,Zd⟩⟩,Zq,Zu,ZF,Zx,ZN,ZC,ZA,Zw,Zr,Zy,Zp,Zz,⟨Zt,Zs,Zl⟩,ZE,ZG⟩,[Yd.snd (⟨ZV,(⟨2,⟨Za,Zb⟩,YY,0,⟨none,0,[]⟩,true,⟨da,di⟩,⟨none,0,[]⟩⟩:ZM)⟩:Yd)]):=(does1 hk).trans (congrArg (Prod.mk (ZO.nd ⟨⟨⟨Za,Zb⟩,⟨Zc,Zh⟩,⟨Zj,Zi,Zg⟩,⟨Zf,Ze,Zd⟩⟩,Zq,Zu,ZF,Zx,ZN,ZC,ZA,Zw,Zr,Zy,Zp,Zz,⟨Zt,Zs,Zl⟩,ZE,ZG⟩)) ((find_yes (n:=(ZO.nd ⟨⟨⟨Za,Zb⟩,⟨Zc,Zh⟩,⟨Zj,Zi,Zg⟩,⟨Zf,Ze,Zd⟩⟩,Zq,Zu,ZF,Zx,ZN,ZC,ZA,Zw,Zr,Zy,Zp,Zz,⟨Zt,Zs,Zl⟩,ZE,ZG⟩)) (l:=(ZM.lt ⟨Yk,⟨ZV,YB⟩,YY,l_id,⟨Yo,Yn,ZT⟩,YP,⟨ZP,ZY⟩,⟨Ym,Yf,ZR⟩⟩)) (show Zu=true by first|assumption|(simp_all;done)) hd hq).trans rfl))
    refine ⟨_,M2,[(bw,rowO (ZQ.segs ⟨⟨⟨⟨Za,Zb⟩,⟨Zc,Zh⟩,⟨Zj,Zi,Zg⟩,⟨Zf,Ze,Zd⟩⟩,Zq,Zu,ZF,Zx,ZN,ZC,ZA,Zw,Zr,Zy,Zp,Zz,⟨Zt,Zs,Zl⟩,ZE,ZG⟩,⟨o9a,o9c,o9l⟩⟩) 68)],rfl,(hm1.trans hm2),hw.c,rfl,⟨⟨⟨Za,Zb⟩,⟨Zc,Zh⟩,⟨Zj,Zi,Zg⟩,⟨Zf,Ze,Zd⟩⟩,Zq,Zu,ZF,Zx,ZN,ZC,ZA,Zw,Zr,Zy,Zp,Zz,⟨Zt,Zs,Zl⟩,ZE,ZG⟩,⟨o9a,o9c,o9l⟩,rfl,?_,?_,⟨(Yj.mono hm1).mono hm2,(Ys.mono hm1).mono hm2⟩,k9o,fun y hy=>?_⟩
    ·rw [h3] <;> rfl
    ·rw [h3]
     show sndl o9l=_
     rw [hl9];rfl
    ·simp only at hy
     rw [hl9] at hy
     obtain rfl:=List.mem_singleton.1 hy
     exact ⟨⟨SlK.nil,SlK.nil⟩⟩
theorem ask_ok (M:Mem) (bw:Nat) (Za:Int) (Zb:Plc) (Zc:Int) (Zh:Plc) (Zj Zf Zt:Option Addr) (Zi Ze Zs:Nat) (Zg Zd:List ZD) (Zl:List Int) (Zq:Int) (Zu:Bool) (ZF Zx ZN ZC ZA Zw Zr Zy Zp:Int) (Zz:Plc) (ZE ZG:Int) (Yj:ZL.ok M ⟨⟨Za,Zb⟩,⟨Zc,Zh⟩,⟨Zj,Zi,Zg⟩,⟨Zf,Ze,Zd⟩⟩) (Ys:SlK M (oneI .i64) 1 ⟨Zt,Zs,Zl⟩) (hbig:Zg.length≤40∧Zd.length≤200) (hLa:Zl.length≤1000) (hh:0≤ZE∧ZE≤1000) (l:ZM) (hl0:ZM.ok M l) (hLp:l.peers.l.length≤1000) (hk:l.kind=3):Fh Tryz.prog 47 [.pointer (some ⟨bw,0,none⟩),l.enc] M [(bw,rowO (ZQ.segs ⟨⟨⟨⟨Za,Zb⟩,⟨Zc,Zh⟩,⟨Zj,Zi,Zg⟩,⟨Zf,Ze,Zd⟩⟩,Zq,Zu,ZF,Zx,ZN,ZC,ZA,Zw,Zr,Zy,Zp,Zz,⟨Zt,Zs,Zl⟩,ZE,ZG⟩,⟨none,0,[]⟩⟩) 68)] (fun M' v Hout=>v=.tuple #[]∧WkF bw 68 M' Hout (XU (ZO.nd ⟨⟨⟨Za,Zb⟩,⟨Zc,Zh⟩,⟨Zj,Zi,Zg⟩,⟨Zf,Ze,Zd⟩⟩,Zq,Zu,ZF,Zx,ZN,ZC,ZA,Zw,Zr,Zy,Zp,Zz,⟨Zt,Zs,Zl⟩,ZE,ZG⟩) l.lt)):=by
  obtain ⟨Yk,⟨ZV,YB⟩,YY,l_id,⟨Yo,Yn,ZT⟩,YP,⟨ZP,ZY⟩,⟨Ym,Yf,ZR⟩⟩:=l
  simp only at hLp hk
  have XT:SlK M (oneI .i64) 1 ⟨Yo,Yn,ZT⟩:=hl0.h0
  have Xh:SlK M ZD.segs 21 ⟨Ym,Yf,ZR⟩:=hl0.h1
  have XX:=Xh.h1
  simp only at XX
  have Vb:(ZR.map ZD.segs).length=ZR.length:=List.length_map ..
  have Vd:ZR.length≤Yf:=Xh.h3
  refine XP (fun H=>(bw,rowO (ZQ.segs ⟨⟨⟨⟨Za,Zb⟩,⟨Zc,Zh⟩,⟨Zj,Zi,Zg⟩,⟨Zf,Ze,Zd⟩⟩,Zq,Zu,ZF,Zx,ZN,ZC,ZA,Zw,Zr,Zy,Zp,Zz,⟨Zt,Zs,Zl⟩,ZE,ZG⟩,⟨none,0,[]⟩⟩) 68)::H) (fun _=>by simp only [List.append_assoc,List.cons_append,List.nil_append]) Tryz.func47 rfl Tryz.ntmps47 rfl ?_;intro H
  refine ZI (Zm (l:=[0]) rfl ?_)
  refine Xk ?_;intro b1
  refine Zo (Zn (Y_pk [3,0] ?_));refine ZI (Zm (l:=[0,1,2,3,4]) rfl ?_);refine Zv ?_;refine ZS ?_;refine Zk F.foff68_0 ?_;refine Zk F.foff32_2 ?_;refine ZH F.lay4 ?_;refine Zo (Zn (Y_pk [8,3,0] ?_))
  refine Yx rfl (fun hc2=>?_) (fun hc2=>?_)
  ·skip
   refine C_region_anyW (l:=[0,1,2,3,4,5,6,7,8,9,10,11,12,13,14,15,16,17,18,19]) [19] #[0,0,2,6,0,16,0,64,192,448,960,1984,0,4096,12288,28672,61440,126976,262128,524287] (_) rfl (by kernel_rfl) (by kernel_rfl) St.drawn (fun _ h=>h) ?_;refine Zv ?_;refine Zk F.foff44_1 ?_;refine Zk F.foff25_0 ?_;refine ZH F.lay3 ?_;refine Zk F.foff44_2 ?_;refine ZH F.lay29 ?_;refine Zv ?_;refine ZS ?_;refine Zk F.foff68_0 ?_;refine Zk F.foff32_0 ?_;refine Zk F.foff28_1 ?_;refine ZH F.lay25 ?_;refine Zv ?_;refine ZS ?_;refine Zk F.foff68_0 ?_;refine Zk F.foff32_0 ?_;refine Zk F.foff28_2 ?_;refine ZH F.lay26 ?_;refine Xg rfl rfl F.bld44 (.cons rfl (by constructor) (.cons rfl (by constructor) (.cons rfl (by constructor) (.cons rfl (by constructor) .nil)))) rfl rfl ?_
   refine Ww rfl rfl rfl F.ok65 rfl (sendF_ok M bw Za Zb Zc Zh Zj Zf Zt Zi Ze Zs Zg Zd Zl Zq Zu ZF Zx ZN ZC ZA Zw Zr Zy Zp Zz ZE ZG ZV ⟨4,⟨0,0⟩,YY,0,⟨none,0,[]⟩,false,⟨Zc,Zh⟩,⟨Zj,Zi,Zg⟩⟩) (by repeat first|exact Rem.here _|exact Rem.two|apply Rem.skip|apply Rem.over) (YA rfl) ?_
   rintro _ M2 hs2 hm2 ⟨rfl,⟨o9a,o9c,o9l⟩,rfl,k9o,hl9⟩
   simp only at hl9
   simp only [List.append_assoc,List.cons_append,List.nil_append]
   refine Zo (Wk ?_)
   refine Ya (.inl rfl) (.nil) (fun w hw=>?_)
   have h3:XU (ZO.nd ⟨⟨⟨Za,Zb⟩,⟨Zc,Zh⟩,⟨Zj,Zi,Zg⟩,⟨Zf,Ze,Zd⟩⟩,Zq,Zu,ZF,Zx,ZN,ZC,ZA,Zw,Zr,Zy,Zp,Zz,⟨Zt,Zs,Zl⟩,ZE,ZG⟩) (ZM.lt ⟨Yk,⟨ZV,YB⟩,YY,l_id,⟨Yo,Yn,ZT⟩,YP,⟨ZP,ZY⟩,⟨Ym,Yf,ZR⟩⟩)=(ZO.nd ⟨⟨⟨Za,Zb⟩,⟨Zc,Zh⟩,⟨Zj,Zi,Zg⟩,⟨Zf,Ze,Zd⟩⟩,Zq,Zu,ZF,Zx,ZN,ZC,ZA,Zw,Zr,Zy,Zp,Zz,⟨Zt,Zs,Zl⟩,ZE,ZG⟩,[Yd.snd (⟨ZV,(⟨4,⟨Za,Zb⟩,YY,0,⟨none,0,[]⟩,false,⟨Zc,Zh⟩,⟨Zj,Zi,Zg⟩⟩:ZM)⟩:Yd)]):=does3y hk (show Zu=true by first|assumption|(simp_all;done))
   refine ⟨_,M2,[(bw,rowO (ZQ.segs ⟨⟨⟨⟨Za,Zb⟩,⟨Zc,Zh⟩,⟨Zj,Zi,Zg⟩,⟨Zf,Ze,Zd⟩⟩,Zq,Zu,ZF,Zx,ZN,ZC,ZA,Zw,Zr,Zy,Zp,Zz,⟨Zt,Zs,Zl⟩,ZE,ZG⟩,⟨o9a,o9c,o9l⟩⟩) 68)],rfl,hm2,hw.c,rfl,⟨⟨⟨Za,Zb⟩,⟨Zc,Zh⟩,⟨Zj,Zi,Zg⟩,⟨Zf,Ze,Zd⟩⟩,Zq,Zu,ZF,Zx,ZN,ZC,ZA,Zw,Zr,Zy,Zp,Zz,⟨Zt,Zs,Zl⟩,ZE,ZG⟩,⟨o9a,o9c,o9l⟩,rfl,?_,?_,⟨Yj.mono hm2,Ys.mono hm2⟩,k9o,fun y hy=>?_⟩
   ·rw [h3] <;> rfl
   ·rw [h3]
    show sndl o9l=_
    rw [hl9];rfl
   ·simp only at hy
    rw [hl9] at hy
    obtain rfl:=List.mem_singleton.1 hy
    exact ⟨⟨SlK.nil,(Yj.mono hm2).h0⟩⟩
  ·skip
   refine Yv ?_
   refine Ya (.inl rfl) (.nil) (fun w hw=>?_)
   have h3:XU (ZO.nd ⟨⟨⟨Za,Zb⟩,⟨Zc,Zh⟩,⟨Zj,Zi,Zg⟩,⟨Zf,Ze,Zd⟩⟩,Zq,Zu,ZF,Zx,ZN,ZC,ZA,Zw,Zr,Zy,Zp,Zz,⟨Zt,Zs,Zl⟩,ZE,ZG⟩) (ZM.lt ⟨Yk,⟨ZV,YB⟩,YY,l_id,⟨Yo,Yn,ZT⟩,YP,⟨ZP,ZY⟩,⟨Ym,Yf,ZR⟩⟩)=((ZO.nd ⟨⟨⟨Za,Zb⟩,⟨Zc,Zh⟩,⟨Zj,Zi,Zg⟩,⟨Zf,Ze,Zd⟩⟩,Zq,Zu,ZF,Zx,ZN,ZC,ZA,Zw,Zr,Zy,Zp,Zz,⟨Zt,Zs,Zl⟩,ZE,ZG⟩),[]):=does3n hk (show Zu=false by first|assumption|(simp_all;done))
   refine ⟨_,M,[(bw,rowO (ZQ.segs ⟨⟨⟨⟨Za,Zb⟩,⟨Zc,Zh⟩,⟨Zj,Zi,Zg⟩,⟨Zf,Ze,Zd⟩⟩,Zq,Zu,ZF,Zx,ZN,ZC,ZA,Zw,Zr,Zy,Zp,Zz,⟨Zt,Zs,Zl⟩,ZE,ZG⟩,⟨none,0,[]⟩⟩) 68)],rfl,Mem.le.refl M,hw.c,rfl,⟨⟨⟨Za,Zb⟩,⟨Zc,Zh⟩,⟨Zj,Zi,Zg⟩,⟨Zf,Ze,Zd⟩⟩,Zq,Zu,ZF,Zx,ZN,ZC,ZA,Zw,Zr,Zy,Zp,Zz,⟨Zt,Zs,Zl⟩,ZE,ZG⟩,⟨none,0,[]⟩,rfl,?_,?_,⟨Yj,Ys⟩,SlK.nil,fun y hy=>by cases hy⟩
   ·rw [h3] <;> rfl
   ·rw [h3] <;> rfl
theorem notify_ok (M:Mem) (bw:Nat) (Za:Int) (Zb:Plc) (Zc:Int) (Zh:Plc) (Zj Zf Zt:Option Addr) (Zi Ze Zs:Nat) (Zg Zd:List ZD) (Zl:List Int) (Zq:Int) (Zu:Bool) (ZF Zx ZN ZC ZA Zw Zr Zy Zp:Int) (Zz:Plc) (ZE ZG:Int) (Yj:ZL.ok M ⟨⟨Za,Zb⟩,⟨Zc,Zh⟩,⟨Zj,Zi,Zg⟩,⟨Zf,Ze,Zd⟩⟩) (Ys:SlK M (oneI .i64) 1 ⟨Zt,Zs,Zl⟩) (hbig:Zg.length≤40∧Zd.length≤200) (hLa:Zl.length≤1000) (hh:0≤ZE∧ZE≤1000) (l:ZM) (hl0:ZM.ok M l) (hLp:l.peers.l.length≤1000) (hk:l.kind=5):Fh Tryz.prog 49 [.pointer (some ⟨bw,0,none⟩),l.enc] M [(bw,rowO (ZQ.segs ⟨⟨⟨⟨Za,Zb⟩,⟨Zc,Zh⟩,⟨Zj,Zi,Zg⟩,⟨Zf,Ze,Zd⟩⟩,Zq,Zu,ZF,Zx,ZN,ZC,ZA,Zw,Zr,Zy,Zp,Zz,⟨Zt,Zs,Zl⟩,ZE,ZG⟩,⟨none,0,[]⟩⟩) 68)] (fun M' v Hout=>v=.tuple #[]∧WkF bw 68 M' Hout (XU (ZO.nd ⟨⟨⟨Za,Zb⟩,⟨Zc,Zh⟩,⟨Zj,Zi,Zg⟩,⟨Zf,Ze,Zd⟩⟩,Zq,Zu,ZF,Zx,ZN,ZC,ZA,Zw,Zr,Zy,Zp,Zz,⟨Zt,Zs,Zl⟩,ZE,ZG⟩) l.lt)):=by
  obtain ⟨Yk,⟨ZV,YB⟩,YY,l_id,⟨Yo,Yn,ZT⟩,YP,⟨ZP,ZY⟩,⟨Ym,Yf,ZR⟩⟩:=l
  simp only at hLp hk
  have XT:SlK M (oneI .i64) 1 ⟨Yo,Yn,ZT⟩:=hl0.h0
  have Xh:SlK M ZD.segs 21 ⟨Ym,Yf,ZR⟩:=hl0.h1
  have XX:=Xh.h1
  simp only at XX
  have Vb:(ZR.map ZD.segs).length=ZR.length:=List.length_map ..
  have Vd:ZR.length≤Yf:=Xh.h3
  refine XP (fun H=>(bw,rowO (ZQ.segs ⟨⟨⟨⟨Za,Zb⟩,⟨Zc,Zh⟩,⟨Zj,Zi,Zg⟩,⟨Zf,Ze,Zd⟩⟩,Zq,Zu,ZF,Zx,ZN,ZC,ZA,Zw,Zr,Zy,Zp,Zz,⟨Zt,Zs,Zl⟩,ZE,ZG⟩,⟨none,0,[]⟩⟩) 68)::H) (fun _=>by simp only [List.append_assoc,List.cons_append,List.nil_append]) Tryz.func49 rfl Tryz.ntmps49 rfl ?_;intro H
  refine ZI (Zm (l:=[0]) rfl ?_)
  refine Xk ?_;intro b1
  refine Zo (Zn (Y_pk [3,0] ?_));refine Yy (l:=[0,1,2,3,4,5,6,7,8,9,10,11,12]) #[0,0,2,6,14,30,0,64,254,511,1023,2047,4095] _ rfl (by kernel_rfl) (by kernel_rfl) St.drawn (fun _ h=>h) ?_
  iterate 2 refine Zv ?_
  refine ZS ?_;refine Zk F.foff68_0 ?_;refine Zk F.foff32_0 ?_;refine ZH F.lay28 ?_;refine Zk F.foff44_1 ?_;refine ZH F.lay25 ?_;refine X_fn rfl rfl F.ok107 rfl (Learn_ok _ ⟨⟨Za,Zb⟩,⟨Zc,Zh⟩,⟨Zj,Zi,Zg⟩,⟨Zf,Ze,Zd⟩⟩ ⟨ZV,YB⟩ Yj) rfl ?_
  rintro _ M1 hm1 ⟨⟨⟨wa,wi⟩,⟨wq,wj⟩,⟨w1a,w1c,w1l⟩,⟨w2a,w2c,w2l⟩⟩,rfl,hol,okl⟩
  refine ZS ?_;refine Zk F.foff68_0 ?_;refine Zk F.foff32_0 ?_;refine Yi F.lay28 ?_;refine Zo ?_
  refine Ya (.inl rfl) (.nil) (fun w hw=>?_)
  have h3:XU (ZO.nd ⟨⟨⟨Za,Zb⟩,⟨Zc,Zh⟩,⟨Zj,Zi,Zg⟩,⟨Zf,Ze,Zd⟩⟩,Zq,Zu,ZF,Zx,ZN,ZC,ZA,Zw,Zr,Zy,Zp,Zz,⟨Zt,Zs,Zl⟩,ZE,ZG⟩) (ZM.lt ⟨Yk,⟨ZV,YB⟩,YY,l_id,⟨Yo,Yn,ZT⟩,YP,⟨ZP,ZY⟩,⟨Ym,Yf,ZR⟩⟩)=(ZO.nd ⟨⟨⟨wa,wi⟩,⟨wq,wj⟩,⟨w1a,w1c,w1l⟩,⟨w2a,w2c,w2l⟩⟩,Zq,Zu,ZF,Zx,ZN,ZC,ZA,Zw,Zr,Zy,Zp,Zz,⟨Zt,Zs,Zl⟩,ZE,ZG⟩,[]):=does5 hk hol
  refine ⟨_,M1,[(bw,rowO (ZQ.segs ⟨⟨⟨⟨wa,wi⟩,⟨wq,wj⟩,⟨w1a,w1c,w1l⟩,⟨w2a,w2c,w2l⟩⟩,Zq,Zu,ZF,Zx,ZN,ZC,ZA,Zw,Zr,Zy,Zp,Zz,⟨Zt,Zs,Zl⟩,ZE,ZG⟩,⟨none,0,[]⟩⟩) 68)],rfl,hm1,hw.c,rfl,⟨⟨⟨wa,wi⟩,⟨wq,wj⟩,⟨w1a,w1c,w1l⟩,⟨w2a,w2c,w2l⟩⟩,Zq,Zu,ZF,Zx,ZN,ZC,ZA,Zw,Zr,Zy,Zp,Zz,⟨Zt,Zs,Zl⟩,ZE,ZG⟩,⟨none,0,[]⟩,rfl,?_,?_,⟨okl,Ys.mono hm1⟩,SlK.nil,fun y hy=>by cases hy⟩
  ·rw [h3] <;> rfl
  ·rw [h3] <;> rfl
theorem ping_ok (M:Mem) (bw:Nat) (Za:Int) (Zb:Plc) (Zc:Int) (Zh:Plc) (Zj Zf Zt:Option Addr) (Zi Ze Zs:Nat) (Zg Zd:List ZD) (Zl:List Int) (Zq:Int) (Zu:Bool) (ZF Zx ZN ZC ZA Zw Zr Zy Zp:Int) (Zz:Plc) (ZE ZG:Int) (Yj:ZL.ok M ⟨⟨Za,Zb⟩,⟨Zc,Zh⟩,⟨Zj,Zi,Zg⟩,⟨Zf,Ze,Zd⟩⟩) (Ys:SlK M (oneI .i64) 1 ⟨Zt,Zs,Zl⟩) (hbig:Zg.length≤40∧Zd.length≤200) (hLa:Zl.length≤1000) (hh:0≤ZE∧ZE≤1000) (l:ZM) (hl0:ZM.ok M l) (hLp:l.peers.l.length≤1000) (hk:l.kind=6):Fh Tryz.prog 50 [.pointer (some ⟨bw,0,none⟩),l.enc] M [(bw,rowO (ZQ.segs ⟨⟨⟨⟨Za,Zb⟩,⟨Zc,Zh⟩,⟨Zj,Zi,Zg⟩,⟨Zf,Ze,Zd⟩⟩,Zq,Zu,ZF,Zx,ZN,ZC,ZA,Zw,Zr,Zy,Zp,Zz,⟨Zt,Zs,Zl⟩,ZE,ZG⟩,⟨none,0,[]⟩⟩) 68)] (fun M' v Hout=>v=.tuple #[]∧WkF bw 68 M' Hout (XU (ZO.nd ⟨⟨⟨Za,Zb⟩,⟨Zc,Zh⟩,⟨Zj,Zi,Zg⟩,⟨Zf,Ze,Zd⟩⟩,Zq,Zu,ZF,Zx,ZN,ZC,ZA,Zw,Zr,Zy,Zp,Zz,⟨Zt,Zs,Zl⟩,ZE,ZG⟩) l.lt)):=by
  obtain ⟨Yk,⟨ZV,YB⟩,YY,l_id,⟨Yo,Yn,ZT⟩,YP,⟨ZP,ZY⟩,⟨Ym,Yf,ZR⟩⟩:=l
  simp only at hLp hk
  have XT:SlK M (oneI .i64) 1 ⟨Yo,Yn,ZT⟩:=hl0.h0
  have Xh:SlK M ZD.segs 21 ⟨Ym,Yf,ZR⟩:=hl0.h1
  have XX:=Xh.h1
  simp only at XX
  have Vb:(ZR.map ZD.segs).length=ZR.length:=List.length_map ..
  have Vd:ZR.length≤Yf:=Xh.h3
  refine XP (fun H=>(bw,rowO (ZQ.segs ⟨⟨⟨⟨Za,Zb⟩,⟨Zc,Zh⟩,⟨Zj,Zi,Zg⟩,⟨Zf,Ze,Zd⟩⟩,Zq,Zu,ZF,Zx,ZN,ZC,ZA,Zw,Zr,Zy,Zp,Zz,⟨Zt,Zs,Zl⟩,ZE,ZG⟩,⟨none,0,[]⟩⟩) 68)::H) (fun _=>by simp only [List.append_assoc,List.cons_append,List.nil_append]) Tryz.func50 rfl Tryz.ntmps50 rfl ?_;intro H
  refine ZI (Zm (l:=[0]) rfl ?_)
  refine Xk ?_;intro b1
  refine Zo (Zn (Y_pk [3,0] ?_));refine C_region_anyW (l:=[0,1,2,3,4,5,6,7,8]) [8] #[0,0,2,6,0,16,0,112,255] (_) rfl (by kernel_rfl) (by kernel_rfl) St.drawn (fun _ h=>h) ?_;refine Zv ?_;refine Zk F.foff44_1 ?_;refine Zk F.foff25_0 ?_;refine ZH F.lay3 ?_;refine Zk F.foff44_2 ?_;refine ZH F.lay29 ?_;refine X_fs rfl rfl F.ok66 rfl (WO _) rfl ?_
  rintro _ rfl
  refine WV 10 rfl (show _=aggV [.one (.int .i64 (-1)),Yq 0] from rfl) ?_;refine Xg rfl rfl F.bld44 (.cons rfl (by constructor) (.cons rfl (by constructor) (.cons rfl (by constructor) .nil))) rfl rfl ?_;refine Ww rfl rfl rfl F.ok65 rfl (sendF_ok M bw Za Zb Zc Zh Zj Zf Zt Zi Ze Zs Zg Zd Zl Zq Zu ZF Zx ZN ZC ZA Zw Zr Zy Zp Zz ZE ZG ZV ⟨7,⟨0,0⟩,YY,0,⟨none,0,[]⟩,false,⟨-1,0⟩,⟨none,0,[]⟩⟩) (by repeat first|exact Rem.here _|exact Rem.two|apply Rem.skip|apply Rem.over) (YA rfl) ?_
  rintro _ M2 hs2 hm2 ⟨rfl,⟨o9a,o9c,o9l⟩,rfl,k9o,hl9⟩
  simp only at hl9
  simp only [List.append_assoc,List.cons_append,List.nil_append]
  refine Zo (Wk ?_)
  refine Ya (.inl rfl) (.nil) (fun w hw=>?_)
  have h3:XU (ZO.nd ⟨⟨⟨Za,Zb⟩,⟨Zc,Zh⟩,⟨Zj,Zi,Zg⟩,⟨Zf,Ze,Zd⟩⟩,Zq,Zu,ZF,Zx,ZN,ZC,ZA,Zw,Zr,Zy,Zp,Zz,⟨Zt,Zs,Zl⟩,ZE,ZG⟩) (ZM.lt ⟨Yk,⟨ZV,YB⟩,YY,l_id,⟨Yo,Yn,ZT⟩,YP,⟨ZP,ZY⟩,⟨Ym,Yf,ZR⟩⟩)=(ZO.nd ⟨⟨⟨Za,Zb⟩,⟨Zc,Zh⟩,⟨Zj,Zi,Zg⟩,⟨Zf,Ze,Zd⟩⟩,Zq,Zu,ZF,Zx,ZN,ZC,ZA,Zw,Zr,Zy,Zp,Zz,⟨Zt,Zs,Zl⟩,ZE,ZG⟩,[Yd.snd (⟨ZV,(⟨7,⟨Za,Zb⟩,YY,0,⟨none,0,[]⟩,false,⟨-1,0⟩,⟨none,0,[]⟩⟩:ZM)⟩:Yd)]):=does6 hk
  refine ⟨_,M2,[(bw,rowO (ZQ.segs ⟨⟨⟨⟨Za,Zb⟩,⟨Zc,Zh⟩,⟨Zj,Zi,Zg⟩,⟨Zf,Ze,Zd⟩⟩,Zq,Zu,ZF,Zx,ZN,ZC,ZA,Zw,Zr,Zy,Zp,Zz,⟨Zt,Zs,Zl⟩,ZE,ZG⟩,⟨o9a,o9c,o9l⟩⟩) 68)],rfl,hm2,hw.c,rfl,⟨⟨⟨Za,Zb⟩,⟨Zc,Zh⟩,⟨Zj,Zi,Zg⟩,⟨Zf,Ze,Zd⟩⟩,Zq,Zu,ZF,Zx,ZN,ZC,ZA,Zw,Zr,Zy,Zp,Zz,⟨Zt,Zs,Zl⟩,ZE,ZG⟩,⟨o9a,o9c,o9l⟩,rfl,?_,?_,⟨Yj.mono hm2,Ys.mono hm2⟩,k9o,fun y hy=>?_⟩
  ·rw [h3] <;> rfl
  ·rw [h3]
   show sndl o9l=_
   rw [hl9];rfl
  ·simp only at hy
   rw [hl9] at hy
   obtain rfl:=List.mem_singleton.1 hy
   exact ⟨⟨SlK.nil,SlK.nil⟩⟩
theorem pong_ok (M:Mem) (bw:Nat) (Za:Int) (Zb:Plc) (Zc:Int) (Zh:Plc) (Zj Zf Zt:Option Addr) (Zi Ze Zs:Nat) (Zg Zd:List ZD) (Zl:List Int) (Zq:Int) (Zu:Bool) (ZF Zx ZN ZC ZA Zw Zr Zy Zp:Int) (Zz:Plc) (ZE ZG:Int) (Yj:ZL.ok M ⟨⟨Za,Zb⟩,⟨Zc,Zh⟩,⟨Zj,Zi,Zg⟩,⟨Zf,Ze,Zd⟩⟩) (Ys:SlK M (oneI .i64) 1 ⟨Zt,Zs,Zl⟩) (hbig:Zg.length≤40∧Zd.length≤200) (hLa:Zl.length≤1000) (hh:0≤ZE∧ZE≤1000) (l:ZM) (hl0:ZM.ok M l) (hLp:l.peers.l.length≤1000) (hk:l.kind=7):Fh Tryz.prog 51 [.pointer (some ⟨bw,0,none⟩),l.enc] M [(bw,rowO (ZQ.segs ⟨⟨⟨⟨Za,Zb⟩,⟨Zc,Zh⟩,⟨Zj,Zi,Zg⟩,⟨Zf,Ze,Zd⟩⟩,Zq,Zu,ZF,Zx,ZN,ZC,ZA,Zw,Zr,Zy,Zp,Zz,⟨Zt,Zs,Zl⟩,ZE,ZG⟩,⟨none,0,[]⟩⟩) 68)] (fun M' v Hout=>v=.tuple #[]∧WkF bw 68 M' Hout (XU (ZO.nd ⟨⟨⟨Za,Zb⟩,⟨Zc,Zh⟩,⟨Zj,Zi,Zg⟩,⟨Zf,Ze,Zd⟩⟩,Zq,Zu,ZF,Zx,ZN,ZC,ZA,Zw,Zr,Zy,Zp,Zz,⟨Zt,Zs,Zl⟩,ZE,ZG⟩) l.lt)):=by
  obtain ⟨Yk,⟨ZV,YB⟩,YY,l_id,⟨Yo,Yn,ZT⟩,YP,⟨ZP,ZY⟩,⟨Ym,Yf,ZR⟩⟩:=l
  simp only at hLp hk
  have XT:SlK M (oneI .i64) 1 ⟨Yo,Yn,ZT⟩:=hl0.h0
  have Xh:SlK M ZD.segs 21 ⟨Ym,Yf,ZR⟩:=hl0.h1
  have XX:=Xh.h1
  simp only at XX
  have Vb:(ZR.map ZD.segs).length=ZR.length:=List.length_map ..
  have Vd:ZR.length≤Yf:=Xh.h3
  refine XP (fun H=>(bw,rowO (ZQ.segs ⟨⟨⟨⟨Za,Zb⟩,⟨Zc,Zh⟩,⟨Zj,Zi,Zg⟩,⟨Zf,Ze,Zd⟩⟩,Zq,Zu,ZF,Zx,ZN,ZC,ZA,Zw,Zr,Zy,Zp,Zz,⟨Zt,Zs,Zl⟩,ZE,ZG⟩,⟨none,0,[]⟩⟩) 68)::H) (fun _=>by simp only [List.append_assoc,List.cons_append,List.nil_append]) Tryz.func51 rfl Tryz.ntmps51 rfl ?_;intro H
  refine ZI (Zm (l:=[0]) rfl ?_)
  refine Xk ?_;intro b1
  refine Zo (Zn (Y_pk [3,0] ?_));refine ZI (Yy (l:=[0,1,2,3,4,5,6,7,8,9,10,11,12,13,14,15,16,17,18]) #[0,1,3,7,15,0,32,96,255,511,1023,2047,4095,8191,16383,1023,33791,131071,262143] _ rfl (by kernel_rfl) (by kernel_rfl) St.drawn (fun _ h=>h) ?_);refine Zv ?_;refine ZS ?_;refine Zk F.foff68_0 ?_;refine Zk F.foff32_8 ?_;refine ZH F.lay3 ?_;refine Zk F.foff44_1 ?_;refine Zk F.foff25_0 ?_;refine ZH F.lay3 ?_;refine Yz ?_;refine Zv ?_
  refine Yh 13 rfl (fun hc2=>?_) (fun hc2=>?_)
  ·replace hc2:=dT hc2
   refine Zv ?_;refine ZS ?_;refine Zk F.foff68_0 ?_;refine Zk F.foff32_9 ?_;refine ZH F.lay29 ?_;refine Zk F.foff44_2 ?_;refine ZH F.lay29 ?_;refine Yz ?_;refine ZK ?_;refine Zo (Zn (Y_pk [22,0] ?_))
   refine Yx rfl (fun hc3=>?_) (fun hc3=>?_)
   ·replace hc3:=dT hc3
    refine Zm (l:=[0,1,2,3,4]) rfl ?_;refine Zv ?_;refine ZS ?_;refine Zk F.foff68_0 ?_;refine Zk F.foff32_8 ?_;refine Yi F.lay3 ?_;refine Zo ?_
    refine Ya (.inl rfl) (.nil) (fun w hw=>?_)
    have h3:XU (ZO.nd ⟨⟨⟨Za,Zb⟩,⟨Zc,Zh⟩,⟨Zj,Zi,Zg⟩,⟨Zf,Ze,Zd⟩⟩,Zq,Zu,ZF,Zx,ZN,ZC,ZA,Zw,Zr,Zy,Zp,Zz,⟨Zt,Zs,Zl⟩,ZE,ZG⟩) (ZM.lt ⟨Yk,⟨ZV,YB⟩,YY,l_id,⟨Yo,Yn,ZT⟩,YP,⟨ZP,ZY⟩,⟨Ym,Yf,ZR⟩⟩)=(ZO.nd ⟨⟨⟨Za,Zb⟩,⟨Zc,Zh⟩,⟨Zj,Zi,Zg⟩,⟨Zf,Ze,Zd⟩⟩,Zq,Zu,ZF,Zx,ZN,ZC,ZA,(-1),Zr,Zy,Zp,Zz,⟨Zt,Zs,Zl⟩,ZE,ZG⟩,[]):=does7y hk (show Zw=ZV∧Zr=YY by constructor <;> first|assumption|omega)
    refine ⟨_,M,[(bw,rowO (ZQ.segs ⟨⟨⟨⟨Za,Zb⟩,⟨Zc,Zh⟩,⟨Zj,Zi,Zg⟩,⟨Zf,Ze,Zd⟩⟩,Zq,Zu,ZF,Zx,ZN,ZC,ZA,(-1),Zr,Zy,Zp,Zz,⟨Zt,Zs,Zl⟩,ZE,ZG⟩,⟨none,0,[]⟩⟩) 68)],rfl,Mem.le.refl M,hw.c,rfl,⟨⟨⟨Za,Zb⟩,⟨Zc,Zh⟩,⟨Zj,Zi,Zg⟩,⟨Zf,Ze,Zd⟩⟩,Zq,Zu,ZF,Zx,ZN,ZC,ZA,(-1),Zr,Zy,Zp,Zz,⟨Zt,Zs,Zl⟩,ZE,ZG⟩,⟨none,0,[]⟩,rfl,?_,?_,⟨Yj,Ys⟩,SlK.nil,fun y hy=>by cases hy⟩
    ·rw [h3] <;> rfl
    ·rw [h3] <;> rfl
   ·replace hc3:=dF hc3
    refine Yv ?_
    refine Ya (.inl rfl) (.nil) (fun w hw=>?_)
    have h3:XU (ZO.nd ⟨⟨⟨Za,Zb⟩,⟨Zc,Zh⟩,⟨Zj,Zi,Zg⟩,⟨Zf,Ze,Zd⟩⟩,Zq,Zu,ZF,Zx,ZN,ZC,ZA,Zw,Zr,Zy,Zp,Zz,⟨Zt,Zs,Zl⟩,ZE,ZG⟩) (ZM.lt ⟨Yk,⟨ZV,YB⟩,YY,l_id,⟨Yo,Yn,ZT⟩,YP,⟨ZP,ZY⟩,⟨Ym,Yf,ZR⟩⟩)=(ZO.nd ⟨⟨⟨Za,Zb⟩,⟨Zc,Zh⟩,⟨Zj,Zi,Zg⟩,⟨Zf,Ze,Zd⟩⟩,Zq,Zu,ZF,Zx,ZN,ZC,ZA,Zw,Zr,Zy,Zp,Zz,⟨Zt,Zs,Zl⟩,ZE,ZG⟩,[]):=does7n hk (show ¬(Zw=ZV∧Zr=YY) by rintro ⟨q1,q2⟩;first|contradiction|omega)
    refine ⟨_,M,[(bw,rowO (ZQ.segs ⟨⟨⟨⟨Za,Zb⟩,⟨Zc,Zh⟩,⟨Zj,Zi,Zg⟩,⟨Zf,Ze,Zd⟩⟩,Zq,Zu,ZF,Zx,ZN,ZC,ZA,Zw,Zr,Zy,Zp,Zz,⟨Zt,Zs,Zl⟩,ZE,ZG⟩,⟨none,0,[]⟩⟩) 68)],rfl,Mem.le.refl M,hw.c,rfl,⟨⟨⟨Za,Zb⟩,⟨Zc,Zh⟩,⟨Zj,Zi,Zg⟩,⟨Zf,Ze,Zd⟩⟩,Zq,Zu,ZF,Zx,ZN,ZC,ZA,Zw,Zr,Zy,Zp,Zz,⟨Zt,Zs,Zl⟩,ZE,ZG⟩,⟨none,0,[]⟩,rfl,?_,?_,⟨Yj,Ys⟩,SlK.nil,fun y hy=>by cases hy⟩
    ·rw [h3] <;> rfl
    ·rw [h3] <;> rfl
  ·replace hc2:=dF hc2
   iterate 8 refine ZU ?_
   refine ZK ?_;refine Zo (Zn (Y_pk [22,0] ?_));refine Ws rfl ?_;refine Yv ?_
   refine Ya (.inl rfl) (.nil) (fun w hw=>?_)
   have h3:XU (ZO.nd ⟨⟨⟨Za,Zb⟩,⟨Zc,Zh⟩,⟨Zj,Zi,Zg⟩,⟨Zf,Ze,Zd⟩⟩,Zq,Zu,ZF,Zx,ZN,ZC,ZA,Zw,Zr,Zy,Zp,Zz,⟨Zt,Zs,Zl⟩,ZE,ZG⟩) (ZM.lt ⟨Yk,⟨ZV,YB⟩,YY,l_id,⟨Yo,Yn,ZT⟩,YP,⟨ZP,ZY⟩,⟨Ym,Yf,ZR⟩⟩)=(ZO.nd ⟨⟨⟨Za,Zb⟩,⟨Zc,Zh⟩,⟨Zj,Zi,Zg⟩,⟨Zf,Ze,Zd⟩⟩,Zq,Zu,ZF,Zx,ZN,ZC,ZA,Zw,Zr,Zy,Zp,Zz,⟨Zt,Zs,Zl⟩,ZE,ZG⟩,[]):=does7n hk (show ¬(Zw=ZV∧Zr=YY) by rintro ⟨q1,q2⟩;first|contradiction|omega)
   refine ⟨_,M,[(bw,rowO (ZQ.segs ⟨⟨⟨⟨Za,Zb⟩,⟨Zc,Zh⟩,⟨Zj,Zi,Zg⟩,⟨Zf,Ze,Zd⟩⟩,Zq,Zu,ZF,Zx,ZN,ZC,ZA,Zw,Zr,Zy,Zp,Zz,⟨Zt,Zs,Zl⟩,ZE,ZG⟩,⟨none,0,[]⟩⟩) 68)],rfl,Mem.le.refl M,hw.c,rfl,⟨⟨⟨Za,Zb⟩,⟨Zc,Zh⟩,⟨Zj,Zi,Zg⟩,⟨Zf,Ze,Zd⟩⟩,Zq,Zu,ZF,Zx,ZN,ZC,ZA,Zw,Zr,Zy,Zp,Zz,⟨Zt,Zs,Zl⟩,ZE,ZG⟩,⟨none,0,[]⟩,rfl,?_,?_,⟨Yj,Ys⟩,SlK.nil,fun y hy=>by cases hy⟩
   ·rw [h3] <;> rfl
   ·rw [h3] <;> rfl
end Go.Proofs.YtajmnjefajknoaaGreat
namespace Go.Proofs.YtajmnjefajknoaaGreat
open Go.Esp
theorem F.ok102:okFn Tryz.prog 102=true:=by kernel_rfl
theorem F.ok53:okFn Tryz.prog 53=true:=by kernel_rfl
theorem end_ok (M:Mem) (bw:Nat) (Za:Int) (Zb:Plc) (Zc:Int) (Zh:Plc) (Zj Zf Zt:Option Addr) (Zi Ze Zs:Nat) (Zg Zd:List ZD) (Zl:List Int) (Zq:Int) (Zu:Bool) (ZF Zx ZN ZC ZA Zw Zr Zy Zp:Int) (Zz:Plc) (ZE ZG:Int) (Yj:ZL.ok M ⟨⟨Za,Zb⟩,⟨Zc,Zh⟩,⟨Zj,Zi,Zg⟩,⟨Zf,Ze,Zd⟩⟩) (Ys:SlK M (oneI .i64) 1 ⟨Zt,Zs,Zl⟩) (p:ZD):Fh Tryz.prog 102 [.pointer (some ⟨bw,0,none⟩),p.enc] M [(bw,rowO (ZQ.segs ⟨⟨⟨⟨Za,Zb⟩,⟨Zc,Zh⟩,⟨Zj,Zi,Zg⟩,⟨Zf,Ze,Zd⟩⟩,Zq,Zu,ZF,Zx,ZN,ZC,ZA,Zw,Zr,Zy,Zp,Zz,⟨Zt,Zs,Zl⟩,ZE,ZG⟩,⟨none,0,[]⟩⟩) 68)] (fun M' v Hout=>v=.tuple #[]∧∃ n9:ZO,Hout=[(bw,rowO (ZQ.segs ⟨n9,⟨none,0,[]⟩⟩) 68)]∧ZO.ok M' n9∧n9.nd=endN (ZO.nd ⟨⟨⟨Za,Zb⟩,⟨Zc,Zh⟩,⟨Zj,Zi,Zg⟩,⟨Zf,Ze,Zd⟩⟩,Zq,Zu,ZF,Zx,ZN,ZC,ZA,Zw,Zr,Zy,Zp,Zz,⟨Zt,Zs,Zl⟩,ZE,ZG⟩) p):=by
  obtain ⟨Xc,p_id⟩:=p
  refine XP (fun H=>(bw,rowO (ZQ.segs ⟨⟨⟨⟨Za,Zb⟩,⟨Zc,Zh⟩,⟨Zj,Zi,Zg⟩,⟨Zf,Ze,Zd⟩⟩,Zq,Zu,ZF,Zx,ZN,ZC,ZA,Zw,Zr,Zy,Zp,Zz,⟨Zt,Zs,Zl⟩,ZE,ZG⟩,⟨none,0,[]⟩⟩) 68)::H) (fun _=>by simp only [List.append_assoc,List.cons_append,List.nil_append]) Tryz.func102 rfl Tryz.ntmps102 rfl ?_;intro H
  refine ZI (Zm (l:=[0]) rfl ?_)
  refine Xk ?_;intro b1
  refine Zo (Zn (Y_pk [3,0] ?_));refine Xd (ZI (Yy (l:=[0,1,2,3,4,5,6,7,8,9,10,11,12,13,14,15,16,17,18,19,20]) #[0,1,3,7,15,31,63,63,255,511,1023,1023,3071,7167,15359,31743,64511,131071,262143,524287,1048575] _ rfl (by kernel_rfl) (by kernel_rfl) St.drawn (fun _ h=>h) ?_));refine Zv ?_;refine ZS ?_;refine Zk F.foff68_0 ?_;refine Zk F.foff32_2 ?_;refine ZH F.lay4 ?_;refine Zv ?_
  refine Yh 10 rfl (fun hc2=>?_) (fun hc2=>?_)
  ·skip
   refine Zv ?_;refine ZH F.lay25 ?_;refine X_fo rfl rfl F.ok53 rfl (wother_ok M bw Za Zb Zc Zh Zj Zf Zt Zi Ze Zs Zg Zd Zl Zq Zu ZF Zx ZN ZC ZA Zw Zr Zy Zp Zz ZE ZG ⟨Xc,p_id⟩) (by repeat first|exact Rem.here _|exact Rem.two|apply Rem.skip|apply Rem.over) (YA rfl) ?_
   rintro _ M1 _ ⟨hM1,rfl⟩;subst M1
   refine Zv ?_
   refine Yh 14 rfl (fun hc3=>?_) (fun hc3=>?_)
   ·replace hc3:=dT hc3
    iterate 8 refine ZU ?_
    iterate 2 refine ZK ?_
    refine ZB ?_;refine Zo (Zn (Y_pk [4,3,0] ?_));refine Xe rfl ?_;refine Xq (l:=[0,1,2]) [2] rfl ?_;refine Zv ?_;refine ZH F.lay25 ?_;refine Ww rfl rfl rfl F.ok87 rfl (point_ok M bw Za Zb Zc Zh Zj Zf Zt Zi Ze Zs Zg Zd Zl Zq Zu ZF Zx ZN ZC ZA Zw Zr Zy Zp Zz ZE ZG Yj ⟨Xc,p_id⟩) (by repeat first|exact Rem.here _|exact Rem.two|apply Rem.skip|apply Rem.over) (YA rfl) ?_
    rintro _ M1 hs1 hm1 ⟨rfl,⟨⟨wa,wi⟩,⟨wq,wj⟩,⟨w1a,w1c,w1l⟩,⟨w2a,w2c,w2l⟩⟩,c9,rfl,okl,hv1⟩
    simp only [List.append_assoc,List.cons_append,List.nil_append]
    refine Zo (Wk ?_);refine XV ?_
    refine Ya (.inl rfl) (.nil) (fun w hw=>?_)
    (refine ⟨_,M1,[(bw,rowO (ZQ.segs ⟨⟨⟨⟨wa,wi⟩,⟨wq,wj⟩,⟨w1a,w1c,w1l⟩,⟨w2a,w2c,w2l⟩⟩,Zq,Zu,ZF,c9,ZN,ZC,ZA,Zw,Zr,Zy,Zp,Zz,⟨Zt,Zs,Zl⟩,ZE,ZG⟩,⟨none,0,[]⟩⟩) 68)],rfl,hm1,?_,rfl,⟨⟨⟨wa,wi⟩,⟨wq,wj⟩,⟨w1a,w1c,w1l⟩,⟨w2a,w2c,w2l⟩⟩,Zq,Zu,ZF,c9,ZN,ZC,ZA,Zw,Zr,Zy,Zp,Zz,⟨Zt,Zs,Zl⟩,ZE,ZG⟩,rfl,⟨okl,Ys.mono hm1⟩,hv1.trans (end_point (n:=(ZO.nd ⟨⟨⟨Za,Zb⟩,⟨Zc,Zh⟩,⟨Zj,Zi,Zg⟩,⟨Zf,Ze,Zd⟩⟩,Zq,Zu,ZF,Zx,ZN,ZC,ZA,Zw,Zr,Zy,Zp,Zz,⟨Zt,Zs,Zl⟩,ZE,ZG⟩)) (show Zu=true by first|assumption|(simp_all;done)) (show Xr ⟨Za,Zb⟩ ⟨Xc,p_id⟩∨(⟨Xc,p_id⟩:ZD)=⟨Za,Zb⟩ by first|exact .inl (by assumption)|exact .inr (by assumption))).symm⟩;simp only [ZQ.segs,Sl.val,List.length_nil] at hw ⊢;exact hw.c)
   ·replace hc3:=dF hc3
    refine ZH F.lay25 ?_;refine Zv ?_;refine ZS ?_;refine Zk F.foff68_0 ?_;refine Zk F.foff32_0 ?_;refine Zk F.foff28_0 ?_;refine ZH F.lay25 ?_
    refine Wf (m:=20) rfl rfl rfl rfl rfl (by constructor) (by constructor) F.lay25 F.kinds25 rfl F.guard25 (by exact Xf (⟨_,_⟩)) (by exact Xf (⟨_,_⟩)) rfl rfl rfl ?_;intro c4 he5
    replace he5:c4=true↔Segs.cells _=Segs.cells _:=he5
    obtain rfl:=eqD he5 (ZD.inj (x:=⟨_,_⟩) (y:=⟨_,_⟩));clear he5
    iterate 2 refine ZK ?_
    refine ZB ?_;refine Zo (Zn (Y_pk [4,3,0] ?_))
    refine Yx rfl (fun hc6=>?_) (fun hc6=>?_)
    ·replace hc6:=dT hc6
     refine Xq (l:=[0,1,2]) [2] rfl ?_;refine Zv ?_;refine ZH F.lay25 ?_;refine Ww rfl rfl rfl F.ok87 rfl (point_ok M bw Za Zb Zc Zh Zj Zf Zt Zi Ze Zs Zg Zd Zl Zq Zu ZF Zx ZN ZC ZA Zw Zr Zy Zp Zz ZE ZG Yj ⟨Xc,p_id⟩) (by repeat first|exact Rem.here _|exact Rem.two|apply Rem.skip|apply Rem.over) (YA rfl) ?_
     rintro _ M1 hs1 hm1 ⟨rfl,⟨⟨wa,wi⟩,⟨wq,wj⟩,⟨w1a,w1c,w1l⟩,⟨w2a,w2c,w2l⟩⟩,c9,rfl,okl,hv1⟩
     simp only [List.append_assoc,List.cons_append,List.nil_append]
     refine Zo (Wk ?_);refine XV ?_
     refine Ya (.inl rfl) (.nil) (fun w hw=>?_)
     (refine ⟨_,M1,[(bw,rowO (ZQ.segs ⟨⟨⟨⟨wa,wi⟩,⟨wq,wj⟩,⟨w1a,w1c,w1l⟩,⟨w2a,w2c,w2l⟩⟩,Zq,Zu,ZF,c9,ZN,ZC,ZA,Zw,Zr,Zy,Zp,Zz,⟨Zt,Zs,Zl⟩,ZE,ZG⟩,⟨none,0,[]⟩⟩) 68)],rfl,hm1,?_,rfl,⟨⟨⟨wa,wi⟩,⟨wq,wj⟩,⟨w1a,w1c,w1l⟩,⟨w2a,w2c,w2l⟩⟩,Zq,Zu,ZF,c9,ZN,ZC,ZA,Zw,Zr,Zy,Zp,Zz,⟨Zt,Zs,Zl⟩,ZE,ZG⟩,rfl,⟨okl,Ys.mono hm1⟩,hv1.trans (end_point (n:=(ZO.nd ⟨⟨⟨Za,Zb⟩,⟨Zc,Zh⟩,⟨Zj,Zi,Zg⟩,⟨Zf,Ze,Zd⟩⟩,Zq,Zu,ZF,Zx,ZN,ZC,ZA,Zw,Zr,Zy,Zp,Zz,⟨Zt,Zs,Zl⟩,ZE,ZG⟩)) (show Zu=true by first|assumption|(simp_all;done)) (show Xr ⟨Za,Zb⟩ ⟨Xc,p_id⟩∨(⟨Xc,p_id⟩:ZD)=⟨Za,Zb⟩ by first|exact .inl (by assumption)|exact .inr (by assumption))).symm⟩;simp only [ZQ.segs,Sl.val,List.length_nil] at hw ⊢;exact hw.c)
    ·replace hc6:=dF hc6
     refine ZI (Zm (l:=[0,1,2,3,4,5,6,7,8,9,10,11]) rfl ?_);refine Zv ?_;refine ZS ?_;refine Zk F.foff68_0 ?_;refine Zk F.foff32_2 ?_;refine ZH F.lay4 ?_;refine Xx ?_;refine Zv ?_
     refine Yh 35 rfl (fun hc7=>?_) (fun hc7=>?_)
     ·skip
      refine Zv ?_;refine ZH F.lay25 ?_;refine X_fo rfl rfl F.ok53 rfl (wother_ok M bw Za Zb Zc Zh Zj Zf Zt Zi Ze Zs Zg Zd Zl Zq Zu ZF Zx ZN ZC ZA Zw Zr Zy Zp Zz ZE ZG ⟨Xc,p_id⟩) (by repeat first|exact Rem.here _|exact Rem.two|apply Rem.skip|apply Rem.over) (YA rfl) ?_
      rintro _ M1 _ ⟨hM1,rfl⟩;subst M1
      refine ZK ?_;refine ZB ?_;refine Zo (Zn (Y_pk [28,3,0] ?_))
      refine Yx rfl (fun hc8=>?_) (fun hc8=>?_)
      ·replace hc8:=dT hc8
       contradiction
      ·replace hc8:=dF hc8
       refine Yv (XV ?_)
       refine Ya (.inl rfl) (.nil) (fun w hw=>?_)
       (exfalso;simp_all;done)
     ·skip
      iterate 3 refine ZU ?_
      refine ZK ?_;refine ZB ?_;refine Zo (Zn (Y_pk [28,3,0] ?_));refine Ws rfl ?_;refine Yv (XV ?_)
      refine Ya (.inl rfl) (.nil) (fun w hw=>?_)
      (refine ⟨_,M,[(bw,rowO (ZQ.segs ⟨⟨⟨⟨Za,Zb⟩,⟨Zc,Zh⟩,⟨Zj,Zi,Zg⟩,⟨Zf,Ze,Zd⟩⟩,Zq,Zu,ZF,Zx,ZN,ZC,ZA,Zw,Zr,Zy,Zp,Zz,⟨Zt,Zs,Zl⟩,ZE,ZG⟩,⟨none,0,[]⟩⟩) 68)],rfl,Mem.le.refl M,?_,rfl,⟨⟨⟨Za,Zb⟩,⟨Zc,Zh⟩,⟨Zj,Zi,Zg⟩,⟨Zf,Ze,Zd⟩⟩,Zq,Zu,ZF,Zx,ZN,ZC,ZA,Zw,Zr,Zy,Zp,Zz,⟨Zt,Zs,Zl⟩,ZE,ZG⟩,rfl,⟨Yj,Ys⟩,(end_not (n:=(ZO.nd ⟨⟨⟨Za,Zb⟩,⟨Zc,Zh⟩,⟨Zj,Zi,Zg⟩,⟨Zf,Ze,Zd⟩⟩,Zq,Zu,ZF,Zx,ZN,ZC,ZA,Zw,Zr,Zy,Zp,Zz,⟨Zt,Zs,Zl⟩,ZE,ZG⟩)) (p:=⟨Xc,p_id⟩) (fun q=>by
       have q9:Zu=true:=q
       exact ⟨show ¬Xr ⟨Za,Zb⟩ ⟨Xc,p_id⟩ by first|assumption|(exfalso;simp_all;done),show ¬(⟨Xc,p_id⟩:ZD)=⟨Za,Zb⟩ by first|assumption|(exfalso;simp_all;done)⟩) (fun q=>by
       have q9:Zu=false:=q
       (show ¬Xr ⟨Za,Zb⟩ ⟨Xc,p_id⟩;assumption))).symm⟩;simp only [ZQ.segs,Sl.val,List.length_nil] at hw ⊢;exact hw.c)
  ·skip
   iterate 13 refine ZU ?_
   refine ZK ?_;refine ZB ?_;refine Zo (Zn (Y_pk [4,3,0] ?_));refine Ws rfl ?_;refine ZI (Zm (l:=[0,1,2,3,4,5,6,7,8,9,10,11]) rfl ?_);refine Zv ?_;refine ZS ?_;refine Zk F.foff68_0 ?_;refine Zk F.foff32_2 ?_;refine ZH F.lay4 ?_;refine Xx ?_;refine Zv ?_
   refine Yh 35 rfl (fun hc9=>?_) (fun hc9=>?_)
   ·skip
    refine Zv ?_;refine ZH F.lay25 ?_;refine X_fo rfl rfl F.ok53 rfl (wother_ok M bw Za Zb Zc Zh Zj Zf Zt Zi Ze Zs Zg Zd Zl Zq Zu ZF Zx ZN ZC ZA Zw Zr Zy Zp Zz ZE ZG ⟨Xc,p_id⟩) (by repeat first|exact Rem.here _|exact Rem.two|apply Rem.skip|apply Rem.over) (YA rfl) ?_
    rintro _ M1 _ ⟨hM1,rfl⟩;subst M1
    refine ZK ?_;refine ZB ?_;refine Zo (Zn (Y_pk [28,3,0] ?_))
    refine Yx rfl (fun hc10=>?_) (fun hc10=>?_)
    ·replace hc10:=dT hc10
     refine ZI (Xq (l:=[0,1,2]) [2] rfl ?_);refine Zv ?_;refine ZH F.lay25 ?_;refine Ww rfl rfl rfl F.ok82 rfl (adopt_ok M bw Za Zb Zc Zh Zj Zf Zt Zi Ze Zs Zg Zd Zl Zq Zu ZF Zx ZN ZC ZA Zw Zr Zy Zp Zz ZE ZG Yj ⟨Xc,p_id⟩ ⟨none,0,[]⟩ SlK.nil) (by repeat first|exact Rem.here _|exact Rem.two|apply Rem.skip|apply Rem.over) (YA rfl) ?_
     rintro _ M1 hs1 hm1 ⟨rfl,⟨⟨wa,wi⟩,⟨wq,wj⟩,⟨w1a,w1c,w1l⟩,⟨w2a,w2c,w2l⟩⟩,rfl,okl,hv1⟩
     simp only [List.append_assoc,List.cons_append,List.nil_append]
     refine Zo (Wk ?_);refine Zn (Y_pk [0] ?_);refine Zm (l:=[0,1,2,3,4,5,6,7,8,9,10,11,12,13,14]) rfl ?_
     iterate 3 refine Zv ?_
     refine ZS ?_;refine Zk F.foff68_0 ?_;refine Zk F.foff32_2 ?_;refine Yi F.lay4 ?_;refine ZS ?_;refine Zk F.foff68_0 ?_;refine Zk F.foff32_4 ?_;refine Yi F.lay3 ?_;refine ZS ?_;refine Zk F.foff68_0 ?_;refine Zk F.foff32_13 ?_;refine Yi F.lay30 ?_;refine Zo (XV ?_)
     refine Ya (.inl rfl) (.nil) (fun w hw=>?_)
     (refine ⟨_,M1,[(bw,rowO (ZQ.segs ⟨⟨⟨⟨wa,wi⟩,⟨wq,wj⟩,⟨w1a,w1c,w1l⟩,⟨w2a,w2c,w2l⟩⟩,Zq,true,ZF,0,ZN,ZC,ZA,Zw,Zr,Zy,Zp,Zz,⟨none,0,[]⟩,ZE,ZG⟩,⟨none,0,[]⟩⟩) 68)],rfl,hm1,?_,rfl,⟨⟨⟨wa,wi⟩,⟨wq,wj⟩,⟨w1a,w1c,w1l⟩,⟨w2a,w2c,w2l⟩⟩,Zq,true,ZF,0,ZN,ZC,ZA,Zw,Zr,Zy,Zp,Zz,⟨none,0,[]⟩,ZE,ZG⟩,rfl,⟨okl,SlK.nil⟩,(end_adopt (n:=(ZO.nd ⟨⟨⟨Za,Zb⟩,⟨Zc,Zh⟩,⟨Zj,Zi,Zg⟩,⟨Zf,Ze,Zd⟩⟩,Zq,Zu,ZF,Zx,ZN,ZC,ZA,Zw,Zr,Zy,Zp,Zz,⟨Zt,Zs,Zl⟩,ZE,ZG⟩)) (show Zu=false by first|assumption|(simp_all;done)) (show Xr ⟨Za,Zb⟩ ⟨Xc,p_id⟩ by assumption) hv1).symm⟩;simp only [ZQ.segs,Sl.val,List.length_nil] at hw ⊢;exact hw.c)
    ·replace hc10:=dF hc10
     refine Yv (XV ?_)
     refine Ya (.inl rfl) (.nil) (fun w hw=>?_)
     (refine ⟨_,M,[(bw,rowO (ZQ.segs ⟨⟨⟨⟨Za,Zb⟩,⟨Zc,Zh⟩,⟨Zj,Zi,Zg⟩,⟨Zf,Ze,Zd⟩⟩,Zq,Zu,ZF,Zx,ZN,ZC,ZA,Zw,Zr,Zy,Zp,Zz,⟨Zt,Zs,Zl⟩,ZE,ZG⟩,⟨none,0,[]⟩⟩) 68)],rfl,Mem.le.refl M,?_,rfl,⟨⟨⟨Za,Zb⟩,⟨Zc,Zh⟩,⟨Zj,Zi,Zg⟩,⟨Zf,Ze,Zd⟩⟩,Zq,Zu,ZF,Zx,ZN,ZC,ZA,Zw,Zr,Zy,Zp,Zz,⟨Zt,Zs,Zl⟩,ZE,ZG⟩,rfl,⟨Yj,Ys⟩,(end_not (n:=(ZO.nd ⟨⟨⟨Za,Zb⟩,⟨Zc,Zh⟩,⟨Zj,Zi,Zg⟩,⟨Zf,Ze,Zd⟩⟩,Zq,Zu,ZF,Zx,ZN,ZC,ZA,Zw,Zr,Zy,Zp,Zz,⟨Zt,Zs,Zl⟩,ZE,ZG⟩)) (p:=⟨Xc,p_id⟩) (fun q=>by
      have q9:Zu=true:=q
      exact ⟨show ¬Xr ⟨Za,Zb⟩ ⟨Xc,p_id⟩ by first|assumption|(exfalso;simp_all;done),show ¬(⟨Xc,p_id⟩:ZD)=⟨Za,Zb⟩ by first|assumption|(exfalso;simp_all;done)⟩) (fun q=>by
      have q9:Zu=false:=q
      (show ¬Xr ⟨Za,Zb⟩ ⟨Xc,p_id⟩;assumption))).symm⟩;simp only [ZQ.segs,Sl.val,List.length_nil] at hw ⊢;exact hw.c)
   ·skip
    iterate 3 refine ZU ?_
    refine ZK ?_;refine ZB ?_;refine Zo (Zn (Y_pk [28,3,0] ?_));refine Ws rfl ?_;refine Yv (XV ?_)
    refine Ya (.inl rfl) (.nil) (fun w hw=>?_)
    (exfalso;simp_all;done)
theorem found_ok (M:Mem) (bw:Nat) (Za:Int) (Zb:Plc) (Zc:Int) (Zh:Plc) (Zj Zf Zt:Option Addr) (Zi Ze Zs:Nat) (Zg Zd:List ZD) (Zl:List Int) (Zq:Int) (Zu:Bool) (ZF Zx ZN ZC ZA Zw Zr Zy Zp:Int) (Zz:Plc) (ZE ZG:Int) (Yj:ZL.ok M ⟨⟨Za,Zb⟩,⟨Zc,Zh⟩,⟨Zj,Zi,Zg⟩,⟨Zf,Ze,Zd⟩⟩) (Ys:SlK M (oneI .i64) 1 ⟨Zt,Zs,Zl⟩) (hbig:Zg.length≤40∧Zd.length≤200) (hLa:Zl.length≤1000) (hh:0≤ZE∧ZE≤1000) (l:ZM) (hl0:ZM.ok M l) (hLp:l.peers.l.length≤1000) (hk:l.kind=2):Fh Tryz.prog 46 [.pointer (some ⟨bw,0,none⟩),l.enc] M [(bw,rowO (ZQ.segs ⟨⟨⟨⟨Za,Zb⟩,⟨Zc,Zh⟩,⟨Zj,Zi,Zg⟩,⟨Zf,Ze,Zd⟩⟩,Zq,Zu,ZF,Zx,ZN,ZC,ZA,Zw,Zr,Zy,Zp,Zz,⟨Zt,Zs,Zl⟩,ZE,ZG⟩,⟨none,0,[]⟩⟩) 68)] (fun M' v Hout=>v=.tuple #[]∧WkF bw 68 M' Hout (XU (ZO.nd ⟨⟨⟨Za,Zb⟩,⟨Zc,Zh⟩,⟨Zj,Zi,Zg⟩,⟨Zf,Ze,Zd⟩⟩,Zq,Zu,ZF,Zx,ZN,ZC,ZA,Zw,Zr,Zy,Zp,Zz,⟨Zt,Zs,Zl⟩,ZE,ZG⟩) l.lt)):=by
  obtain ⟨Yk,⟨ZV,YB⟩,YY,l_id,⟨Yo,Yn,ZT⟩,YP,⟨ZP,ZY⟩,⟨Ym,Yf,ZR⟩⟩:=l
  simp only at hLp hk
  have XT:SlK M (oneI .i64) 1 ⟨Yo,Yn,ZT⟩:=hl0.h0
  have Xh:SlK M ZD.segs 21 ⟨Ym,Yf,ZR⟩:=hl0.h1
  have XX:=Xh.h1
  simp only at XX
  have Vb:(ZR.map ZD.segs).length=ZR.length:=List.length_map ..
  have Vd:ZR.length≤Yf:=Xh.h3
  refine XP (fun H=>(bw,rowO (ZQ.segs ⟨⟨⟨⟨Za,Zb⟩,⟨Zc,Zh⟩,⟨Zj,Zi,Zg⟩,⟨Zf,Ze,Zd⟩⟩,Zq,Zu,ZF,Zx,ZN,ZC,ZA,Zw,Zr,Zy,Zp,Zz,⟨Zt,Zs,Zl⟩,ZE,ZG⟩,⟨none,0,[]⟩⟩) 68)::H) (fun _=>by simp only [List.append_assoc,List.cons_append,List.nil_append]) Tryz.func46 rfl Tryz.ntmps46 rfl ?_;intro H
  refine ZI (Zm (l:=[0]) rfl ?_)
  refine Xk ?_;intro b1
  refine Zo (Zn (Y_pk [3,0] ?_))
  iterate 2 refine ZI ?_
  refine Yy (l:=[0,1,2,3,4,5,6,7,8,9,10,11,12,13,14,15,16,17,18]) #[0,1,3,7,15,0,32,96,255,511,1023,2047,4095,8191,16383,1023,33791,131071,262143] _ rfl (by kernel_rfl) (by kernel_rfl) St.drawn (fun _ h=>h) ?_;refine Zv ?_;refine ZS ?_;refine Zk F.foff68_0 ?_;refine Zk F.foff32_10 ?_;refine ZH F.lay3 ?_;refine Zk F.foff44_1 ?_;refine Zk F.foff25_0 ?_;refine ZH F.lay3 ?_;refine Yz ?_;refine Zv ?_
  refine Yh 13 rfl (fun hc2=>?_) (fun hc2=>?_)
  ·replace hc2:=nT hc2
   iterate 8 refine ZU ?_
   refine ZK ?_;refine Zo (Zn (Y_pk [22,3,0] ?_));refine Xe rfl ?_;refine Yg (YG ?_)
   refine Ya (.inr rfl) (.nil) (fun w hw=>?_)
   have h3:XU (ZO.nd ⟨⟨⟨Za,Zb⟩,⟨Zc,Zh⟩,⟨Zj,Zi,Zg⟩,⟨Zf,Ze,Zd⟩⟩,Zq,Zu,ZF,Zx,ZN,ZC,ZA,Zw,Zr,Zy,Zp,Zz,⟨Zt,Zs,Zl⟩,ZE,ZG⟩) (ZM.lt ⟨Yk,⟨ZV,YB⟩,YY,l_id,⟨Yo,Yn,ZT⟩,YP,⟨ZP,ZY⟩,⟨Ym,Yf,ZR⟩⟩)=((ZO.nd ⟨⟨⟨Za,Zb⟩,⟨Zc,Zh⟩,⟨Zj,Zi,Zg⟩,⟨Zf,Ze,Zd⟩⟩,Zq,Zu,ZF,Zx,ZN,ZC,ZA,Zw,Zr,Zy,Zp,Zz,⟨Zt,Zs,Zl⟩,ZE,ZG⟩),[]):=(does2 hk).trans (found_no (by exact .inl (by assumption)))
   refine ⟨_,M,[(bw,rowO (ZQ.segs ⟨⟨⟨⟨Za,Zb⟩,⟨Zc,Zh⟩,⟨Zj,Zi,Zg⟩,⟨Zf,Ze,Zd⟩⟩,Zq,Zu,ZF,Zx,ZN,ZC,ZA,Zw,Zr,Zy,Zp,Zz,⟨Zt,Zs,Zl⟩,ZE,ZG⟩,⟨none,0,[]⟩⟩) 68)],rfl,Mem.le.refl M,hw.c,rfl,⟨⟨⟨Za,Zb⟩,⟨Zc,Zh⟩,⟨Zj,Zi,Zg⟩,⟨Zf,Ze,Zd⟩⟩,Zq,Zu,ZF,Zx,ZN,ZC,ZA,Zw,Zr,Zy,Zp,Zz,⟨Zt,Zs,Zl⟩,ZE,ZG⟩,⟨none,0,[]⟩,rfl,?_,?_,⟨Yj,Ys⟩,SlK.nil,fun y hy=>by cases hy⟩
   ·rw [h3] <;> rfl
   ·rw [h3] <;> rfl
  ·replace hc2:=nF hc2
   refine Zv ?_;refine ZS ?_;refine Zk F.foff68_0 ?_;refine Zk F.foff32_11 ?_;refine ZH F.lay29 ?_;refine Zk F.foff44_2 ?_;refine ZH F.lay29 ?_;refine Yz ?_;refine ZK ?_;refine Zo (Zn (Y_pk [22,3,0] ?_))
   refine Yx rfl (fun hc3=>?_) (fun hc3=>?_)
   ·replace hc3:=nT hc3
    refine Yg (YG ?_)
    refine Ya (.inr rfl) (.nil) (fun w hw=>?_)
    have h3:XU (ZO.nd ⟨⟨⟨Za,Zb⟩,⟨Zc,Zh⟩,⟨Zj,Zi,Zg⟩,⟨Zf,Ze,Zd⟩⟩,Zq,Zu,ZF,Zx,ZN,ZC,ZA,Zw,Zr,Zy,Zp,Zz,⟨Zt,Zs,Zl⟩,ZE,ZG⟩) (ZM.lt ⟨Yk,⟨ZV,YB⟩,YY,l_id,⟨Yo,Yn,ZT⟩,YP,⟨ZP,ZY⟩,⟨Ym,Yf,ZR⟩⟩)=((ZO.nd ⟨⟨⟨Za,Zb⟩,⟨Zc,Zh⟩,⟨Zj,Zi,Zg⟩,⟨Zf,Ze,Zd⟩⟩,Zq,Zu,ZF,Zx,ZN,ZC,ZA,Zw,Zr,Zy,Zp,Zz,⟨Zt,Zs,Zl⟩,ZE,ZG⟩),[]):=(does2 hk).trans (found_no (by exact .inr (by assumption)))
    refine ⟨_,M,[(bw,rowO (ZQ.segs ⟨⟨⟨⟨Za,Zb⟩,⟨Zc,Zh⟩,⟨Zj,Zi,Zg⟩,⟨Zf,Ze,Zd⟩⟩,Zq,Zu,ZF,Zx,ZN,ZC,ZA,Zw,Zr,Zy,Zp,Zz,⟨Zt,Zs,Zl⟩,ZE,ZG⟩,⟨none,0,[]⟩⟩) 68)],rfl,Mem.le.refl M,hw.c,rfl,⟨⟨⟨Za,Zb⟩,⟨Zc,Zh⟩,⟨Zj,Zi,Zg⟩,⟨Zf,Ze,Zd⟩⟩,Zq,Zu,ZF,Zx,ZN,ZC,ZA,Zw,Zr,Zy,Zp,Zz,⟨Zt,Zs,Zl⟩,ZE,ZG⟩,⟨none,0,[]⟩,rfl,?_,?_,⟨Yj,Ys⟩,SlK.nil,fun y hy=>by cases hy⟩
    ·rw [h3] <;> rfl
    ·rw [h3] <;> rfl
   ·replace hc3:=nF hc3
    refine Yv (Zn (Y_pk [3,0] ?_))
    iterate 2 refine ZI ?_
    refine Zm (l:=[0,1]) rfl ?_;refine Zk F.foff44_5 ?_;refine ZH F.lay4 ?_;refine Zo (Zn (Y_pk [24,3,0] ?_))
    refine Yx rfl (fun hc4=>?_) (fun hc4=>?_)
    ·skip
     refine ZI (Zm (l:=[0,1,2,3,4]) rfl ?_);refine Zv ?_;refine ZS ?_;refine Zk F.foff68_0 ?_;refine Zk F.foff32_10 ?_;refine Yi F.lay3 ?_;refine Zo (Zn (Y_pk [3,0] ?_));refine ZI (Xq (l:=[0,1,2,3]) [3] rfl ?_);refine Zv ?_;refine Zk F.foff44_6 ?_;refine ZH F.lay25 ?_;refine Ww rfl rfl rfl F.ok102 rfl (end_ok M bw Za Zb Zc Zh Zj Zf Zt Zi Ze Zs Zg Zd Zl Zq Zu ZF Zx ZN ZC ZA Zw Zr (-1) Zp Zz ZE ZG Yj Ys ⟨ZP,ZY⟩) (by repeat first|exact Rem.here _|exact Rem.two|apply Rem.skip|apply Rem.over) (YA rfl) ?_
     rintro _ M1 hs1 hm1 ⟨rfl,⟨⟨⟨YK,YU⟩,⟨YL,YV⟩,⟨Xb,Xa,YZ⟩,⟨YO,YN,YM⟩⟩,XI,XO,Wt,XH,WI,XY,XJ,XE,Xs,XF,Xt,XG,⟨Xw,Xv,Xu⟩,Wp,Wo⟩,rfl,okv,hv1⟩
     simp only [List.append_assoc,List.cons_append,List.nil_append]
     refine Zo (Wk ?_);refine Zn (Y_pk [3,0] ?_);refine Yg (YG ?_)
     refine Ya (.inr rfl) (.nil) (fun w hw=>?_)
     have h3:XU (ZO.nd ⟨⟨⟨Za,Zb⟩,⟨Zc,Zh⟩,⟨Zj,Zi,Zg⟩,⟨Zf,Ze,Zd⟩⟩,Zq,Zu,ZF,Zx,ZN,ZC,ZA,Zw,Zr,Zy,Zp,Zz,⟨Zt,Zs,Zl⟩,ZE,ZG⟩) (ZM.lt ⟨Yk,⟨ZV,YB⟩,YY,l_id,⟨Yo,Yn,ZT⟩,YP,⟨ZP,ZY⟩,⟨Ym,Yf,ZR⟩⟩)=(ZO.nd ⟨⟨⟨YK,YU⟩,⟨YL,YV⟩,⟨Xb,Xa,YZ⟩,⟨YO,YN,YM⟩⟩,XI,XO,Wt,XH,WI,XY,XJ,XE,Xs,XF,Xt,XG,⟨Xw,Xv,Xu⟩,Wp,Wo⟩,[]):=(does2 hk).trans ((found_end (n:=(ZO.nd ⟨⟨⟨Za,Zb⟩,⟨Zc,Zh⟩,⟨Zj,Zi,Zg⟩,⟨Zf,Ze,Zd⟩⟩,Zq,Zu,ZF,Zx,ZN,ZC,ZA,Zw,Zr,Zy,Zp,Zz,⟨Zt,Zs,Zl⟩,ZE,ZG⟩)) (l:=(ZM.lt ⟨Yk,⟨ZV,YB⟩,YY,l_id,⟨Yo,Yn,ZT⟩,YP,⟨ZP,ZY⟩,⟨Ym,Yf,ZR⟩⟩)) (show (ZO.nd ⟨⟨⟨Za,Zb⟩,⟨Zc,Zh⟩,⟨Zj,Zi,Zg⟩,⟨Zf,Ze,Zd⟩⟩,Zq,Zu,ZF,Zx,ZN,ZC,ZA,Zw,Zr,Zy,Zp,Zz,⟨Zt,Zs,Zl⟩,ZE,ZG⟩).findTo=(ZM.lt ⟨Yk,⟨ZV,YB⟩,YY,l_id,⟨Yo,Yn,ZT⟩,YP,⟨ZP,ZY⟩,⟨Ym,Yf,ZR⟩⟩).frm.addr by show Zy=ZV;first|assumption|omega) (show (ZO.nd ⟨⟨⟨Za,Zb⟩,⟨Zc,Zh⟩,⟨Zj,Zi,Zg⟩,⟨Zf,Ze,Zd⟩⟩,Zq,Zu,ZF,Zx,ZN,ZC,ZA,Zw,Zr,Zy,Zp,Zz,⟨Zt,Zs,Zl⟩,ZE,ZG⟩).findReq=(ZM.lt ⟨Yk,⟨ZV,YB⟩,YY,l_id,⟨Yo,Yn,ZT⟩,YP,⟨ZP,ZY⟩,⟨Ym,Yf,ZR⟩⟩).req by show Zp=YY;first|assumption|omega) (show YP=true by first|assumption|(simp_all;done))).trans (congrArg (fun x=>(x,([]:List Snd))) hv1.symm))
     refine ⟨_,M1,[(bw,rowO (ZQ.segs ⟨⟨⟨⟨YK,YU⟩,⟨YL,YV⟩,⟨Xb,Xa,YZ⟩,⟨YO,YN,YM⟩⟩,XI,XO,Wt,XH,WI,XY,XJ,XE,Xs,XF,Xt,XG,⟨Xw,Xv,Xu⟩,Wp,Wo⟩,⟨none,0,[]⟩⟩) 68)],rfl,hm1,hw.c,rfl,⟨⟨⟨YK,YU⟩,⟨YL,YV⟩,⟨Xb,Xa,YZ⟩,⟨YO,YN,YM⟩⟩,XI,XO,Wt,XH,WI,XY,XJ,XE,Xs,XF,Xt,XG,⟨Xw,Xv,Xu⟩,Wp,Wo⟩,⟨none,0,[]⟩,rfl,?_,?_,okv,SlK.nil,fun y hy=>by cases hy⟩
     ·rw [h3] <;> rfl
     ·rw [h3] <;> rfl
    ·skip
     refine Yv (Zn (Y_pk [3,0] ?_))
     iterate 2 refine ZI ?_
     refine Yy (l:=[0,1,2,3,4,5,6,7,8,9,10,11,12,13,14,15,16,17,18,19,20,21,22,23,24,25,26,27,28,29,30,31,32]) #[0,0,2,7,15,31,63,127,255,511,1023,63,2111,6207,16383,32767,65535,131071,262143,524287,131071,1179647,3276799,8388607,16777215,33554431,67108863,134217727,268435455,536870911,1073741823,2147483647,4294967295] _ rfl (by kernel_rfl) (by kernel_rfl) St.drawn (fun _ h=>h) ?_;refine Zv ?_;refine Zk F.foff44_6 ?_;refine ZH F.lay25 ?_;refine X_fo rfl rfl F.ok53 rfl (wother_ok M bw Za Zb Zc Zh Zj Zf Zt Zi Ze Zs Zg Zd Zl Zq Zu ZF Zx ZN ZC ZA Zw Zr Zy Zp Zz ZE ZG ⟨ZP,ZY⟩) (by repeat first|exact Rem.here _|exact Rem.two|apply Rem.skip|apply Rem.over) (YA rfl) ?_
     rintro _ M1 _ ⟨hM1,rfl⟩;subst M1
     refine Xx ?_;refine Zv ?_
     refine Yh 38 rfl (fun hc5=>?_) (fun hc5=>?_)
     ·replace hc5:=nT hc5
      iterate 9 refine ZU ?_
      refine ZK ?_;refine Zv ?_
      iterate 7 refine ZU ?_
      refine ZK ?_;refine Zv ?_
      iterate 6 refine ZU ?_
      refine ZK ?_;refine Zo (Zn (Y_pk [65,3,0] ?_));refine Xe rfl ?_;refine ZI (Zm (l:=[0,1,2,3,4]) rfl ?_);refine Zv ?_;refine ZS ?_;refine Zk F.foff68_0 ?_;refine Zk F.foff32_10 ?_;refine Yi F.lay3 ?_;refine Zo (Zn (Y_pk [3,0] ?_));refine Yg (YG ?_)
      refine Ya (.inr rfl) (.nil) (fun w hw=>?_)
      have h3:XU (ZO.nd ⟨⟨⟨Za,Zb⟩,⟨Zc,Zh⟩,⟨Zj,Zi,Zg⟩,⟨Zf,Ze,Zd⟩⟩,Zq,Zu,ZF,Zx,ZN,ZC,ZA,Zw,Zr,Zy,Zp,Zz,⟨Zt,Zs,Zl⟩,ZE,ZG⟩) (ZM.lt ⟨Yk,⟨ZV,YB⟩,YY,l_id,⟨Yo,Yn,ZT⟩,YP,⟨ZP,ZY⟩,⟨Ym,Yf,ZR⟩⟩)=(ZO.nd ⟨⟨⟨Za,Zb⟩,⟨Zc,Zh⟩,⟨Zj,Zi,Zg⟩,⟨Zf,Ze,Zd⟩⟩,Zq,Zu,ZF,Zx,ZN,ZC,ZA,Zw,Zr,(-1),Zp,Zz,⟨Zt,Zs,Zl⟩,ZE,ZG⟩,[]):=(does2 hk).trans (found_drop (n:=(ZO.nd ⟨⟨⟨Za,Zb⟩,⟨Zc,Zh⟩,⟨Zj,Zi,Zg⟩,⟨Zf,Ze,Zd⟩⟩,Zq,Zu,ZF,Zx,ZN,ZC,ZA,Zw,Zr,Zy,Zp,Zz,⟨Zt,Zs,Zl⟩,ZE,ZG⟩)) (l:=(ZM.lt ⟨Yk,⟨ZV,YB⟩,YY,l_id,⟨Yo,Yn,ZT⟩,YP,⟨ZP,ZY⟩,⟨Ym,Yf,ZR⟩⟩)) (show (ZO.nd ⟨⟨⟨Za,Zb⟩,⟨Zc,Zh⟩,⟨Zj,Zi,Zg⟩,⟨Zf,Ze,Zd⟩⟩,Zq,Zu,ZF,Zx,ZN,ZC,ZA,Zw,Zr,Zy,Zp,Zz,⟨Zt,Zs,Zl⟩,ZE,ZG⟩).findTo=(ZM.lt ⟨Yk,⟨ZV,YB⟩,YY,l_id,⟨Yo,Yn,ZT⟩,YP,⟨ZP,ZY⟩,⟨Ym,Yf,ZR⟩⟩).frm.addr by show Zy=ZV;first|assumption|omega) (show (ZO.nd ⟨⟨⟨Za,Zb⟩,⟨Zc,Zh⟩,⟨Zj,Zi,Zg⟩,⟨Zf,Ze,Zd⟩⟩,Zq,Zu,ZF,Zx,ZN,ZC,ZA,Zw,Zr,Zy,Zp,Zz,⟨Zt,Zs,Zl⟩,ZE,ZG⟩).findReq=(ZM.lt ⟨Yk,⟨ZV,YB⟩,YY,l_id,⟨Yo,Yn,ZT⟩,YP,⟨ZP,ZY⟩,⟨Ym,Yf,ZR⟩⟩).req by show Zp=YY;first|assumption|omega) (show YP=false by first|assumption|(simp_all;done)) (show ¬Xr ⟨Za,Zb⟩ ⟨ZP,ZY⟩∨ZP∈Zl∨ZP=ZV∨32≤ZE by first|exact .inl (by assumption)|exact .inr (.inl (by assumption))|exact .inr (.inr (.inl (by assumption)))|exact .inr (.inr (.inr (by omega)))))
      refine ⟨_,M,[(bw,rowO (ZQ.segs ⟨⟨⟨⟨Za,Zb⟩,⟨Zc,Zh⟩,⟨Zj,Zi,Zg⟩,⟨Zf,Ze,Zd⟩⟩,Zq,Zu,ZF,Zx,ZN,ZC,ZA,Zw,Zr,(-1),Zp,Zz,⟨Zt,Zs,Zl⟩,ZE,ZG⟩,⟨none,0,[]⟩⟩) 68)],rfl,Mem.le.refl M,hw.c,rfl,⟨⟨⟨Za,Zb⟩,⟨Zc,Zh⟩,⟨Zj,Zi,Zg⟩,⟨Zf,Ze,Zd⟩⟩,Zq,Zu,ZF,Zx,ZN,ZC,ZA,Zw,Zr,(-1),Zp,Zz,⟨Zt,Zs,Zl⟩,ZE,ZG⟩,⟨none,0,[]⟩,rfl,?_,?_,⟨Yj,Ys⟩,SlK.nil,fun y hy=>by cases hy⟩
      ·rw [h3] <;> rfl
      ·rw [h3] <;> rfl
     ·replace hc5:=nF hc5
      refine Zv ?_;refine ZS ?_;refine Zk F.foff68_0 ?_;refine Zk F.foff32_13 ?_;refine ZH F.lay30 ?_;refine Zk F.foff44_6 ?_;refine Zk F.foff25_0 ?_;refine ZH F.lay3 ?_;refine X_fo rfl rfl F.ok103 rfl (ContainsI_rd M [] ⟨Zt,Zs,Zl⟩ ZP (Ys.h1.rd []) Ys.h2) (by repeat first|exact Rem.here _|exact Rem.two|apply Rem.skip|apply Rem.over) (YA rfl) ?_
      rintro _ M1 _ ⟨hM1,rfl⟩;subst M1
      refine ZK ?_;refine Zv ?_
      refine Yh 49 rfl (fun hc6=>?_) (fun hc6=>?_)
      ·replace hc6:=dT hc6
       simp only [ZD.eta,ZL.eta,ZO.eta,ZM.eta,Yd.eta,ZQ.eta,YI.eta,ZX.eta] at hc6
       iterate 7 refine ZU ?_
       refine ZK ?_;refine Zv ?_
       iterate 6 refine ZU ?_
       refine ZK ?_;refine Zo (Zn (Y_pk [65,3,0] ?_));refine Xe rfl ?_;refine ZI (Zm (l:=[0,1,2,3,4]) rfl ?_);refine Zv ?_;refine ZS ?_;refine Zk F.foff68_0 ?_;refine Zk F.foff32_10 ?_;refine Yi F.lay3 ?_;refine Zo (Zn (Y_pk [3,0] ?_));refine Yg (YG ?_)
       refine Ya (.inr rfl) (.nil) (fun w hw=>?_)
       have h3:XU (ZO.nd ⟨⟨⟨Za,Zb⟩,⟨Zc,Zh⟩,⟨Zj,Zi,Zg⟩,⟨Zf,Ze,Zd⟩⟩,Zq,Zu,ZF,Zx,ZN,ZC,ZA,Zw,Zr,Zy,Zp,Zz,⟨Zt,Zs,Zl⟩,ZE,ZG⟩) (ZM.lt ⟨Yk,⟨ZV,YB⟩,YY,l_id,⟨Yo,Yn,ZT⟩,YP,⟨ZP,ZY⟩,⟨Ym,Yf,ZR⟩⟩)=(ZO.nd ⟨⟨⟨Za,Zb⟩,⟨Zc,Zh⟩,⟨Zj,Zi,Zg⟩,⟨Zf,Ze,Zd⟩⟩,Zq,Zu,ZF,Zx,ZN,ZC,ZA,Zw,Zr,(-1),Zp,Zz,⟨Zt,Zs,Zl⟩,ZE,ZG⟩,[]):=(does2 hk).trans (found_drop (n:=(ZO.nd ⟨⟨⟨Za,Zb⟩,⟨Zc,Zh⟩,⟨Zj,Zi,Zg⟩,⟨Zf,Ze,Zd⟩⟩,Zq,Zu,ZF,Zx,ZN,ZC,ZA,Zw,Zr,Zy,Zp,Zz,⟨Zt,Zs,Zl⟩,ZE,ZG⟩)) (l:=(ZM.lt ⟨Yk,⟨ZV,YB⟩,YY,l_id,⟨Yo,Yn,ZT⟩,YP,⟨ZP,ZY⟩,⟨Ym,Yf,ZR⟩⟩)) (show (ZO.nd ⟨⟨⟨Za,Zb⟩,⟨Zc,Zh⟩,⟨Zj,Zi,Zg⟩,⟨Zf,Ze,Zd⟩⟩,Zq,Zu,ZF,Zx,ZN,ZC,ZA,Zw,Zr,Zy,Zp,Zz,⟨Zt,Zs,Zl⟩,ZE,ZG⟩).findTo=(ZM.lt ⟨Yk,⟨ZV,YB⟩,YY,l_id,⟨Yo,Yn,ZT⟩,YP,⟨ZP,ZY⟩,⟨Ym,Yf,ZR⟩⟩).frm.addr by show Zy=ZV;first|assumption|omega) (show (ZO.nd ⟨⟨⟨Za,Zb⟩,⟨Zc,Zh⟩,⟨Zj,Zi,Zg⟩,⟨Zf,Ze,Zd⟩⟩,Zq,Zu,ZF,Zx,ZN,ZC,ZA,Zw,Zr,Zy,Zp,Zz,⟨Zt,Zs,Zl⟩,ZE,ZG⟩).findReq=(ZM.lt ⟨Yk,⟨ZV,YB⟩,YY,l_id,⟨Yo,Yn,ZT⟩,YP,⟨ZP,ZY⟩,⟨Ym,Yf,ZR⟩⟩).req by show Zp=YY;first|assumption|omega) (show YP=false by first|assumption|(simp_all;done)) (show ¬Xr ⟨Za,Zb⟩ ⟨ZP,ZY⟩∨ZP∈Zl∨ZP=ZV∨32≤ZE by first|exact .inl (by assumption)|exact .inr (.inl (by assumption))|exact .inr (.inr (.inl (by assumption)))|exact .inr (.inr (.inr (by omega)))))
       refine ⟨_,M,[(bw,rowO (ZQ.segs ⟨⟨⟨⟨Za,Zb⟩,⟨Zc,Zh⟩,⟨Zj,Zi,Zg⟩,⟨Zf,Ze,Zd⟩⟩,Zq,Zu,ZF,Zx,ZN,ZC,ZA,Zw,Zr,(-1),Zp,Zz,⟨Zt,Zs,Zl⟩,ZE,ZG⟩,⟨none,0,[]⟩⟩) 68)],rfl,Mem.le.refl M,hw.c,rfl,⟨⟨⟨Za,Zb⟩,⟨Zc,Zh⟩,⟨Zj,Zi,Zg⟩,⟨Zf,Ze,Zd⟩⟩,Zq,Zu,ZF,Zx,ZN,ZC,ZA,Zw,Zr,(-1),Zp,Zz,⟨Zt,Zs,Zl⟩,ZE,ZG⟩,⟨none,0,[]⟩,rfl,?_,?_,⟨Yj,Ys⟩,SlK.nil,fun y hy=>by cases hy⟩
       ·rw [h3] <;> rfl
       ·rw [h3] <;> rfl
      ·replace hc6:=dF hc6
       simp only [ZD.eta,ZL.eta,ZO.eta,ZM.eta,Yd.eta,ZQ.eta,YI.eta,ZX.eta] at hc6
       refine Zk F.foff44_6 ?_;refine Zk F.foff25_0 ?_;refine ZH F.lay3 ?_;refine Zk F.foff44_1 ?_;refine Zk F.foff25_0 ?_;refine ZH F.lay3 ?_;refine Yz ?_;refine ZK ?_;refine Zv ?_
       refine Yh 58 rfl (fun hc7=>?_) (fun hc7=>?_)
       ·replace hc7:=dT hc7
        iterate 6 refine ZU ?_
        refine ZK ?_;refine Zo (Zn (Y_pk [65,3,0] ?_));refine Xe rfl ?_;refine ZI (Zm (l:=[0,1,2,3,4]) rfl ?_);refine Zv ?_;refine ZS ?_;refine Zk F.foff68_0 ?_;refine Zk F.foff32_10 ?_;refine Yi F.lay3 ?_;refine Zo (Zn (Y_pk [3,0] ?_));refine Yg (YG ?_)
        refine Ya (.inr rfl) (.nil) (fun w hw=>?_)
        have h3:XU (ZO.nd ⟨⟨⟨Za,Zb⟩,⟨Zc,Zh⟩,⟨Zj,Zi,Zg⟩,⟨Zf,Ze,Zd⟩⟩,Zq,Zu,ZF,Zx,ZN,ZC,ZA,Zw,Zr,Zy,Zp,Zz,⟨Zt,Zs,Zl⟩,ZE,ZG⟩) (ZM.lt ⟨Yk,⟨ZV,YB⟩,YY,l_id,⟨Yo,Yn,ZT⟩,YP,⟨ZP,ZY⟩,⟨Ym,Yf,ZR⟩⟩)=(ZO.nd ⟨⟨⟨Za,Zb⟩,⟨Zc,Zh⟩,⟨Zj,Zi,Zg⟩,⟨Zf,Ze,Zd⟩⟩,Zq,Zu,ZF,Zx,ZN,ZC,ZA,Zw,Zr,(-1),Zp,Zz,⟨Zt,Zs,Zl⟩,ZE,ZG⟩,[]):=(does2 hk).trans (found_drop (n:=(ZO.nd ⟨⟨⟨Za,Zb⟩,⟨Zc,Zh⟩,⟨Zj,Zi,Zg⟩,⟨Zf,Ze,Zd⟩⟩,Zq,Zu,ZF,Zx,ZN,ZC,ZA,Zw,Zr,Zy,Zp,Zz,⟨Zt,Zs,Zl⟩,ZE,ZG⟩)) (l:=(ZM.lt ⟨Yk,⟨ZV,YB⟩,YY,l_id,⟨Yo,Yn,ZT⟩,YP,⟨ZP,ZY⟩,⟨Ym,Yf,ZR⟩⟩)) (show (ZO.nd ⟨⟨⟨Za,Zb⟩,⟨Zc,Zh⟩,⟨Zj,Zi,Zg⟩,⟨Zf,Ze,Zd⟩⟩,Zq,Zu,ZF,Zx,ZN,ZC,ZA,Zw,Zr,Zy,Zp,Zz,⟨Zt,Zs,Zl⟩,ZE,ZG⟩).findTo=(ZM.lt ⟨Yk,⟨ZV,YB⟩,YY,l_id,⟨Yo,Yn,ZT⟩,YP,⟨ZP,ZY⟩,⟨Ym,Yf,ZR⟩⟩).frm.addr by show Zy=ZV;first|assumption|omega) (show (ZO.nd ⟨⟨⟨Za,Zb⟩,⟨Zc,Zh⟩,⟨Zj,Zi,Zg⟩,⟨Zf,Ze,Zd⟩⟩,Zq,Zu,ZF,Zx,ZN,ZC,ZA,Zw,Zr,Zy,Zp,Zz,⟨Zt,Zs,Zl⟩,ZE,ZG⟩).findReq=(ZM.lt ⟨Yk,⟨ZV,YB⟩,YY,l_id,⟨Yo,Yn,ZT⟩,YP,⟨ZP,ZY⟩,⟨Ym,Yf,ZR⟩⟩).req by show Zp=YY;first|assumption|omega) (show YP=false by first|assumption|(simp_all;done)) (show ¬Xr ⟨Za,Zb⟩ ⟨ZP,ZY⟩∨ZP∈Zl∨ZP=ZV∨32≤ZE by first|exact .inl (by assumption)|exact .inr (.inl (by assumption))|exact .inr (.inr (.inl (by assumption)))|exact .inr (.inr (.inr (by omega)))))
        refine ⟨_,M,[(bw,rowO (ZQ.segs ⟨⟨⟨⟨Za,Zb⟩,⟨Zc,Zh⟩,⟨Zj,Zi,Zg⟩,⟨Zf,Ze,Zd⟩⟩,Zq,Zu,ZF,Zx,ZN,ZC,ZA,Zw,Zr,(-1),Zp,Zz,⟨Zt,Zs,Zl⟩,ZE,ZG⟩,⟨none,0,[]⟩⟩) 68)],rfl,Mem.le.refl M,hw.c,rfl,⟨⟨⟨Za,Zb⟩,⟨Zc,Zh⟩,⟨Zj,Zi,Zg⟩,⟨Zf,Ze,Zd⟩⟩,Zq,Zu,ZF,Zx,ZN,ZC,ZA,Zw,Zr,(-1),Zp,Zz,⟨Zt,Zs,Zl⟩,ZE,ZG⟩,⟨none,0,[]⟩,rfl,?_,?_,⟨Yj,Ys⟩,SlK.nil,fun y hy=>by cases hy⟩
        ·rw [h3] <;> rfl
        ·rw [h3] <;> rfl
       ·replace hc7:=dF hc7
        refine Zv ?_;refine ZS ?_;refine Zk F.foff68_0 ?_;refine Zk F.foff32_14 ?_;refine ZH F.lay3 ?_;refine Yz ?_;refine ZK ?_;refine Zo (Zn (Y_pk [65,3,0] ?_))
        refine Yx rfl (fun hc8=>?_) (fun hc8=>?_)
        ·replace hc8:=dT hc8
         refine ZI (Zm (l:=[0,1,2,3,4]) rfl ?_);refine Zv ?_;refine ZS ?_;refine Zk F.foff68_0 ?_;refine Zk F.foff32_10 ?_;refine Yi F.lay3 ?_;refine Zo (Zn (Y_pk [3,0] ?_));refine Yg (YG ?_)
         refine Ya (.inr rfl) (.nil) (fun w hw=>?_)
         have h3:XU (ZO.nd ⟨⟨⟨Za,Zb⟩,⟨Zc,Zh⟩,⟨Zj,Zi,Zg⟩,⟨Zf,Ze,Zd⟩⟩,Zq,Zu,ZF,Zx,ZN,ZC,ZA,Zw,Zr,Zy,Zp,Zz,⟨Zt,Zs,Zl⟩,ZE,ZG⟩) (ZM.lt ⟨Yk,⟨ZV,YB⟩,YY,l_id,⟨Yo,Yn,ZT⟩,YP,⟨ZP,ZY⟩,⟨Ym,Yf,ZR⟩⟩)=(ZO.nd ⟨⟨⟨Za,Zb⟩,⟨Zc,Zh⟩,⟨Zj,Zi,Zg⟩,⟨Zf,Ze,Zd⟩⟩,Zq,Zu,ZF,Zx,ZN,ZC,ZA,Zw,Zr,(-1),Zp,Zz,⟨Zt,Zs,Zl⟩,ZE,ZG⟩,[]):=(does2 hk).trans (found_drop (n:=(ZO.nd ⟨⟨⟨Za,Zb⟩,⟨Zc,Zh⟩,⟨Zj,Zi,Zg⟩,⟨Zf,Ze,Zd⟩⟩,Zq,Zu,ZF,Zx,ZN,ZC,ZA,Zw,Zr,Zy,Zp,Zz,⟨Zt,Zs,Zl⟩,ZE,ZG⟩)) (l:=(ZM.lt ⟨Yk,⟨ZV,YB⟩,YY,l_id,⟨Yo,Yn,ZT⟩,YP,⟨ZP,ZY⟩,⟨Ym,Yf,ZR⟩⟩)) (show (ZO.nd ⟨⟨⟨Za,Zb⟩,⟨Zc,Zh⟩,⟨Zj,Zi,Zg⟩,⟨Zf,Ze,Zd⟩⟩,Zq,Zu,ZF,Zx,ZN,ZC,ZA,Zw,Zr,Zy,Zp,Zz,⟨Zt,Zs,Zl⟩,ZE,ZG⟩).findTo=(ZM.lt ⟨Yk,⟨ZV,YB⟩,YY,l_id,⟨Yo,Yn,ZT⟩,YP,⟨ZP,ZY⟩,⟨Ym,Yf,ZR⟩⟩).frm.addr by show Zy=ZV;first|assumption|omega) (show (ZO.nd ⟨⟨⟨Za,Zb⟩,⟨Zc,Zh⟩,⟨Zj,Zi,Zg⟩,⟨Zf,Ze,Zd⟩⟩,Zq,Zu,ZF,Zx,ZN,ZC,ZA,Zw,Zr,Zy,Zp,Zz,⟨Zt,Zs,Zl⟩,ZE,ZG⟩).findReq=(ZM.lt ⟨Yk,⟨ZV,YB⟩,YY,l_id,⟨Yo,Yn,ZT⟩,YP,⟨ZP,ZY⟩,⟨Ym,Yf,ZR⟩⟩).req by show Zp=YY;first|assumption|omega) (show YP=false by first|assumption|(simp_all;done)) (show ¬Xr ⟨Za,Zb⟩ ⟨ZP,ZY⟩∨ZP∈Zl∨ZP=ZV∨32≤ZE by first|exact .inl (by assumption)|exact .inr (.inl (by assumption))|exact .inr (.inr (.inl (by assumption)))|exact .inr (.inr (.inr (by omega)))))
         refine ⟨_,M,[(bw,rowO (ZQ.segs ⟨⟨⟨⟨Za,Zb⟩,⟨Zc,Zh⟩,⟨Zj,Zi,Zg⟩,⟨Zf,Ze,Zd⟩⟩,Zq,Zu,ZF,Zx,ZN,ZC,ZA,Zw,Zr,(-1),Zp,Zz,⟨Zt,Zs,Zl⟩,ZE,ZG⟩,⟨none,0,[]⟩⟩) 68)],rfl,Mem.le.refl M,hw.c,rfl,⟨⟨⟨Za,Zb⟩,⟨Zc,Zh⟩,⟨Zj,Zi,Zg⟩,⟨Zf,Ze,Zd⟩⟩,Zq,Zu,ZF,Zx,ZN,ZC,ZA,Zw,Zr,(-1),Zp,Zz,⟨Zt,Zs,Zl⟩,ZE,ZG⟩,⟨none,0,[]⟩,rfl,?_,?_,⟨Yj,Ys⟩,SlK.nil,fun y hy=>by cases hy⟩
         ·rw [h3] <;> rfl
         ·rw [h3] <;> rfl
        ·replace hc8:=dF hc8
         refine Yv (Zn (Y_pk [3,0] ?_));refine ZI (Zm (l:=[0,1,2,3,4,5,6,7,8,9]) rfl ?_);refine Zv ?_;refine ZS ?_;refine Zk F.foff68_0 ?_;refine Zk F.foff32_14 ?_;refine ZH F.lay3 ?_;refine XN rfl rfl rfl rfl rfl (by exact Xn (by decide) (by omega)) rfl ?_;refine ZS ?_;refine Zk F.foff68_0 ?_;refine Zk F.foff32_14 ?_;refine Yi F.lay3 ?_;refine Zo (Zn (Y_pk [3,0] ?_));refine Xq (l:=[0,1,2,3,4]) [4] rfl ?_;refine Zv ?_;refine Zk F.foff44_6 ?_;refine Zk F.foff25_0 ?_;refine ZH F.lay3 ?_;refine Ww rfl rfl rfl F.ok89 rfl (seek_ok M bw Za Zb Zc Zh Zj Zf Zt Zi Ze Zs Zg Zd Zl Zq Zu ZF Zx ZN ZC ZA Zw Zr Zy Zp Zz (ZE+1) ZG Yj Ys hLa ZP) (by repeat first|exact Rem.here _|exact Rem.two|apply Rem.skip|apply Rem.over) (YA rfl) ?_
         rintro _ M2 hs2 hm2 ⟨rfl,⟨⟨⟨YK,YU⟩,⟨YL,YV⟩,⟨Xb,Xa,YZ⟩,⟨YO,YN,YM⟩⟩,XI,XO,Wt,XH,WI,XY,XJ,XE,Xs,XF,Xt,XG,⟨Xw,Xv,Xu⟩,Wp,Wo⟩,⟨o_a,o_c,o_l⟩,rfl,hv1,hv2,okv,oko,okq⟩
         simp only [List.append_assoc,List.cons_append,List.nil_append]
         refine Zo (Wk ?_)
         refine Ya (.inl rfl) (.nil) (fun w hw=>?_)
         have h3:=(does2 (n:=(ZO.nd ⟨⟨⟨Za,Zb⟩,⟨Zc,Zh⟩,⟨Zj,Zi,Zg⟩,⟨Zf,Ze,Zd⟩⟩,Zq,Zu,ZF,Zx,ZN,ZC,ZA,Zw,Zr,Zy,Zp,Zz,⟨Zt,Zs,Zl⟩,ZE,ZG⟩)) (l:=(ZM.lt ⟨Yk,⟨ZV,YB⟩,YY,l_id,⟨Yo,Yn,ZT⟩,YP,⟨ZP,ZY⟩,⟨Ym,Yf,ZR⟩⟩)) hk).trans (found_seek (n:=(ZO.nd ⟨⟨⟨Za,Zb⟩,⟨Zc,Zh⟩,⟨Zj,Zi,Zg⟩,⟨Zf,Ze,Zd⟩⟩,Zq,Zu,ZF,Zx,ZN,ZC,ZA,Zw,Zr,Zy,Zp,Zz,⟨Zt,Zs,Zl⟩,ZE,ZG⟩)) (l:=(ZM.lt ⟨Yk,⟨ZV,YB⟩,YY,l_id,⟨Yo,Yn,ZT⟩,YP,⟨ZP,ZY⟩,⟨Ym,Yf,ZR⟩⟩)) (show (ZO.nd ⟨⟨⟨Za,Zb⟩,⟨Zc,Zh⟩,⟨Zj,Zi,Zg⟩,⟨Zf,Ze,Zd⟩⟩,Zq,Zu,ZF,Zx,ZN,ZC,ZA,Zw,Zr,Zy,Zp,Zz,⟨Zt,Zs,Zl⟩,ZE,ZG⟩).findTo=(ZM.lt ⟨Yk,⟨ZV,YB⟩,YY,l_id,⟨Yo,Yn,ZT⟩,YP,⟨ZP,ZY⟩,⟨Ym,Yf,ZR⟩⟩).frm.addr by show Zy=ZV;first|assumption|omega) (show (ZO.nd ⟨⟨⟨Za,Zb⟩,⟨Zc,Zh⟩,⟨Zj,Zi,Zg⟩,⟨Zf,Ze,Zd⟩⟩,Zq,Zu,ZF,Zx,ZN,ZC,ZA,Zw,Zr,Zy,Zp,Zz,⟨Zt,Zs,Zl⟩,ZE,ZG⟩).findReq=(ZM.lt ⟨Yk,⟨ZV,YB⟩,YY,l_id,⟨Yo,Yn,ZT⟩,YP,⟨ZP,ZY⟩,⟨Ym,Yf,ZR⟩⟩).req by show Zp=YY;first|assumption|omega) (show YP=false by first|assumption|(simp_all;done)) (show Xr ⟨Za,Zb⟩ ⟨ZP,ZY⟩ by assumption) (show ZP∉Zl by assumption) (show ZP≠ZV by assumption) (show ¬32≤ZE by omega))
         exact ⟨_,M2,[(bw,rowO (ZQ.segs ⟨⟨⟨⟨YK,YU⟩,⟨YL,YV⟩,⟨Xb,Xa,YZ⟩,⟨YO,YN,YM⟩⟩,XI,XO,Wt,XH,WI,XY,XJ,XE,Xs,XF,Xt,XG,⟨Xw,Xv,Xu⟩,Wp,Wo⟩,⟨o_a,o_c,o_l⟩⟩) 68)],rfl,hm2,hw.c,rfl,⟨⟨⟨YK,YU⟩,⟨YL,YV⟩,⟨Xb,Xa,YZ⟩,⟨YO,YN,YM⟩⟩,XI,XO,Wt,XH,WI,XY,XJ,XE,Xs,XF,Xt,XG,⟨Xw,Xv,Xu⟩,Wp,Wo⟩,⟨o_a,o_c,o_l⟩,rfl,by rw [h3];exact hv1,by rw [h3];exact hv2,okv,oko,okq⟩
end Go.Proofs.YtajmnjefajknoaaGreat
namespace Go.Esp
variable {α:Type}
def insL (l:List α) (i:Nat) (x:α):List α:=l.take i++x::l.drop i
theorem insL_map {β:Type} (f:α→β) (l:List α) (i:Nat) (x:α):(insL l i x).map f=insL (l.map f) i (f x):=by unfold insL;simp
theorem insL_end (l:List α) (x:α):insL l l.length x=l++[x]:=by unfold insL;simp
theorem take_pre {a b:List α} {i:Nat} (h:a.length=i):(a++b).take i=a:=by subst h;exact List.take_left
theorem drop_pre {a b:List α} {i:Nat} (h:a.length=i):(a++b).drop i=b:=by subst h;exact List.drop_left
theorem ins_grow {rows zs:List α} {i:Nat} {x:α} (hi:i<rows.length) (hz:zs.length=rows.length+1-i) :
    (((rows.take i++zs).take i++[x]++(rows.take i++zs).drop (i+1)).take (i+1)++rows.drop i++((rows.take i++zs).take i++[x]++(rows.take i++zs).drop (i+1)).drop (i+1+(rows.drop i).length))=insL rows i x:=by
  have h1:(rows.take i).length=i:=by simp;omega
  rw [take_pre h1]
  have h2:(rows.take i++[x]).length=i+1:=by simp;omega
  rw [take_pre h2]
  have h3:(rows.take i++zs).length=rows.length+1:=by simp [hz];omega
  rw [List.drop_of_length_le (i:=i+1+(rows.drop i).length) (by simp only [List.length_append,List.length_drop,h3,h2,List.length_cons,List.length_nil,h1];omega)]
  unfold insL;simp
theorem ins_room {rows ext:List α} {i:Nat} {x:α} (hi:i<rows.length) (he:ext.length=1) :
    (((rows++ext).take (i+1)++rows.drop i++(rows++ext).drop (i+1+(rows.drop i).length)).take i++[x]++((rows++ext).take (i+1)++rows.drop i++(rows++ext).drop (i+1+(rows.drop i).length)).drop (i+1))=insL rows i x:=by
  have h1:((rows++ext).take (i+1)).length=i+1:=by simp;omega
  rw [List.drop_of_length_le (i:=i+1+(rows.drop i).length) (by simp [he];omega),List.append_nil,drop_pre h1]
  rw [List.take_append_of_le_length (by omega),List.take_take,Nat.min_eq_left (by omega),List.take_append_of_le_length (by omega)]
  unfold insL;simp
end Go.Esp
namespace Go.Proofs.YtajmnjefajknoaaGreat
open Go.Esp
theorem F.ext137:Ext Tryz.prog 137 (Extern.SlicesOverlaps.overlaps #[26,26] #[4]):=fun args w=>by kernel_rfl
theorem InsertP_nil (M:Mem) (x:ZD) (bv:Nat) (hv:Hp) (hob:OSl 25 21 (.slice (some ⟨bv,0,none⟩) 1 1) hv [ZD.segs x]):Fh Tryz.prog 105 [.slice none 0 0,.int .i64 ((0:Nat):Int),.slice (some ⟨bv,0,none⟩) 1 1] M hv (fun M' v Hout=>M'=M∧OSl 25 21 v Hout ([]++[ZD.segs x])):=by
  refine fh_enter Tryz.func105 rfl Tryz.ntmps105 rfl ?_;intro H
  refine ZI (Zm (l:=[0]) rfl ?_);refine ZB ?_;refine Zo (Zn (ZI (Zm (l:=[0,1,2]) rfl ?_)))
  iterate 2 refine Zv ?_
  refine WG rfl rfl rfl (.some (k:=0) rfl rfl) .none .none F.elem26 (by simp) (by simp) (by simp) (by simp) rfl rfl ?_;refine Zo (Zn (Y_pk [6,0,1,2] ?_));refine ZI (Zm (l:=[0,1,2]) rfl ?_);refine Zv ?_;refine YX F.elem26 ?_;refine ZB ?_;refine Zo (Zn (Y_pk [7,6,0,1,2] ?_))
  iterate 2 refine ZI ?_
  refine Zm (l:=[0,1]) rfl ?_;refine Zv ?_;refine Yz ?_;refine Zo (Zn (Y_pk [16,7,6,0,1,2] ?_))
  refine Yx rfl (fun hc1=>?_) (fun hc1=>?_)
  ·replace hc1:=dT hc1
   (exfalso;omega)
  ·replace hc1:=dF hc1
   refine Yv (Zn (Y_pk [7,6,0,1,2] ?_));refine ZI (Zm (l:=[0,1,2]) rfl ?_);refine Zv ?_;refine YX F.elem26 ?_;refine ZB ?_;refine Zo (Zn (Y_pk [8,7,6,0,1,2] ?_))
   iterate 2 refine ZI ?_
   refine Zm (l:=[0,1,2]) rfl ?_
   iterate 2 refine Zv ?_
   refine Yz ?_;refine Zo (Zn (Y_pk [22,8,7,6,0,1,2] ?_))
   refine Yx rfl (fun hc2=>?_) (fun hc2=>?_)
   ·replace hc2:=dT hc2
    simp only [ZD.eta,ZL.eta,ZO.eta,ZM.eta,Yd.eta,ZQ.eta,YI.eta,ZX.eta] at hc2
    refine ZI (Zm (l:=[0,1,2,3]) rfl ?_)
    iterate 2 refine Zv ?_
    refine Vm (m:=1000000) rfl rfl rfl rfl rfl F.elem26 F.zero25 (by exact Ve rfl) rfl (by exact OSl.nil) (by repeat first|exact Rem.here _|exact Rem.two|apply Rem.skip|apply Rem.over) (OSl.srcAll hob (by repeat first|exact Rem.here _|exact Rem.two|apply Rem.skip|apply Rem.over) (by intro u hu;exact rows_one ZD.flat [x] u (by simpa using hu))) (by (simp;done)) (by decide) rfl ?_;intro v5 hs4 ho3;obtain ⟨adv5,cpv5,rfl⟩:=ho3.val
    refine ZB ?_;refine Zo (Zn (Y_pk [6,8,7,0,1,2] ?_));refine Yg (YG ?_)
    refine Ya (.inr rfl) (.tmp rfl .nil) (fun w hw=>?_)
    exact ⟨_,M,hs4,rfl,Mem.le.refl M,hw.c,rfl,ho3⟩
   ·replace hc2:=dF hc2
    simp only [ZD.eta,ZL.eta,ZO.eta,ZM.eta,Yd.eta,ZQ.eta,YI.eta,ZX.eta] at hc2
    (exfalso;simp [eqX] at hc2;done)
theorem InsertP_some (M:Mem) (b:Nat) (c:Nat) (l:List ZD) (hs:Hp) (i:Nat) (hi:i≤l.length) (x:ZD) (bv:Nat) (hv:Hp) (hob:OSl 25 21 (.slice (some ⟨bv,0,none⟩) 1 1) hv [ZD.segs x]) (hb:l.length≤1000000) (ho:OSl 25 21 (.slice (some ⟨b,0,none⟩) l.length c) hs (l.map ZD.segs)):Fh Tryz.prog 105 [.slice (some ⟨b,0,none⟩) l.length c,.int .i64 (i:Int),.slice (some ⟨bv,0,none⟩) 1 1] M (hs++hv) (fun M' v Hout=>M'=M∧OSl 25 21 v Hout ((insL l i x).map ZD.segs)):=by
  have hcc:=ho.caps
  simp only [List.length_map] at hcc
  have hob9:=hob
  have hom:OSl 25 21 (.slice (some ⟨b,0,none⟩) (l.map ZD.segs).length c) hs (l.map ZD.segs):=by rw [List.length_map];exact ho
  obtain ⟨cv,rfl,_⟩:=hob9.inv
  refine fh_enter Tryz.func105 rfl Tryz.ntmps105 rfl ?_;intro H
  rw [List.append_assoc]
  refine ZI (Zm (l:=[0]) rfl ?_);refine ZB ?_;refine Zo (Zn (ZI (Zm (l:=[0,1,2]) rfl ?_)))
  iterate 2 refine Zv ?_
  refine WG rfl rfl rfl (.some (k:=i) rfl rfl) .none .none F.elem26 (by simp) (by simp only [Option.getD_some,Option.getD_none];omega) (by simp only [Option.getD_some,Option.getD_none];omega) (by simp) rfl rfl ?_;refine Zo (Zn (Y_pk [6,0,1,2] ?_));refine ZI (Zm (l:=[0,1,2]) rfl ?_);refine Zv ?_;refine YX F.elem26 ?_;refine ZB ?_;refine Zo (Zn (Y_pk [7,6,0,1,2] ?_))
  iterate 2 refine ZI ?_
  refine Zm (l:=[0,1]) rfl ?_;refine Zv ?_;refine Yz ?_;refine Zo (Zn (Y_pk [16,7,6,0,1,2] ?_))
  refine Yx rfl (fun hc1=>?_) (fun hc1=>?_)
  ·replace hc1:=dT hc1
   (exfalso;omega)
  ·replace hc1:=dF hc1
   refine Yv (Zn (Y_pk [7,6,0,1,2] ?_));refine ZI (Zm (l:=[0,1,2]) rfl ?_);refine Zv ?_;refine YX F.elem26 ?_;refine ZB ?_;refine Zo (Zn (Y_pk [8,7,6,0,1,2] ?_))
   iterate 2 refine ZI ?_
   refine Zm (l:=[0,1,2]) rfl ?_
   iterate 2 refine Zv ?_
   refine Yz ?_;refine Zo (Zn (Y_pk [22,8,7,6,0,1,2] ?_))
   refine Yx rfl (fun hc2=>?_) (fun hc2=>?_)
   ·replace hc2:=dT hc2
    refine ZI (Zm (l:=[0,1,2,3]) rfl ?_)
    iterate 2 refine Zv ?_
    refine Vm (m:=1000001) rfl rfl rfl rfl rfl F.elem26 F.zero25 (by exact Ve rfl) rfl (by assumption) (by repeat first|exact Rem.here _|exact Rem.two|apply Rem.skip|apply Rem.over) (OSl.srcAll hob (by repeat first|exact Rem.here _|exact Rem.two|apply Rem.skip|apply Rem.over) (by intro u hu;exact rows_one ZD.flat [x] u (by simpa using hu))) (by (simp;omega)) (by decide) rfl ?_;intro v5 hs4 ho3;obtain ⟨adv5,cpv5,rfl⟩:=ho3.val
    refine ZB ?_;refine Zo (Zn (Y_pk [6,8,7,0,1,2] ?_));refine Yg (YG ?_)
    refine Ya (.inr rfl) (.tmp rfl .nil) (fun w hw=>?_)
    obtain rfl:i=l.length:=by omega
    exact ⟨_,M,hs4,rfl,Mem.le.refl M,hw.c,rfl,by rw [insL_end,List.map_append];exact ho3⟩
   ·replace hc2:=dF hc2
    refine Yv (Zn (Y_pk [8,7,6,0,1,2] ?_))
    iterate 2 refine ZI ?_
    refine Zm (l:=[0,1,2,3,4,5]) rfl ?_
    iterate 2 refine Zv ?_
    refine XN rfl rfl rfl rfl rfl (by exact Xn (by decide) (by omega)) rfl ?_;refine Zv ?_;refine X_cap_sl rfl rfl rfl rfl F.elem26 rfl ?_;refine Yz ?_;refine Zo (Zn (Y_pk [31,8,7,6,0,1,2] ?_))
    refine Yx rfl (fun hc6=>?_) (fun hc6=>?_)
    ·replace hc6:=dT hc6
     refine ZI (Zm (l:=[0,1,2,3,4,5,6,7,8,9]) rfl ?_)
     iterate 2 refine Zv ?_
     refine WG rfl rfl rfl .none (.some (k:=i) rfl (by rfl)) .none F.elem26 (by simp) (by simp only [Option.getD_some,Option.getD_none];omega) (by simp only [Option.getD_some,Option.getD_none];omega) (by simp) (show WP (some ⟨_,0,none⟩) 21 0 (i) c=.slice (some ⟨_,0,none⟩) (i) c from pieceV_zero) rfl ?_
     iterate 2 refine Zv ?_
     refine XN rfl rfl rfl rfl rfl (by exact Xn (by decide) (by omega)) rfl ?_;refine Zv ?_;refine XN rfl rfl rfl rfl rfl (by exact Xn (by decide) (by omega)) rfl ?_
     rw [show (l.length:Int)+((1:Nat):Int)-(i:Int)=((l.length+1-i:Nat):Int) by omega]
     refine X_appendZO (j:=i) (k:=l.length+1-i) rfl rfl rfl rfl F.elem26 Tryz.underlying3 F.zero25 (by exact Ve rfl) rfl ho (by repeat first|exact Rem.here _|exact Rem.two|apply Rem.skip|apply Rem.over) (by rw [List.length_map];omega) (by omega) (by omega) (by omega) (Nat.le_trans (Nat.mul_le_mul_right _ (show i+(l.length+1-i)≤1000001 by omega)) (by decide)) rfl ?_;intro b9 c9 hs9 zs9 hz9 ho9
     rw [show i+(l.length+1-i)=l.length+1 by omega] at ho9 ⊢
     have hn9:((l.map ZD.segs).take i++zs9).length=l.length+1:=by simp [hz9];omega
     have hc9:=ho9.caps
     refine ZB ?_;refine Zo (Zn (Y_pk [9,8,7,6,0,1,2] ?_));refine ZI (Zm (l:=[0,1,2,3,4]) rfl ?_)
     iterate 2 refine Zv ?_
     refine WG rfl rfl rfl (.some (k:=i) rfl (by rfl)) .none .none F.elem26 (by simp) (by simp only [Option.getD_some,Option.getD_none];omega) (by simp only [Option.getD_some,Option.getD_none];omega) (by simp) (show WP (some ⟨_,0,none⟩) 21 (i) (l.length+1) (c9)=.slice (some ⟨_,0+(i) * 21,none⟩) (l.length+1-(i)) (c9-(i)) from pieceV_in (by omega)) rfl ?_;refine Zv ?_
     rw [Nat.zero_add]
     refine X_copyP (k:=i) (news:=[ZD.segs x]) rfl rfl rfl rfl rfl F.elem26 rfl (by rw [hn9];omega) ho9 (by repeat first|exact Rem.here _|exact Rem.two|apply Rem.skip|apply Rem.over) (OSl.srcAll hob (by repeat first|exact Rem.here _|exact Rem.two|apply Rem.skip|apply Rem.over) (by intro u hu;exact rows_one ZD.flat [x] u (by simpa using hu))) (by show 1=min 1 (l.length+1-i);omega) rfl ?_;intro hs10 ho10
     rw [hn9] at ho10
     refine Zo (Zn (Y_pk [9,8,7,6,0,1,2] ?_));refine ZI (Yy (l:=[0,1,2,3,4,5,6,7,8]) #[0,0,0,6,15,0,0,96,255] _ rfl (by kernel_rfl) (by kernel_rfl) St.drawn (fun _ h=>h) ?_)
     iterate 3 refine Zv ?_
     refine XN rfl rfl rfl rfl rfl (by exact Xn (by decide) (by omega)) rfl ?_;refine WG rfl rfl rfl (.some (k:=i+1) rfl (by rfl)) .none .none F.elem26 (by simp) (by simp only [Option.getD_some,Option.getD_none];omega) (by simp only [Option.getD_some,Option.getD_none];omega) (by simp) (show WP (some ⟨_,0,none⟩) 21 (i+1) (l.length+1) (c9)=.slice (some ⟨_,0+(i+1) * 21,none⟩) (l.length+1-(i+1)) (c9-(i+1)) from pieceV_in (by omega)) rfl ?_
     iterate 2 refine Zv ?_
     refine WG rfl rfl rfl (.some (k:=i) rfl (by rfl)) .none .none F.elem26 (by simp) (by simp only [Option.getD_some,Option.getD_none];omega) (by simp only [Option.getD_some,Option.getD_none];omega) (by simp) (show WP (some ⟨_,0,none⟩) 21 (i) (l.length) (c)=.slice (some ⟨_,0+(i) * 21,none⟩) (l.length-(i)) (c-(i)) from pieceV_in (by omega)) rfl ?_
     rw [Nat.zero_add,Nat.zero_add]
     have hn10:(((l.map ZD.segs).take i++zs9).take i++[ZD.segs x]++((l.map ZD.segs).take i++zs9).drop (i+[ZD.segs x].length)).length=l.length+1:=by simp only [List.length_append,List.length_take,List.length_drop,hn9,List.length_cons,List.length_nil];omega
     refine X_copyP (k:=i+1) (news:=(l.map ZD.segs).drop i) rfl rfl rfl rfl rfl F.elem26 rfl (by rw [hn10];omega) ho10 (by repeat first|exact Rem.here _|exact Rem.two|apply Rem.skip|apply Rem.over) (by rw [List.length_drop];exact hom.src (by repeat first|exact Rem.here _|exact Rem.two|apply Rem.skip|apply Rem.over) (by intro u hu;exact rows_one ZD.flat l u hu)) (by simp only [List.length_drop,List.length_map];omega) rfl ?_;intro hs11 ho11
     rw [hn10] at ho11
     rw [show i+[ZD.segs x].length=i+1 from rfl,ins_grow (by rw [List.length_map];omega) (by rw [List.length_map];exact hz9)] at ho11
     refine Zo (Zn (Y_pk [9,8,7,6,0,1,2] ?_));refine ZI (Zm (l:=[0,1]) rfl ?_);refine Zv ?_;refine ZB ?_;refine Zo (Zn (Y_pk [6,8,7,0,1,2] ?_));refine Yg (YG ?_)
     refine Ya (.inr rfl) (.tmp rfl .nil) (fun w hw=>?_)
     exact ⟨_,M,hs11,rfl,Mem.le.refl M,hw.c,rfl,by rw [insL_map];exact ho11⟩
    ·replace hc6:=dF hc6
     refine Yv (Zn (Y_pk [8,7,6,0,1,2] ?_));refine ZI (Zm (l:=[0,1,2,3,4,5]) rfl ?_)
     iterate 3 refine Zv ?_
     refine XN rfl rfl rfl rfl rfl (by exact Xn (by decide) (by omega)) rfl ?_;refine WG rfl rfl rfl .none (.some (k:=l.length+1) rfl (by rfl)) .none F.elem26 (by simp) (by simp only [Option.getD_some,Option.getD_none];omega) (by simp only [Option.getD_some,Option.getD_none];omega) (by simp) (show WP (some ⟨_,0,none⟩) 21 0 (l.length+1) c=.slice (some ⟨_,0,none⟩) (l.length+1) c from pieceV_zero) rfl ?_;refine ZB ?_;refine Zo (Zn (Y_pk [0,8,7,6,1,2] ?_))
     iterate 2 refine ZI ?_
     refine Zm (l:=[0,1,2,3,4,5,6,7]) rfl ?_
     obtain ⟨ext,hext,ho13⟩:=OSl.extend (m:=1) (show OSl 25 21 (.slice (some ⟨b,0,none⟩) (l.map ZD.segs).length c) hs (l.map ZD.segs) by rw [List.length_map];exact ho) (by rw [List.length_map];omega)
     rw [List.length_map] at ho13
     iterate 4 refine Zv ?_
     refine XN rfl rfl rfl rfl rfl (by exact Xn (by decide) (by omega)) rfl ?_;refine WG rfl rfl rfl (.some (k:=i+1) rfl (by rfl)) .none .none F.elem26 (by simp) (by simp only [Option.getD_some,Option.getD_none];omega) (by simp only [Option.getD_some,Option.getD_none];omega) (by simp) (show WP (some ⟨_,0,none⟩) 21 (i+1) (l.length+1) (c)=.slice (some ⟨_,0+(i+1) * 21,none⟩) (l.length+1-(i+1)) (c-(i+1)) from pieceV_in (by omega)) rfl ?_;refine X_ext rfl rfl F.ext137 rfl (fun w hw=>run_apart (tR:=4) F.elem26 ho (by repeat first|exact Rem.here _|exact Rem.two|apply Rem.skip|apply Rem.over) (.head _) (Nat.mul_pos (by omega) (by decide)) hw) rfl ?_;refine Xx ?_;refine Zo (Zn (Y_pk [68,0,8,7,6,1,2] ?_))
     refine Yx rfl (fun hc7=>?_) (fun hc7=>?_)
     ·skip
      refine ZI (Yy (l:=[0,1,2,3,4,5,6,7,8]) #[0,0,0,6,15,0,0,96,255] _ rfl (by kernel_rfl) (by kernel_rfl) St.drawn (fun _ h=>h) ?_)
      iterate 3 refine Zv ?_
      refine XN rfl rfl rfl rfl rfl (by exact Xn (by decide) (by omega)) rfl ?_;refine WG rfl rfl rfl (.some (k:=i+1) rfl (by rfl)) .none .none F.elem26 (by simp) (by simp only [Option.getD_some,Option.getD_none];omega) (by simp only [Option.getD_some,Option.getD_none];omega) (by simp) (show WP (some ⟨_,0,none⟩) 21 (i+1) (l.length+1) (c)=.slice (some ⟨_,0+(i+1) * 21,none⟩) (l.length+1-(i+1)) (c-(i+1)) from pieceV_in (by omega)) rfl ?_
      iterate 2 refine Zv ?_
      refine WG rfl rfl rfl (.some (k:=i) rfl (by rfl)) .none .none F.elem26 (by simp) (by simp only [Option.getD_some,Option.getD_none];omega) (by simp only [Option.getD_some,Option.getD_none];omega) (by simp) (show WP (some ⟨_,0,none⟩) 21 (i) (l.length+1) (c)=.slice (some ⟨_,0+(i) * 21,none⟩) (l.length+1-(i)) (c-(i)) from pieceV_in (by omega)) rfl ?_
      rw [Nat.zero_add,Nat.zero_add]
      refine X_copyP (k:=i+1) (news:=(l.map ZD.segs).drop i) rfl rfl rfl rfl rfl F.elem26 rfl (by simp [hext];omega) ho13 (by repeat first|exact Rem.here _|exact Rem.two|apply Rem.skip|apply Rem.over) (by rw [List.length_drop];exact hom.src (by repeat first|exact Rem.here _|exact Rem.two|apply Rem.skip|apply Rem.over) (by intro u hu;exact rows_one ZD.flat l u hu)) (by simp only [List.length_drop,List.length_map];omega) rfl ?_;intro hs15 ho15
      have hn15:((l.map ZD.segs)++ext).length=l.length+1:=by simp [hext]
      rw [hn15] at ho15
      refine Zo (Zn (Y_pk [0,8,7,6,1,2] ?_));refine ZI (Zm (l:=[0,1,2,3,4]) rfl ?_)
      iterate 2 refine Zv ?_
      refine WG rfl rfl rfl (.some (k:=i) rfl (by rfl)) .none .none F.elem26 (by simp) (by simp only [Option.getD_some,Option.getD_none];omega) (by simp only [Option.getD_some,Option.getD_none];omega) (by simp) (show WP (some ⟨_,0,none⟩) 21 (i) (l.length+1) (c)=.slice (some ⟨_,0+(i) * 21,none⟩) (l.length+1-(i)) (c-(i)) from pieceV_in (by omega)) rfl ?_;refine Zv ?_
      rw [Nat.zero_add]
      have hn16:(((l.map ZD.segs)++ext).take (i+1)++(l.map ZD.segs).drop i++((l.map ZD.segs)++ext).drop (i+1+((l.map ZD.segs).drop i).length)).length=l.length+1:=by simp only [List.length_append,List.length_take,List.length_drop,List.length_map,hext];omega
      refine X_copyP (k:=i) (news:=[ZD.segs x]) rfl rfl rfl rfl rfl F.elem26 rfl (by rw [hn16];omega) ho15 (by repeat first|exact Rem.here _|exact Rem.two|apply Rem.skip|apply Rem.over) (OSl.srcAll hob (by repeat first|exact Rem.here _|exact Rem.two|apply Rem.skip|apply Rem.over) (by intro u hu;exact rows_one ZD.flat [x] u (by simpa using hu))) (by show 1=min 1 (l.length+1-i);omega) rfl ?_;intro hs16 ho16
      rw [hn16] at ho16
      rw [show i+[ZD.segs x].length=i+1 from rfl,ins_room (by rw [List.length_map];omega) hext] at ho16
      refine Zo (Zn (Y_pk [0,8,7,6,1,2] ?_));refine ZI (Zm (l:=[0,1]) rfl ?_);refine Zv ?_;refine ZB ?_;refine Zo (Zn (Y_pk [6,0,8,7,1,2] ?_));refine Yg (YG ?_)
      refine Ya (.inr rfl) (.tmp rfl .nil) (fun w hw=>?_)
      exact ⟨_,M,hs16,rfl,Mem.le.refl M,hw.c,rfl,by rw [insL_map];exact ho16⟩
     ·skip
      (exfalso;simp [eqX] at hc7;done)
theorem InsertP_ok (M:Mem) (a:Option Addr) (c:Nat) (l:List ZD) (hs:Hp) (i:Nat) (hi:i≤l.length) (x:ZD) (bv:Nat) (hv:Hp) (hob:OSl 25 21 (.slice (some ⟨bv,0,none⟩) 1 1) hv [ZD.segs x]) (hb:l.length≤1000000) (ho:OSl 25 21 (.slice a l.length c) hs (l.map ZD.segs)):Fh Tryz.prog 105 [.slice a l.length c,.int .i64 (i:Int),.slice (some ⟨bv,0,none⟩) 1 1] M (hs++hv) (fun M' v Hout=>M'=M∧OSl 25 21 v Hout ((insL l i x).map ZD.segs)):=by
  cases a with
  |none =>
   obtain ⟨rfl,rfl,rfl⟩:=ho.noneAll
   obtain rfl:i=0:=by simpa using hi
   exact InsertP_nil M x bv hv hob
  |some ad =>
   obtain ⟨b,rfl⟩:=ho.someAll
   exact InsertP_some M b c l hs i hi x bv hv hob hb ho
end Go.Proofs.YtajmnjefajknoaaGreat
namespace Go.Proofs.YtajmnjefajknoaaGreat
open Go.Esp
theorem F.ok104:okFn Tryz.prog 104=true:=by kernel_rfl
theorem F.ok105:okFn Tryz.prog 105=true:=by kernel_rfl
theorem told_ok (M:Mem) (bw:Nat) (Za:Int) (Zb:Plc) (Zc:Int) (Zh:Plc) (Zj Zf Zt:Option Addr) (Zi Ze Zs:Nat) (Zg Zd:List ZD) (Zl:List Int) (Zq:Int) (Zu:Bool) (ZF Zx ZN ZC ZA Zw Zr Zy Zp:Int) (Zz:Plc) (ZE ZG:Int) (Yj:ZL.ok M ⟨⟨Za,Zb⟩,⟨Zc,Zh⟩,⟨Zj,Zi,Zg⟩,⟨Zf,Ze,Zd⟩⟩) (Ys:SlK M (oneI .i64) 1 ⟨Zt,Zs,Zl⟩) (hbig:Zg.length≤40∧Zd.length≤200) (hLa:Zl.length≤1000) (hh:0≤ZE∧ZE≤1000) (l:ZM) (hl0:ZM.ok M l) (hLp:l.peers.l.length≤1000) (hk:l.kind=4):Fh Tryz.prog 48 [.pointer (some ⟨bw,0,none⟩),l.enc] M [(bw,rowO (ZQ.segs ⟨⟨⟨⟨Za,Zb⟩,⟨Zc,Zh⟩,⟨Zj,Zi,Zg⟩,⟨Zf,Ze,Zd⟩⟩,Zq,Zu,ZF,Zx,ZN,ZC,ZA,Zw,Zr,Zy,Zp,Zz,⟨Zt,Zs,Zl⟩,ZE,ZG⟩,⟨none,0,[]⟩⟩) 68)] (fun M' v Hout=>v=.tuple #[]∧WkF bw 68 M' Hout (XU (ZO.nd ⟨⟨⟨Za,Zb⟩,⟨Zc,Zh⟩,⟨Zj,Zi,Zg⟩,⟨Zf,Ze,Zd⟩⟩,Zq,Zu,ZF,Zx,ZN,ZC,ZA,Zw,Zr,Zy,Zp,Zz,⟨Zt,Zs,Zl⟩,ZE,ZG⟩) l.lt)):=by
  obtain ⟨Yk,⟨ZV,YB⟩,YY,l_id,⟨Yo,Yn,ZT⟩,YP,⟨ZP,ZY⟩,⟨Ym,Yf,ZR⟩⟩:=l
  simp only at hLp hk
  have XT:SlK M (oneI .i64) 1 ⟨Yo,Yn,ZT⟩:=hl0.h0
  have Xh:SlK M ZD.segs 21 ⟨Ym,Yf,ZR⟩:=hl0.h1
  have XX:=Xh.h1
  simp only at XX
  have Vb:(ZR.map ZD.segs).length=ZR.length:=List.length_map ..
  have Vd:ZR.length≤Yf:=Xh.h3
  refine XP (fun H=>(bw,rowO (ZQ.segs ⟨⟨⟨⟨Za,Zb⟩,⟨Zc,Zh⟩,⟨Zj,Zi,Zg⟩,⟨Zf,Ze,Zd⟩⟩,Zq,Zu,ZF,Zx,ZN,ZC,ZA,Zw,Zr,Zy,Zp,Zz,⟨Zt,Zs,Zl⟩,ZE,ZG⟩,⟨none,0,[]⟩⟩) 68)::H) (fun _=>by simp only [List.append_assoc,List.cons_append,List.nil_append]) Tryz.func48 rfl Tryz.ntmps48 rfl ?_;intro H
  refine ZI (Zm (l:=[0]) rfl ?_)
  refine Xk ?_;intro b1
  refine Zo (Zn (Y_pk [3,0] ?_))
  iterate 2 refine ZI ?_
  refine Yy (l:=[0,1,2,3,4,5,6,7,8,9,10,11,12,13,14,15,16,17,18]) #[0,1,3,7,15,0,32,96,255,511,1023,2047,4095,8191,16383,1023,33791,131071,262143] _ rfl (by kernel_rfl) (by kernel_rfl) St.drawn (fun _ h=>h) ?_;refine Zv ?_;refine ZS ?_;refine Zk F.foff68_0 ?_;refine Zk F.foff32_6 ?_;refine ZH F.lay3 ?_;refine Zk F.foff44_1 ?_;refine Zk F.foff25_0 ?_;refine ZH F.lay3 ?_;refine Yz ?_;refine Zv ?_
  refine Yh 13 rfl (fun hc2=>?_) (fun hc2=>?_)
  ·replace hc2:=nT hc2
   iterate 8 refine ZU ?_
   refine ZK ?_;refine Zo (Zn (Y_pk [22,3,0] ?_));refine Xe rfl ?_;refine Yg (YG ?_)
   refine Ya (.inr rfl) (.nil) (fun w hw=>?_)
   have h3:XU (ZO.nd ⟨⟨⟨Za,Zb⟩,⟨Zc,Zh⟩,⟨Zj,Zi,Zg⟩,⟨Zf,Ze,Zd⟩⟩,Zq,Zu,ZF,Zx,ZN,ZC,ZA,Zw,Zr,Zy,Zp,Zz,⟨Zt,Zs,Zl⟩,ZE,ZG⟩) (ZM.lt ⟨Yk,⟨ZV,YB⟩,YY,l_id,⟨Yo,Yn,ZT⟩,YP,⟨ZP,ZY⟩,⟨Ym,Yf,ZR⟩⟩)=((ZO.nd ⟨⟨⟨Za,Zb⟩,⟨Zc,Zh⟩,⟨Zj,Zi,Zg⟩,⟨Zf,Ze,Zd⟩⟩,Zq,Zu,ZF,Zx,ZN,ZC,ZA,Zw,Zr,Zy,Zp,Zz,⟨Zt,Zs,Zl⟩,ZE,ZG⟩),[]):=(does4 hk).trans (told_no (by exact .inl (by assumption)))
   refine ⟨_,M,[(bw,rowO (ZQ.segs ⟨⟨⟨⟨Za,Zb⟩,⟨Zc,Zh⟩,⟨Zj,Zi,Zg⟩,⟨Zf,Ze,Zd⟩⟩,Zq,Zu,ZF,Zx,ZN,ZC,ZA,Zw,Zr,Zy,Zp,Zz,⟨Zt,Zs,Zl⟩,ZE,ZG⟩,⟨none,0,[]⟩⟩) 68)],rfl,Mem.le.refl M,hw.c,rfl,⟨⟨⟨Za,Zb⟩,⟨Zc,Zh⟩,⟨Zj,Zi,Zg⟩,⟨Zf,Ze,Zd⟩⟩,Zq,Zu,ZF,Zx,ZN,ZC,ZA,Zw,Zr,Zy,Zp,Zz,⟨Zt,Zs,Zl⟩,ZE,ZG⟩,⟨none,0,[]⟩,rfl,?_,?_,⟨Yj,Ys⟩,SlK.nil,fun y hy=>by cases hy⟩
   ·rw [h3] <;> rfl
   ·rw [h3] <;> rfl
  ·replace hc2:=nF hc2
   refine Zv ?_;refine ZS ?_;refine Zk F.foff68_0 ?_;refine Zk F.foff32_7 ?_;refine ZH F.lay29 ?_;refine Zk F.foff44_2 ?_;refine ZH F.lay29 ?_;refine Yz ?_;refine ZK ?_;refine Zo (Zn (Y_pk [22,3,0] ?_))
   refine Yx rfl (fun hc3=>?_) (fun hc3=>?_)
   ·replace hc3:=nT hc3
    refine Yg (YG ?_)
    refine Ya (.inr rfl) (.nil) (fun w hw=>?_)
    have h3:XU (ZO.nd ⟨⟨⟨Za,Zb⟩,⟨Zc,Zh⟩,⟨Zj,Zi,Zg⟩,⟨Zf,Ze,Zd⟩⟩,Zq,Zu,ZF,Zx,ZN,ZC,ZA,Zw,Zr,Zy,Zp,Zz,⟨Zt,Zs,Zl⟩,ZE,ZG⟩) (ZM.lt ⟨Yk,⟨ZV,YB⟩,YY,l_id,⟨Yo,Yn,ZT⟩,YP,⟨ZP,ZY⟩,⟨Ym,Yf,ZR⟩⟩)=((ZO.nd ⟨⟨⟨Za,Zb⟩,⟨Zc,Zh⟩,⟨Zj,Zi,Zg⟩,⟨Zf,Ze,Zd⟩⟩,Zq,Zu,ZF,Zx,ZN,ZC,ZA,Zw,Zr,Zy,Zp,Zz,⟨Zt,Zs,Zl⟩,ZE,ZG⟩),[]):=(does4 hk).trans (told_no (by exact .inr (by assumption)))
    refine ⟨_,M,[(bw,rowO (ZQ.segs ⟨⟨⟨⟨Za,Zb⟩,⟨Zc,Zh⟩,⟨Zj,Zi,Zg⟩,⟨Zf,Ze,Zd⟩⟩,Zq,Zu,ZF,Zx,ZN,ZC,ZA,Zw,Zr,Zy,Zp,Zz,⟨Zt,Zs,Zl⟩,ZE,ZG⟩,⟨none,0,[]⟩⟩) 68)],rfl,Mem.le.refl M,hw.c,rfl,⟨⟨⟨Za,Zb⟩,⟨Zc,Zh⟩,⟨Zj,Zi,Zg⟩,⟨Zf,Ze,Zd⟩⟩,Zq,Zu,ZF,Zx,ZN,ZC,ZA,Zw,Zr,Zy,Zp,Zz,⟨Zt,Zs,Zl⟩,ZE,ZG⟩,⟨none,0,[]⟩,rfl,?_,?_,⟨Yj,Ys⟩,SlK.nil,fun y hy=>by cases hy⟩
    ·rw [h3] <;> rfl
    ·rw [h3] <;> rfl
   ·replace hc3:=nF hc3
    refine Yv (Zn (Y_pk [3,0] ?_));refine ZI (Zm (l:=[0,1,2,3,4]) rfl ?_);refine Zv ?_;refine ZS ?_;refine Zk F.foff68_0 ?_;refine Zk F.foff32_6 ?_;refine Yi F.lay3 ?_;refine Zo (Zn (Y_pk [3,0] ?_));refine ZI (Xq (l:=[0,1,2,3,4,5]) [5] rfl ?_);refine Zv ?_;refine Zk F.foff44_1 ?_;refine ZH F.lay25 ?_;refine Zk F.foff44_7 ?_;refine ZH F.lay26 ?_;refine Ww rfl rfl rfl F.ok82 rfl (adopt_ok M bw Za Zb Zc Zh Zj Zf Zt Zi Ze Zs Zg Zd Zl Zq Zu ZF Zx ZN (-1) ZA Zw Zr Zy Zp Zz ZE ZG Yj ⟨ZV,YB⟩ ⟨Ym,Yf,ZR⟩ Xh) (by repeat first|exact Rem.here _|exact Rem.two|apply Rem.skip|apply Rem.over) (YA rfl) ?_
    rintro _ M1 hs1 hm1 ⟨rfl,⟨⟨wa,wi⟩,⟨wq,wj⟩,⟨w1a,w1c,w1l⟩,⟨w2a,w2c,w2l⟩⟩,rfl,okt,hv1⟩
    simp only [List.append_assoc,List.cons_append,List.nil_append]
    refine Zo (Wk ?_);refine Zn (Y_pk [3,0] ?_)
    iterate 2 refine ZI ?_
    refine Yy (l:=[0,1,2,3,4,5,6,7]) #[0,1,3,7,15,0,32,127] _ rfl (by kernel_rfl) (by kernel_rfl) St.drawn (fun _ h=>h) ?_;refine Zv ?_;refine ZS ?_;refine Zk F.foff68_0 ?_;refine Zk F.foff32_0 ?_;refine ZH F.lay28 ?_;refine Zk F.foff44_6 ?_;refine ZH F.lay25 ?_;refine X_fs rfl rfl F.ok104 rfl (Closer_ok _ ⟨⟨wa,wi⟩,⟨wq,wj⟩,⟨w1a,w1c,w1l⟩,⟨w2a,w2c,w2l⟩⟩ ⟨ZP,ZY⟩ okt) rfl ?_
    rintro _ rfl
    refine Zo (Zn (Y_pk [40,3,0] ?_))
    refine Yx rfl (fun hc4=>?_) (fun hc4=>?_)
    ·replace hc4:=dT hc4
     refine C_region_anyW (l:=[0,1,2,3,4,5,6,7,8,9,10]) [10] #[0,0,2,0,8,24,0,64,192,504,1023] (_) rfl (by kernel_rfl) (by kernel_rfl) St.drawn (fun _ h=>h) ?_;refine Zv ?_;refine Zk F.foff44_6 ?_;refine ZH F.lay25 ?_;refine Zk F.foff44_7 ?_;refine ZH F.lay26 ?_;refine VU rfl rfl F.ok106 rfl (CloneP_ok M1 Ym Yf ZR (Xh.mono hm1) (by omega)) (by repeat first|exact Rem.here _|exact Rem.two|apply Rem.skip|apply Rem.over) (fun _ _ _ hm hw=>(hw.lower (by exact hm)).c) (YA rfl) ?_
     rintro v0 M2 hs0 hm2 ⟨hM2,ho0⟩;subst M2;clear hm2
     obtain ⟨ad0,cp0,rfl⟩:=ho0.valL
     refine Zk F.foff44_1 ?_;refine ZH F.lay25 ?_
     refine XB rfl rfl F.elem26 F.zero25 rfl rfl (.cons rfl (by constructor) .nil) rfl rfl (by simp only [List.map_cons,List.map_nil] <;> rfl) rfl ?_;intro b5 hob6
     refine X_fhR2 rfl rfl F.ok105 rfl (InsertP_ok M1 ad0 cp0 ZR hs0 0 (Nat.zero_le _) ⟨ZV,YB⟩ _ _ hob6 (by omega) ho0) (by repeat first|exact Rem.here _|exact Rem.two|apply Rem.skip|apply Rem.over) (by repeat first|exact Rem.here _|exact Rem.two|apply Rem.skip|apply Rem.over) (by rintro v M9 Ho w hm ⟨rfl,_⟩ hw;exact hw.c) (YA rfl) ?_
     rintro v7 MX hs7 hmX ⟨hMX,ho7⟩
     subst MX
     clear hmX
     obtain ⟨ad7,cp7,rfl⟩:=ho7.valL
     simp only [List.append_assoc,List.cons_append,List.nil_append]
     refine X_fhW2 rfl rfl rfl F.ok82 rfl ((fh_thaw ho7 (fun M9 j1 j3=>adopt_ok M9 bw wa wi wq wj w1a w2a Zt w1c w2c Zs w1l w2l Zl Zq Zu ZF Zx ZN (-1) ZA Zw Zr Zy Zp Zz ZE ZG (okt.mono j1) ⟨ZP,ZY⟩ ⟨ad7,cp7,insL ZR 0 ⟨ZV,YB⟩⟩ j3))) (by repeat first|exact Rem.here _|exact Rem.two|apply Rem.skip|apply Rem.over) (by repeat first|exact Rem.here _|exact Rem.two|apply Rem.skip|apply Rem.over) (YA rfl) ?_
     rintro _ M2 hs2 hm2 ⟨rfl,⟨⟨ua,ui⟩,⟨uq,uj⟩,⟨u1a,u1c,u1l⟩,⟨u2a,u2c,u2l⟩⟩,rfl,oku,hv2⟩
     simp only [List.append_assoc,List.cons_append,List.nil_append]
     refine Zo (Wk ?_);refine Zn (Y_pk [0] ?_);refine Xq (l:=[0,1,2,3,4,5,6,7,8,9,10]) [10] rfl ?_
     iterate 2 refine Zv ?_
     refine ZS ?_;refine Zk F.foff68_0 ?_;refine Zk F.foff32_0 ?_;refine ZH F.lay28 ?_;refine X_fs rfl rfl F.ok41 rfl (Vt _ ⟨⟨ua,ui⟩,⟨uq,uj⟩,⟨u1a,u1c,u1l⟩,⟨u2a,u2c,u2l⟩⟩ oku) rfl ?_
     rintro _ rfl
     obtain ⟨⟨fa,fi⟩,hfi⟩:∃ x,Xl (ZL.tb ⟨⟨ua,ui⟩,⟨uq,uj⟩,⟨u1a,u1c,u1l⟩,⟨u2a,u2c,u2l⟩⟩)=x:=⟨_,rfl⟩
     rw [hfi]
     refine Y_field F.fld25_0 F.lay3 ?_;refine X_fs rfl rfl F.ok66 rfl (WO _) rfl ?_
     rintro _ rfl
     refine WV 60 rfl (show _=aggV [.one (.int .i64 (-1)),Yq 0] from rfl) ?_;refine Xg rfl rfl F.bld44 (.cons rfl (by constructor) (.cons rfl (by constructor) .nil)) rfl rfl ?_;refine Ww rfl rfl rfl F.ok65 rfl (sendF_ok M2 bw ua ui uq uj u1a u2a Zt u1c u2c Zs u1l u2l Zl Zq Zu ZF Zx ZN (-1) ZA Zw Zr Zy Zp Zz ZE ZG fa ⟨5,⟨0,0⟩,0,0,⟨none,0,[]⟩,false,⟨-1,0⟩,⟨none,0,[]⟩⟩) (by repeat first|exact Rem.here _|exact Rem.two|apply Rem.skip|apply Rem.over) (YA rfl) ?_
     rintro _ M3 hs3 hm3 ⟨rfl,⟨o9a,o9c,o9l⟩,rfl,k9o,hl9⟩
     simp only at hl9
     simp only [List.append_assoc,List.cons_append,List.nil_append]
     refine Zo (Wk ?_)
     refine Ya (.inl rfl) (.nil) (fun w hw=>?_)
     have h3:=(does4 (n:=(ZO.nd ⟨⟨⟨Za,Zb⟩,⟨Zc,Zh⟩,⟨Zj,Zi,Zg⟩,⟨Zf,Ze,Zd⟩⟩,Zq,Zu,ZF,Zx,ZN,ZC,ZA,Zw,Zr,Zy,Zp,Zz,⟨Zt,Zs,Zl⟩,ZE,ZG⟩)) (l:=(ZM.lt ⟨Yk,⟨ZV,YB⟩,YY,l_id,⟨Yo,Yn,ZT⟩,YP,⟨ZP,ZY⟩,⟨Ym,Yf,ZR⟩⟩)) hk).trans (told_yes (m:=ZO.nd ⟨⟨⟨wa,wi⟩,⟨wq,wj⟩,⟨w1a,w1c,w1l⟩,⟨w2a,w2c,w2l⟩⟩,Zq,Zu,ZF,Zx,ZN,(-1),ZA,Zw,Zr,Zy,Zp,Zz,⟨Zt,Zs,Zl⟩,ZE,ZG⟩) (show (ZO.nd ⟨⟨⟨Za,Zb⟩,⟨Zc,Zh⟩,⟨Zj,Zi,Zg⟩,⟨Zf,Ze,Zd⟩⟩,Zq,Zu,ZF,Zx,ZN,ZC,ZA,Zw,Zr,Zy,Zp,Zz,⟨Zt,Zs,Zl⟩,ZE,ZG⟩).askTo=(ZM.lt ⟨Yk,⟨ZV,YB⟩,YY,l_id,⟨Yo,Yn,ZT⟩,YP,⟨ZP,ZY⟩,⟨Ym,Yf,ZR⟩⟩).frm.addr by show ZC=ZV;first|assumption|omega) (show (ZO.nd ⟨⟨⟨Za,Zb⟩,⟨Zc,Zh⟩,⟨Zj,Zi,Zg⟩,⟨Zf,Ze,Zd⟩⟩,Zq,Zu,ZF,Zx,ZN,ZC,ZA,Zw,Zr,Zy,Zp,Zz,⟨Zt,Zs,Zl⟩,ZE,ZG⟩).askReq=(ZM.lt ⟨Yk,⟨ZV,YB⟩,YY,l_id,⟨Yo,Yn,ZT⟩,YP,⟨ZP,ZY⟩,⟨Ym,Yf,ZR⟩⟩).req by show ZA=YY;first|assumption|omega) hv1 (show CloserT (ZL.tb ⟨⟨wa,wi⟩,⟨wq,wj⟩,⟨w1a,w1c,w1l⟩,⟨w2a,w2c,w2l⟩⟩) ⟨ZP,ZY⟩ by assumption) (q:=ZO.nd ⟨⟨⟨ua,ui⟩,⟨uq,uj⟩,⟨u1a,u1c,u1l⟩,⟨u2a,u2c,u2l⟩⟩,Zq,Zu,ZF,Zx,ZN,(-1),ZA,Zw,Zr,Zy,Zp,Zz,⟨Zt,Zs,Zl⟩,ZE,ZG⟩) hv2)
     rw [show Xl (ZO.nd ⟨⟨⟨ua,ui⟩,⟨uq,uj⟩,⟨u1a,u1c,u1l⟩,⟨u2a,u2c,u2l⟩⟩,Zq,Zu,ZF,Zx,ZN,(-1),ZA,Zw,Zr,Zy,Zp,Zz,⟨Zt,Zs,Zl⟩,ZE,ZG⟩).table=⟨fa,fi⟩ from hfi] at h3
     refine ⟨_,M3,[(bw,rowO (ZQ.segs ⟨⟨⟨⟨ua,ui⟩,⟨uq,uj⟩,⟨u1a,u1c,u1l⟩,⟨u2a,u2c,u2l⟩⟩,Zq,Zu,ZF,Zx,ZN,(-1),ZA,Zw,Zr,Zy,Zp,Zz,⟨Zt,Zs,Zl⟩,ZE,ZG⟩,⟨o9a,o9c,o9l⟩⟩) 68)],rfl,((hm1.trans hm2).trans hm3),hw.c,rfl,⟨⟨⟨ua,ui⟩,⟨uq,uj⟩,⟨u1a,u1c,u1l⟩,⟨u2a,u2c,u2l⟩⟩,Zq,Zu,ZF,Zx,ZN,(-1),ZA,Zw,Zr,Zy,Zp,Zz,⟨Zt,Zs,Zl⟩,ZE,ZG⟩,⟨o9a,o9c,o9l⟩,rfl,?_,?_,⟨oku.mono hm3,((Ys.mono hm1).mono hm2).mono hm3⟩,k9o,fun y hy=>?_⟩
     ·rw [h3] <;> rfl
     ·rw [h3]
      show sndl o9l=_
      rw [hl9];rfl
     ·simp only at hy
      rw [hl9] at hy
      obtain rfl:=List.mem_singleton.1 hy
      exact ⟨⟨SlK.nil,SlK.nil⟩⟩
    ·replace hc4:=dF hc4
     refine Yv (Zn (Y_pk [0] ?_));refine Xq (l:=[0,1,2,3,4,5,6,7,8,9,10]) [10] rfl ?_
     iterate 2 refine Zv ?_
     refine ZS ?_;refine Zk F.foff68_0 ?_;refine Zk F.foff32_0 ?_;refine ZH F.lay28 ?_;refine X_fs rfl rfl F.ok41 rfl (Vt _ ⟨⟨wa,wi⟩,⟨wq,wj⟩,⟨w1a,w1c,w1l⟩,⟨w2a,w2c,w2l⟩⟩ okt) rfl ?_
     rintro _ rfl
     obtain ⟨⟨fa,fi⟩,hfi⟩:∃ x,Xl (ZL.tb ⟨⟨wa,wi⟩,⟨wq,wj⟩,⟨w1a,w1c,w1l⟩,⟨w2a,w2c,w2l⟩⟩)=x:=⟨_,rfl⟩
     rw [hfi]
     refine Y_field F.fld25_0 F.lay3 ?_;refine X_fs rfl rfl F.ok66 rfl (WO _) rfl ?_
     rintro _ rfl
     refine WV 60 rfl (show _=aggV [.one (.int .i64 (-1)),Yq 0] from rfl) ?_;refine Xg rfl rfl F.bld44 (.cons rfl (by constructor) (.cons rfl (by constructor) .nil)) rfl rfl ?_;refine Ww rfl rfl rfl F.ok65 rfl (sendF_ok M1 bw wa wi wq wj w1a w2a Zt w1c w2c Zs w1l w2l Zl Zq Zu ZF Zx ZN (-1) ZA Zw Zr Zy Zp Zz ZE ZG fa ⟨5,⟨0,0⟩,0,0,⟨none,0,[]⟩,false,⟨-1,0⟩,⟨none,0,[]⟩⟩) (by repeat first|exact Rem.here _|exact Rem.two|apply Rem.skip|apply Rem.over) (YA rfl) ?_
     rintro _ M3 hs3 hm3 ⟨rfl,⟨o9a,o9c,o9l⟩,rfl,k9o,hl9⟩
     simp only at hl9
     simp only [List.append_assoc,List.cons_append,List.nil_append]
     refine Zo (Wk ?_)
     refine Ya (.inl rfl) (.nil) (fun w hw=>?_)
     have h3:=(does4 (n:=(ZO.nd ⟨⟨⟨Za,Zb⟩,⟨Zc,Zh⟩,⟨Zj,Zi,Zg⟩,⟨Zf,Ze,Zd⟩⟩,Zq,Zu,ZF,Zx,ZN,ZC,ZA,Zw,Zr,Zy,Zp,Zz,⟨Zt,Zs,Zl⟩,ZE,ZG⟩)) (l:=(ZM.lt ⟨Yk,⟨ZV,YB⟩,YY,l_id,⟨Yo,Yn,ZT⟩,YP,⟨ZP,ZY⟩,⟨Ym,Yf,ZR⟩⟩)) hk).trans (told_not (m:=ZO.nd ⟨⟨⟨wa,wi⟩,⟨wq,wj⟩,⟨w1a,w1c,w1l⟩,⟨w2a,w2c,w2l⟩⟩,Zq,Zu,ZF,Zx,ZN,(-1),ZA,Zw,Zr,Zy,Zp,Zz,⟨Zt,Zs,Zl⟩,ZE,ZG⟩) (show (ZO.nd ⟨⟨⟨Za,Zb⟩,⟨Zc,Zh⟩,⟨Zj,Zi,Zg⟩,⟨Zf,Ze,Zd⟩⟩,Zq,Zu,ZF,Zx,ZN,ZC,ZA,Zw,Zr,Zy,Zp,Zz,⟨Zt,Zs,Zl⟩,ZE,ZG⟩).askTo=(ZM.lt ⟨Yk,⟨ZV,YB⟩,YY,l_id,⟨Yo,Yn,ZT⟩,YP,⟨ZP,ZY⟩,⟨Ym,Yf,ZR⟩⟩).frm.addr by show ZC=ZV;first|assumption|omega) (show (ZO.nd ⟨⟨⟨Za,Zb⟩,⟨Zc,Zh⟩,⟨Zj,Zi,Zg⟩,⟨Zf,Ze,Zd⟩⟩,Zq,Zu,ZF,Zx,ZN,ZC,ZA,Zw,Zr,Zy,Zp,Zz,⟨Zt,Zs,Zl⟩,ZE,ZG⟩).askReq=(ZM.lt ⟨Yk,⟨ZV,YB⟩,YY,l_id,⟨Yo,Yn,ZT⟩,YP,⟨ZP,ZY⟩,⟨Ym,Yf,ZR⟩⟩).req by show ZA=YY;first|assumption|omega) hv1 (show ¬CloserT (ZL.tb ⟨⟨wa,wi⟩,⟨wq,wj⟩,⟨w1a,w1c,w1l⟩,⟨w2a,w2c,w2l⟩⟩) ⟨ZP,ZY⟩ by assumption))
     rw [show Xl (ZO.nd ⟨⟨⟨wa,wi⟩,⟨wq,wj⟩,⟨w1a,w1c,w1l⟩,⟨w2a,w2c,w2l⟩⟩,Zq,Zu,ZF,Zx,ZN,(-1),ZA,Zw,Zr,Zy,Zp,Zz,⟨Zt,Zs,Zl⟩,ZE,ZG⟩).table=⟨fa,fi⟩ from hfi] at h3
     refine ⟨_,M3,[(bw,rowO (ZQ.segs ⟨⟨⟨⟨wa,wi⟩,⟨wq,wj⟩,⟨w1a,w1c,w1l⟩,⟨w2a,w2c,w2l⟩⟩,Zq,Zu,ZF,Zx,ZN,(-1),ZA,Zw,Zr,Zy,Zp,Zz,⟨Zt,Zs,Zl⟩,ZE,ZG⟩,⟨o9a,o9c,o9l⟩⟩) 68)],rfl,(hm1.trans hm3),hw.c,rfl,⟨⟨⟨wa,wi⟩,⟨wq,wj⟩,⟨w1a,w1c,w1l⟩,⟨w2a,w2c,w2l⟩⟩,Zq,Zu,ZF,Zx,ZN,(-1),ZA,Zw,Zr,Zy,Zp,Zz,⟨Zt,Zs,Zl⟩,ZE,ZG⟩,⟨o9a,o9c,o9l⟩,rfl,?_,?_,⟨okt.mono hm3,(Ys.mono hm1).mono hm3⟩,k9o,fun y hy=>?_⟩
     ·rw [h3] <;> rfl
     ·rw [h3]
      show sndl o9l=_
      rw [hl9];rfl
     ·simp only at hy
      rw [hl9] at hy
      obtain rfl:=List.mem_singleton.1 hy
      exact ⟨⟨SlK.nil,SlK.nil⟩⟩
end Go.Proofs.YtajmnjefajknoaaGreat
namespace Go.Proofs.YtajmnjefajknoaaGreat
open Go.Esp
theorem bye_ok (M:Mem) (bw:Nat) (Za:Int) (Zb:Plc) (Zc:Int) (Zh:Plc) (Zj Zf Zt:Option Addr) (Zi Ze Zs:Nat) (Zg Zd:List ZD) (Zl:List Int) (Zq:Int) (Zu:Bool) (ZF Zx ZN ZC ZA Zw Zr Zy Zp:Int) (Zz:Plc) (ZE ZG:Int) (Yj:ZL.ok M ⟨⟨Za,Zb⟩,⟨Zc,Zh⟩,⟨Zj,Zi,Zg⟩,⟨Zf,Ze,Zd⟩⟩) (Ys:SlK M (oneI .i64) 1 ⟨Zt,Zs,Zl⟩) (hbig:Zg.length≤40∧Zd.length≤200) (hLa:Zl.length≤1000) (hh:0≤ZE∧ZE≤1000) (l:ZM) (hl0:ZM.ok M l) (hLp:l.peers.l.length≤1000) (hk:l.kind=8):Fh Tryz.prog 52 [.pointer (some ⟨bw,0,none⟩),l.enc] M [(bw,rowO (ZQ.segs ⟨⟨⟨⟨Za,Zb⟩,⟨Zc,Zh⟩,⟨Zj,Zi,Zg⟩,⟨Zf,Ze,Zd⟩⟩,Zq,Zu,ZF,Zx,ZN,ZC,ZA,Zw,Zr,Zy,Zp,Zz,⟨Zt,Zs,Zl⟩,ZE,ZG⟩,⟨none,0,[]⟩⟩) 68)] (fun M' v Hout=>v=.tuple #[]∧WkF bw 68 M' Hout (XU (ZO.nd ⟨⟨⟨Za,Zb⟩,⟨Zc,Zh⟩,⟨Zj,Zi,Zg⟩,⟨Zf,Ze,Zd⟩⟩,Zq,Zu,ZF,Zx,ZN,ZC,ZA,Zw,Zr,Zy,Zp,Zz,⟨Zt,Zs,Zl⟩,ZE,ZG⟩) l.lt)):=by
  obtain ⟨Yk,⟨ZV,YB⟩,YY,l_id,⟨Yo,Yn,ZT⟩,YP,⟨ZP,ZY⟩,⟨Ym,Yf,ZR⟩⟩:=l
  simp only at hLp hk
  have XT:SlK M (oneI .i64) 1 ⟨Yo,Yn,ZT⟩:=hl0.h0
  have Xh:SlK M ZD.segs 21 ⟨Ym,Yf,ZR⟩:=hl0.h1
  have XX:=Xh.h1
  simp only at XX
  have Vb:(ZR.map ZD.segs).length=ZR.length:=List.length_map ..
  have Vd:ZR.length≤Yf:=Xh.h3
  refine XP (fun H=>(bw,rowO (ZQ.segs ⟨⟨⟨⟨Za,Zb⟩,⟨Zc,Zh⟩,⟨Zj,Zi,Zg⟩,⟨Zf,Ze,Zd⟩⟩,Zq,Zu,ZF,Zx,ZN,ZC,ZA,Zw,Zr,Zy,Zp,Zz,⟨Zt,Zs,Zl⟩,ZE,ZG⟩,⟨none,0,[]⟩⟩) 68)::H) (fun _=>by simp only [List.append_assoc,List.cons_append,List.nil_append]) Tryz.func52 rfl Tryz.ntmps52 rfl ?_;intro H
  refine ZI (Zm (l:=[0]) rfl ?_)
  refine Xk ?_;intro b1
  refine Zo (Zn (Y_pk [3,0] ?_));refine ZI (Yy (l:=[0,1,2,3,4,5,6,7,8,9,10,11,12,13,14,15,16,17,18,19,20,21,22,23]) #[0,1,3,7,15,31,63,0,128,384,1023,0,2048,6144,14336,30720,63488,129024,0,262144,786432,2095104,131071,8388607] _ rfl (by kernel_rfl) (by kernel_rfl) St.drawn (fun _ h=>h) ?_);refine Zv ?_;refine ZS ?_;refine Zk F.foff68_0 ?_;refine Zk F.foff32_0 ?_;refine Zk F.foff28_1 ?_;refine Zk F.foff25_0 ?_;refine ZH F.lay3 ?_;refine Zk F.foff44_1 ?_;refine Zk F.foff25_0 ?_;refine ZH F.lay3 ?_;refine Yz ?_;refine Zv ?_;refine ZS ?_;refine Zk F.foff68_0 ?_;refine Zk F.foff32_0 ?_;refine ZH F.lay28 ?_;refine X_fs rfl rfl F.ok41 rfl (Vt _ ⟨⟨Za,Zb⟩,⟨Zc,Zh⟩,⟨Zj,Zi,Zg⟩,⟨Zf,Ze,Zd⟩⟩ Yj) rfl ?_
  rintro _ rfl
  obtain ⟨⟨fa,fi⟩,hfi⟩:∃ x,Xl (ZL.tb ⟨⟨Za,Zb⟩,⟨Zc,Zh⟩,⟨Zj,Zi,Zg⟩,⟨Zf,Ze,Zd⟩⟩)=x:=⟨_,rfl⟩
  rw [hfi]
  refine Y_field F.fld25_0 F.lay3 ?_;refine Zk F.foff44_1 ?_;refine Zk F.foff25_0 ?_;refine ZH F.lay3 ?_;refine Yz ?_
  iterate 2 refine ZB ?_
  refine Zo (Zn (Y_pk [5,4,3,0] ?_));refine ZI (Yy (l:=[0,1,2,3,4,5,6,7,8,9,10,11,12,13]) #[0,0,2,6,14,30,0,64,192,510,1023,2047,4095,8191] _ rfl (by kernel_rfl) (by kernel_rfl) St.drawn (fun _ h=>h) ?_)
  iterate 2 refine Zv ?_
  refine ZS ?_;refine Zk F.foff68_0 ?_;refine Zk F.foff32_0 ?_;refine ZH F.lay28 ?_;refine Zk F.foff44_1 ?_;refine Zk F.foff25_0 ?_;refine ZH F.lay3 ?_;refine X_fn rfl rfl F.ok108 rfl (Forget_ok _ ⟨⟨Za,Zb⟩,⟨Zc,Zh⟩,⟨Zj,Zi,Zg⟩,⟨Zf,Ze,Zd⟩⟩ ZV Yj hbig) rfl ?_
  rintro _ M1 hm1 ⟨⟨⟨oa,oi⟩,⟨oq,oj⟩,⟨o1a,o1c,o1l⟩,⟨o2a,o2c,o2l⟩⟩,rfl,hot,okt⟩
  refine ZS ?_;refine Zk F.foff68_0 ?_;refine Zk F.foff32_0 ?_;refine Yi F.lay28 ?_;refine Zo (Zn (Y_pk [5,4,3,0] ?_))
  iterate 2 refine ZI ?_
  refine Zm (l:=[0]) rfl ?_;refine Zv ?_;refine Zo (Zn (Y_pk [41,5,3,0] ?_))
  refine Yx rfl (fun hc2=>?_) (fun hc2=>?_)
  ·replace hc2:=dT hc2
   refine Yy (l:=[0,1,2,3,4,5,6,7,8,9,10,11,12]) #[0,0,2,6,14,30,0,64,254,511,1023,2047,4095] _ rfl (by kernel_rfl) (by kernel_rfl) St.drawn (fun _ h=>h) ?_
   iterate 2 refine Zv ?_
   refine ZS ?_;refine Zk F.foff68_0 ?_;refine Zk F.foff32_0 ?_;refine ZH F.lay28 ?_;refine Zk F.foff44_6 ?_;refine ZH F.lay25 ?_;refine X_fn rfl rfl F.ok107 rfl (Learn_ok _ ⟨⟨oa,oi⟩,⟨oq,oj⟩,⟨o1a,o1c,o1l⟩,⟨o2a,o2c,o2l⟩⟩ ⟨ZP,ZY⟩ okt) rfl ?_
   rintro _ M2 hm2 ⟨⟨⟨wa,wi⟩,⟨wq,wj⟩,⟨w1a,w1c,w1l⟩,⟨w2a,w2c,w2l⟩⟩,rfl,hol,okl⟩
   refine ZS ?_;refine Zk F.foff68_0 ?_;refine Zk F.foff32_0 ?_;refine Yi F.lay28 ?_;refine Zo (Zn (Y_pk [5,3,0] ?_));refine ZI ?_
   have s_lp9:=XX.mono (hm1.trans hm2)
   refine Zm (l:=[0,1,2,3,4,5,6]) rfl ?_
   iterate 2 refine Zv ?_
   refine Yh 55 rfl (fun hc3=>?_) (fun hc3=>?_)
   ·replace hc3:=dT hc3
    refine Zk F.foff44_7 ?_;refine ZH F.lay26 ?_;refine YX F.elem26 ?_;refine Yz ?_;refine ZK ?_;refine Zo (Zn (Y_pk [60,3,0] ?_))
    refine Yx rfl (fun hc4=>?_) (fun hc4=>?_)
    ·replace hc4:=dT hc4
     refine C_region_anyW (l:=[0,1,2,3,4,5,6,7,8]) [8] #[0,0,2,6,14,0,32,96,255] (_) rfl (by kernel_rfl) (by kernel_rfl) St.drawn (fun _ h=>h) ?_;refine Zv ?_;refine Zk F.foff44_7 ?_;refine ZH F.lay26 ?_;refine YR rfl rfl rfl rfl F.elem26 (by rfl) (by (simp;omega)) (by exact SlM.plain (by assumption) (by (simp;omega))) rfl ?_;refine Xo rfl rfl rfl (by assumption) (by exact XW (by (simp;omega))) F.lay25 rfl rfl rfl ?_;refine Zk F.foff44_7 ?_;refine ZH F.lay26 ?_;refine WG rfl rfl rfl (.some (k:=1) rfl rfl) .none .none F.elem26 (by simp only [Option.getD_none];omega) (by simp only [Option.getD_some,Option.getD_none];omega) (by simp only [Option.getD_some,Option.getD_none];omega) (by simp) (pieceV_drop (l:=ZR) (k:=1)) rfl ?_;refine Ww rfl rfl rfl F.ok82 rfl (adopt_ok M2 bw wa wi wq wj w1a w2a Zt w1c w2c Zs w1l w2l Zl Zq Zu ZF Zx ZN ZC ZA Zw Zr Zy Zp Zz ZE ZG okl ZR[0] ⟨_,_,ZR.drop 1⟩ ((Xh.mono (hm1.trans hm2)).drop 1 (by omega))) (by repeat first|exact Rem.here _|exact Rem.two|apply Rem.skip|apply Rem.over) (YA rfl) ?_
     rintro _ M3 hs3 hm3 ⟨rfl,⟨⟨ua,ui⟩,⟨uq,uj⟩,⟨u1a,u1c,u1l⟩,⟨u2a,u2c,u2l⟩⟩,rfl,oku,hv1⟩
     simp only [List.append_assoc,List.cons_append,List.nil_append]
     refine Zo (Wk ?_)
     refine Ya (.inl rfl) (.nil) (fun w hw=>?_)
     have h2:ZO.nd ⟨⟨⟨wa,wi⟩,⟨wq,wj⟩,⟨w1a,w1c,w1l⟩,⟨w2a,w2c,w2l⟩⟩,Zq,Zu,ZF,Zx,ZN,ZC,ZA,Zw,Zr,Zy,Zp,Zz,⟨Zt,Zs,Zl⟩,ZE,ZG⟩={ ZO.nd ⟨⟨⟨Za,Zb⟩,⟨Zc,Zh⟩,⟨Zj,Zi,Zg⟩,⟨Zf,Ze,Zd⟩⟩,Zq,Zu,ZF,Zx,ZN,ZC,ZA,Zw,Zr,Zy,Zp,Zz,⟨Zt,Zs,Zl⟩,ZE,ZG⟩ with table:=byeT (ZO.nd ⟨⟨⟨Za,Zb⟩,⟨Zc,Zh⟩,⟨Zj,Zi,Zg⟩,⟨Zf,Ze,Zd⟩⟩,Zq,Zu,ZF,Zx,ZN,ZC,ZA,Zw,Zr,Zy,Zp,Zz,⟨Zt,Zs,Zl⟩,ZE,ZG⟩) (ZM.lt ⟨Yk,⟨ZV,YB⟩,YY,l_id,⟨Yo,Yn,ZT⟩,YP,⟨ZP,ZY⟩,⟨Ym,Yf,ZR⟩⟩) }:=by
      unfold byeT
      rw [if_pos (show (ZO.nd ⟨⟨⟨Za,Zb⟩,⟨Zc,Zh⟩,⟨Zj,Zi,Zg⟩,⟨Zf,Ze,Zd⟩⟩,Zq,Zu,ZF,Zx,ZN,ZC,ZA,Zw,Zr,Zy,Zp,Zz,⟨Zt,Zs,Zl⟩,ZE,ZG⟩).table.pred.addr=(ZM.lt ⟨Yk,⟨ZV,YB⟩,YY,l_id,⟨Yo,Yn,ZT⟩,YP,⟨ZP,ZY⟩,⟨Ym,Yf,ZR⟩⟩).frm.addr from (show Zc=ZV by assumption)),show Wg (ZO.nd ⟨⟨⟨Za,Zb⟩,⟨Zc,Zh⟩,⟨Zj,Zi,Zg⟩,⟨Zf,Ze,Zd⟩⟩,Zq,Zu,ZF,Zx,ZN,ZC,ZA,Zw,Zr,Zy,Zp,Zz,⟨Zt,Zs,Zl⟩,ZE,ZG⟩).table (ZM.lt ⟨Yk,⟨ZV,YB⟩,YY,l_id,⟨Yo,Yn,ZT⟩,YP,⟨ZP,ZY⟩,⟨Ym,Yf,ZR⟩⟩).frm.addr=_ from hot.symm,show VC (ZL.tb ⟨⟨oa,oi⟩,⟨oq,oj⟩,⟨o1a,o1c,o1l⟩,⟨o2a,o2c,o2l⟩⟩) (ZM.lt ⟨Yk,⟨ZV,YB⟩,YY,l_id,⟨Yo,Yn,ZT⟩,YP,⟨ZP,ZY⟩,⟨Ym,Yf,ZR⟩⟩).peer=_ from hol.symm];rfl
     have h3:XU (ZO.nd ⟨⟨⟨Za,Zb⟩,⟨Zc,Zh⟩,⟨Zj,Zi,Zg⟩,⟨Zf,Ze,Zd⟩⟩,Zq,Zu,ZF,Zx,ZN,ZC,ZA,Zw,Zr,Zy,Zp,Zz,⟨Zt,Zs,Zl⟩,ZE,ZG⟩) (ZM.lt ⟨Yk,⟨ZV,YB⟩,YY,l_id,⟨Yo,Yn,ZT⟩,YP,⟨ZP,ZY⟩,⟨Ym,Yf,ZR⟩⟩)=(ZO.nd ⟨⟨⟨ua,ui⟩,⟨uq,uj⟩,⟨u1a,u1c,u1l⟩,⟨u2a,u2c,u2l⟩⟩,Zq,Zu,ZF,Zx,ZN,ZC,ZA,Zw,Zr,Zy,Zp,Zz,⟨Zt,Zs,Zl⟩,ZE,ZG⟩,[]):=(does8 hk).trans (congrArg (fun x=>(x,([]:List Snd))) ((bye_yes h2 (show (Xl (ZL.tb ⟨⟨Za,Zb⟩,⟨Zc,Zh⟩,⟨Zj,Zi,Zg⟩,⟨Zf,Ze,Zd⟩⟩)).addr=ZV by rw [hfi];assumption) (show 0<ZR.length by omega)).trans hv1.symm))
     refine ⟨_,M3,[(bw,rowO (ZQ.segs ⟨⟨⟨⟨ua,ui⟩,⟨uq,uj⟩,⟨u1a,u1c,u1l⟩,⟨u2a,u2c,u2l⟩⟩,Zq,Zu,ZF,Zx,ZN,ZC,ZA,Zw,Zr,Zy,Zp,Zz,⟨Zt,Zs,Zl⟩,ZE,ZG⟩,⟨none,0,[]⟩⟩) 68)],rfl,((hm1.trans hm2).trans hm3),hw.c,rfl,⟨⟨⟨ua,ui⟩,⟨uq,uj⟩,⟨u1a,u1c,u1l⟩,⟨u2a,u2c,u2l⟩⟩,Zq,Zu,ZF,Zx,ZN,ZC,ZA,Zw,Zr,Zy,Zp,Zz,⟨Zt,Zs,Zl⟩,ZE,ZG⟩,⟨none,0,[]⟩,rfl,?_,?_,⟨oku,((Ys.mono hm1).mono hm2).mono hm3⟩,SlK.nil,fun y hy=>by cases hy⟩
     ·rw [h3] <;> rfl
     ·rw [h3] <;> rfl
    ·replace hc4:=dF hc4
     refine Yv ?_
     refine Ya (.inl rfl) (.nil) (fun w hw=>?_)
     have h2:ZO.nd ⟨⟨⟨wa,wi⟩,⟨wq,wj⟩,⟨w1a,w1c,w1l⟩,⟨w2a,w2c,w2l⟩⟩,Zq,Zu,ZF,Zx,ZN,ZC,ZA,Zw,Zr,Zy,Zp,Zz,⟨Zt,Zs,Zl⟩,ZE,ZG⟩={ ZO.nd ⟨⟨⟨Za,Zb⟩,⟨Zc,Zh⟩,⟨Zj,Zi,Zg⟩,⟨Zf,Ze,Zd⟩⟩,Zq,Zu,ZF,Zx,ZN,ZC,ZA,Zw,Zr,Zy,Zp,Zz,⟨Zt,Zs,Zl⟩,ZE,ZG⟩ with table:=byeT (ZO.nd ⟨⟨⟨Za,Zb⟩,⟨Zc,Zh⟩,⟨Zj,Zi,Zg⟩,⟨Zf,Ze,Zd⟩⟩,Zq,Zu,ZF,Zx,ZN,ZC,ZA,Zw,Zr,Zy,Zp,Zz,⟨Zt,Zs,Zl⟩,ZE,ZG⟩) (ZM.lt ⟨Yk,⟨ZV,YB⟩,YY,l_id,⟨Yo,Yn,ZT⟩,YP,⟨ZP,ZY⟩,⟨Ym,Yf,ZR⟩⟩) }:=by
      unfold byeT
      rw [if_pos (show (ZO.nd ⟨⟨⟨Za,Zb⟩,⟨Zc,Zh⟩,⟨Zj,Zi,Zg⟩,⟨Zf,Ze,Zd⟩⟩,Zq,Zu,ZF,Zx,ZN,ZC,ZA,Zw,Zr,Zy,Zp,Zz,⟨Zt,Zs,Zl⟩,ZE,ZG⟩).table.pred.addr=(ZM.lt ⟨Yk,⟨ZV,YB⟩,YY,l_id,⟨Yo,Yn,ZT⟩,YP,⟨ZP,ZY⟩,⟨Ym,Yf,ZR⟩⟩).frm.addr from (show Zc=ZV by assumption)),show Wg (ZO.nd ⟨⟨⟨Za,Zb⟩,⟨Zc,Zh⟩,⟨Zj,Zi,Zg⟩,⟨Zf,Ze,Zd⟩⟩,Zq,Zu,ZF,Zx,ZN,ZC,ZA,Zw,Zr,Zy,Zp,Zz,⟨Zt,Zs,Zl⟩,ZE,ZG⟩).table (ZM.lt ⟨Yk,⟨ZV,YB⟩,YY,l_id,⟨Yo,Yn,ZT⟩,YP,⟨ZP,ZY⟩,⟨Ym,Yf,ZR⟩⟩).frm.addr=_ from hot.symm,show VC (ZL.tb ⟨⟨oa,oi⟩,⟨oq,oj⟩,⟨o1a,o1c,o1l⟩,⟨o2a,o2c,o2l⟩⟩) (ZM.lt ⟨Yk,⟨ZV,YB⟩,YY,l_id,⟨Yo,Yn,ZT⟩,YP,⟨ZP,ZY⟩,⟨Ym,Yf,ZR⟩⟩).peer=_ from hol.symm];rfl
     have h3:XU (ZO.nd ⟨⟨⟨Za,Zb⟩,⟨Zc,Zh⟩,⟨Zj,Zi,Zg⟩,⟨Zf,Ze,Zd⟩⟩,Zq,Zu,ZF,Zx,ZN,ZC,ZA,Zw,Zr,Zy,Zp,Zz,⟨Zt,Zs,Zl⟩,ZE,ZG⟩) (ZM.lt ⟨Yk,⟨ZV,YB⟩,YY,l_id,⟨Yo,Yn,ZT⟩,YP,⟨ZP,ZY⟩,⟨Ym,Yf,ZR⟩⟩)=(ZO.nd ⟨⟨⟨wa,wi⟩,⟨wq,wj⟩,⟨w1a,w1c,w1l⟩,⟨w2a,w2c,w2l⟩⟩,Zq,Zu,ZF,Zx,ZN,ZC,ZA,Zw,Zr,Zy,Zp,Zz,⟨Zt,Zs,Zl⟩,ZE,ZG⟩,[]):=(does8 hk).trans (congrArg (fun x=>(x,([]:List Snd))) (bye_no h2 (fun q1 q2=>(by
      replace q1:(Xl (ZL.tb ⟨⟨Za,Zb⟩,⟨Zc,Zh⟩,⟨Zj,Zi,Zg⟩,⟨Zf,Ze,Zd⟩⟩)).addr=ZV:=q1
      replace q2:0<ZR.length:=q2
      rw [hfi] at q1
      (exfalso;omega)))))
     refine ⟨_,M2,[(bw,rowO (ZQ.segs ⟨⟨⟨⟨wa,wi⟩,⟨wq,wj⟩,⟨w1a,w1c,w1l⟩,⟨w2a,w2c,w2l⟩⟩,Zq,Zu,ZF,Zx,ZN,ZC,ZA,Zw,Zr,Zy,Zp,Zz,⟨Zt,Zs,Zl⟩,ZE,ZG⟩,⟨none,0,[]⟩⟩) 68)],rfl,(hm1.trans hm2),hw.c,rfl,⟨⟨⟨wa,wi⟩,⟨wq,wj⟩,⟨w1a,w1c,w1l⟩,⟨w2a,w2c,w2l⟩⟩,Zq,Zu,ZF,Zx,ZN,ZC,ZA,Zw,Zr,Zy,Zp,Zz,⟨Zt,Zs,Zl⟩,ZE,ZG⟩,⟨none,0,[]⟩,rfl,?_,?_,⟨okl,((Ys.mono hm1).mono hm2)⟩,SlK.nil,fun y hy=>by cases hy⟩
     ·rw [h3] <;> rfl
     ·rw [h3] <;> rfl
   ·replace hc3:=dF hc3
    iterate 4 refine ZU ?_
    refine ZK ?_;refine Zo (Zn (Y_pk [60,3,0] ?_));refine Ws rfl ?_;refine Yv ?_
    refine Ya (.inl rfl) (.nil) (fun w hw=>?_)
    have h2:ZO.nd ⟨⟨⟨wa,wi⟩,⟨wq,wj⟩,⟨w1a,w1c,w1l⟩,⟨w2a,w2c,w2l⟩⟩,Zq,Zu,ZF,Zx,ZN,ZC,ZA,Zw,Zr,Zy,Zp,Zz,⟨Zt,Zs,Zl⟩,ZE,ZG⟩={ ZO.nd ⟨⟨⟨Za,Zb⟩,⟨Zc,Zh⟩,⟨Zj,Zi,Zg⟩,⟨Zf,Ze,Zd⟩⟩,Zq,Zu,ZF,Zx,ZN,ZC,ZA,Zw,Zr,Zy,Zp,Zz,⟨Zt,Zs,Zl⟩,ZE,ZG⟩ with table:=byeT (ZO.nd ⟨⟨⟨Za,Zb⟩,⟨Zc,Zh⟩,⟨Zj,Zi,Zg⟩,⟨Zf,Ze,Zd⟩⟩,Zq,Zu,ZF,Zx,ZN,ZC,ZA,Zw,Zr,Zy,Zp,Zz,⟨Zt,Zs,Zl⟩,ZE,ZG⟩) (ZM.lt ⟨Yk,⟨ZV,YB⟩,YY,l_id,⟨Yo,Yn,ZT⟩,YP,⟨ZP,ZY⟩,⟨Ym,Yf,ZR⟩⟩) }:=by
     unfold byeT
     rw [if_pos (show (ZO.nd ⟨⟨⟨Za,Zb⟩,⟨Zc,Zh⟩,⟨Zj,Zi,Zg⟩,⟨Zf,Ze,Zd⟩⟩,Zq,Zu,ZF,Zx,ZN,ZC,ZA,Zw,Zr,Zy,Zp,Zz,⟨Zt,Zs,Zl⟩,ZE,ZG⟩).table.pred.addr=(ZM.lt ⟨Yk,⟨ZV,YB⟩,YY,l_id,⟨Yo,Yn,ZT⟩,YP,⟨ZP,ZY⟩,⟨Ym,Yf,ZR⟩⟩).frm.addr from (show Zc=ZV by assumption)),show Wg (ZO.nd ⟨⟨⟨Za,Zb⟩,⟨Zc,Zh⟩,⟨Zj,Zi,Zg⟩,⟨Zf,Ze,Zd⟩⟩,Zq,Zu,ZF,Zx,ZN,ZC,ZA,Zw,Zr,Zy,Zp,Zz,⟨Zt,Zs,Zl⟩,ZE,ZG⟩).table (ZM.lt ⟨Yk,⟨ZV,YB⟩,YY,l_id,⟨Yo,Yn,ZT⟩,YP,⟨ZP,ZY⟩,⟨Ym,Yf,ZR⟩⟩).frm.addr=_ from hot.symm,show VC (ZL.tb ⟨⟨oa,oi⟩,⟨oq,oj⟩,⟨o1a,o1c,o1l⟩,⟨o2a,o2c,o2l⟩⟩) (ZM.lt ⟨Yk,⟨ZV,YB⟩,YY,l_id,⟨Yo,Yn,ZT⟩,YP,⟨ZP,ZY⟩,⟨Ym,Yf,ZR⟩⟩).peer=_ from hol.symm];rfl
    have h3:XU (ZO.nd ⟨⟨⟨Za,Zb⟩,⟨Zc,Zh⟩,⟨Zj,Zi,Zg⟩,⟨Zf,Ze,Zd⟩⟩,Zq,Zu,ZF,Zx,ZN,ZC,ZA,Zw,Zr,Zy,Zp,Zz,⟨Zt,Zs,Zl⟩,ZE,ZG⟩) (ZM.lt ⟨Yk,⟨ZV,YB⟩,YY,l_id,⟨Yo,Yn,ZT⟩,YP,⟨ZP,ZY⟩,⟨Ym,Yf,ZR⟩⟩)=(ZO.nd ⟨⟨⟨wa,wi⟩,⟨wq,wj⟩,⟨w1a,w1c,w1l⟩,⟨w2a,w2c,w2l⟩⟩,Zq,Zu,ZF,Zx,ZN,ZC,ZA,Zw,Zr,Zy,Zp,Zz,⟨Zt,Zs,Zl⟩,ZE,ZG⟩,[]):=(does8 hk).trans (congrArg (fun x=>(x,([]:List Snd))) (bye_no h2 (fun q1 q2=>(by
     replace q1:(Xl (ZL.tb ⟨⟨Za,Zb⟩,⟨Zc,Zh⟩,⟨Zj,Zi,Zg⟩,⟨Zf,Ze,Zd⟩⟩)).addr=ZV:=q1
     replace q2:0<ZR.length:=q2
     rw [hfi] at q1
     contradiction))))
    refine ⟨_,M2,[(bw,rowO (ZQ.segs ⟨⟨⟨⟨wa,wi⟩,⟨wq,wj⟩,⟨w1a,w1c,w1l⟩,⟨w2a,w2c,w2l⟩⟩,Zq,Zu,ZF,Zx,ZN,ZC,ZA,Zw,Zr,Zy,Zp,Zz,⟨Zt,Zs,Zl⟩,ZE,ZG⟩,⟨none,0,[]⟩⟩) 68)],rfl,(hm1.trans hm2),hw.c,rfl,⟨⟨⟨wa,wi⟩,⟨wq,wj⟩,⟨w1a,w1c,w1l⟩,⟨w2a,w2c,w2l⟩⟩,Zq,Zu,ZF,Zx,ZN,ZC,ZA,Zw,Zr,Zy,Zp,Zz,⟨Zt,Zs,Zl⟩,ZE,ZG⟩,⟨none,0,[]⟩,rfl,?_,?_,⟨okl,((Ys.mono hm1).mono hm2)⟩,SlK.nil,fun y hy=>by cases hy⟩
    ·rw [h3] <;> rfl
    ·rw [h3] <;> rfl
  ·replace hc2:=dF hc2
   refine Yv (Zn (Y_pk [5,3,0] ?_));refine ZI ?_
   have s_lp9:=XX.mono hm1
   refine Zm (l:=[0,1,2,3,4,5,6]) rfl ?_
   iterate 2 refine Zv ?_
   refine Yh 55 rfl (fun hc5=>?_) (fun hc5=>?_)
   ·replace hc5:=dT hc5
    refine Zk F.foff44_7 ?_;refine ZH F.lay26 ?_;refine YX F.elem26 ?_;refine Yz ?_;refine ZK ?_;refine Zo (Zn (Y_pk [60,3,0] ?_))
    refine Yx rfl (fun hc6=>?_) (fun hc6=>?_)
    ·replace hc6:=dT hc6
     refine C_region_anyW (l:=[0,1,2,3,4,5,6,7,8]) [8] #[0,0,2,6,14,0,32,96,255] (_) rfl (by kernel_rfl) (by kernel_rfl) St.drawn (fun _ h=>h) ?_;refine Zv ?_;refine Zk F.foff44_7 ?_;refine ZH F.lay26 ?_;refine YR rfl rfl rfl rfl F.elem26 (by rfl) (by (simp;omega)) (by exact SlM.plain (by assumption) (by (simp;omega))) rfl ?_;refine Xo rfl rfl rfl (by assumption) (by exact XW (by (simp;omega))) F.lay25 rfl rfl rfl ?_;refine Zk F.foff44_7 ?_;refine ZH F.lay26 ?_;refine WG rfl rfl rfl (.some (k:=1) rfl rfl) .none .none F.elem26 (by simp only [Option.getD_none];omega) (by simp only [Option.getD_some,Option.getD_none];omega) (by simp only [Option.getD_some,Option.getD_none];omega) (by simp) (pieceV_drop (l:=ZR) (k:=1)) rfl ?_;refine Ww rfl rfl rfl F.ok82 rfl (adopt_ok M1 bw oa oi oq oj o1a o2a Zt o1c o2c Zs o1l o2l Zl Zq Zu ZF Zx ZN ZC ZA Zw Zr Zy Zp Zz ZE ZG okt ZR[0] ⟨_,_,ZR.drop 1⟩ ((Xh.mono hm1).drop 1 (by omega))) (by repeat first|exact Rem.here _|exact Rem.two|apply Rem.skip|apply Rem.over) (YA rfl) ?_
     rintro _ M3 hs3 hm3 ⟨rfl,⟨⟨ua,ui⟩,⟨uq,uj⟩,⟨u1a,u1c,u1l⟩,⟨u2a,u2c,u2l⟩⟩,rfl,oku,hv1⟩
     simp only [List.append_assoc,List.cons_append,List.nil_append]
     refine Zo (Wk ?_)
     refine Ya (.inl rfl) (.nil) (fun w hw=>?_)
     have h2:ZO.nd ⟨⟨⟨oa,oi⟩,⟨oq,oj⟩,⟨o1a,o1c,o1l⟩,⟨o2a,o2c,o2l⟩⟩,Zq,Zu,ZF,Zx,ZN,ZC,ZA,Zw,Zr,Zy,Zp,Zz,⟨Zt,Zs,Zl⟩,ZE,ZG⟩={ ZO.nd ⟨⟨⟨Za,Zb⟩,⟨Zc,Zh⟩,⟨Zj,Zi,Zg⟩,⟨Zf,Ze,Zd⟩⟩,Zq,Zu,ZF,Zx,ZN,ZC,ZA,Zw,Zr,Zy,Zp,Zz,⟨Zt,Zs,Zl⟩,ZE,ZG⟩ with table:=byeT (ZO.nd ⟨⟨⟨Za,Zb⟩,⟨Zc,Zh⟩,⟨Zj,Zi,Zg⟩,⟨Zf,Ze,Zd⟩⟩,Zq,Zu,ZF,Zx,ZN,ZC,ZA,Zw,Zr,Zy,Zp,Zz,⟨Zt,Zs,Zl⟩,ZE,ZG⟩) (ZM.lt ⟨Yk,⟨ZV,YB⟩,YY,l_id,⟨Yo,Yn,ZT⟩,YP,⟨ZP,ZY⟩,⟨Ym,Yf,ZR⟩⟩) }:=by
      unfold byeT
      rw [if_neg (show ¬(ZO.nd ⟨⟨⟨Za,Zb⟩,⟨Zc,Zh⟩,⟨Zj,Zi,Zg⟩,⟨Zf,Ze,Zd⟩⟩,Zq,Zu,ZF,Zx,ZN,ZC,ZA,Zw,Zr,Zy,Zp,Zz,⟨Zt,Zs,Zl⟩,ZE,ZG⟩).table.pred.addr=(ZM.lt ⟨Yk,⟨ZV,YB⟩,YY,l_id,⟨Yo,Yn,ZT⟩,YP,⟨ZP,ZY⟩,⟨Ym,Yf,ZR⟩⟩).frm.addr from (show ¬Zc=ZV by assumption)),show Wg (ZO.nd ⟨⟨⟨Za,Zb⟩,⟨Zc,Zh⟩,⟨Zj,Zi,Zg⟩,⟨Zf,Ze,Zd⟩⟩,Zq,Zu,ZF,Zx,ZN,ZC,ZA,Zw,Zr,Zy,Zp,Zz,⟨Zt,Zs,Zl⟩,ZE,ZG⟩).table (ZM.lt ⟨Yk,⟨ZV,YB⟩,YY,l_id,⟨Yo,Yn,ZT⟩,YP,⟨ZP,ZY⟩,⟨Ym,Yf,ZR⟩⟩).frm.addr=_ from hot.symm];rfl
     have h3:XU (ZO.nd ⟨⟨⟨Za,Zb⟩,⟨Zc,Zh⟩,⟨Zj,Zi,Zg⟩,⟨Zf,Ze,Zd⟩⟩,Zq,Zu,ZF,Zx,ZN,ZC,ZA,Zw,Zr,Zy,Zp,Zz,⟨Zt,Zs,Zl⟩,ZE,ZG⟩) (ZM.lt ⟨Yk,⟨ZV,YB⟩,YY,l_id,⟨Yo,Yn,ZT⟩,YP,⟨ZP,ZY⟩,⟨Ym,Yf,ZR⟩⟩)=(ZO.nd ⟨⟨⟨ua,ui⟩,⟨uq,uj⟩,⟨u1a,u1c,u1l⟩,⟨u2a,u2c,u2l⟩⟩,Zq,Zu,ZF,Zx,ZN,ZC,ZA,Zw,Zr,Zy,Zp,Zz,⟨Zt,Zs,Zl⟩,ZE,ZG⟩,[]):=(does8 hk).trans (congrArg (fun x=>(x,([]:List Snd))) ((bye_yes h2 (show (Xl (ZL.tb ⟨⟨Za,Zb⟩,⟨Zc,Zh⟩,⟨Zj,Zi,Zg⟩,⟨Zf,Ze,Zd⟩⟩)).addr=ZV by rw [hfi];assumption) (show 0<ZR.length by omega)).trans hv1.symm))
     refine ⟨_,M3,[(bw,rowO (ZQ.segs ⟨⟨⟨⟨ua,ui⟩,⟨uq,uj⟩,⟨u1a,u1c,u1l⟩,⟨u2a,u2c,u2l⟩⟩,Zq,Zu,ZF,Zx,ZN,ZC,ZA,Zw,Zr,Zy,Zp,Zz,⟨Zt,Zs,Zl⟩,ZE,ZG⟩,⟨none,0,[]⟩⟩) 68)],rfl,(hm1.trans hm3),hw.c,rfl,⟨⟨⟨ua,ui⟩,⟨uq,uj⟩,⟨u1a,u1c,u1l⟩,⟨u2a,u2c,u2l⟩⟩,Zq,Zu,ZF,Zx,ZN,ZC,ZA,Zw,Zr,Zy,Zp,Zz,⟨Zt,Zs,Zl⟩,ZE,ZG⟩,⟨none,0,[]⟩,rfl,?_,?_,⟨oku,(Ys.mono hm1).mono hm3⟩,SlK.nil,fun y hy=>by cases hy⟩
     ·rw [h3] <;> rfl
     ·rw [h3] <;> rfl
    ·replace hc6:=dF hc6
     refine Yv ?_
     refine Ya (.inl rfl) (.nil) (fun w hw=>?_)
     have h2:ZO.nd ⟨⟨⟨oa,oi⟩,⟨oq,oj⟩,⟨o1a,o1c,o1l⟩,⟨o2a,o2c,o2l⟩⟩,Zq,Zu,ZF,Zx,ZN,ZC,ZA,Zw,Zr,Zy,Zp,Zz,⟨Zt,Zs,Zl⟩,ZE,ZG⟩={ ZO.nd ⟨⟨⟨Za,Zb⟩,⟨Zc,Zh⟩,⟨Zj,Zi,Zg⟩,⟨Zf,Ze,Zd⟩⟩,Zq,Zu,ZF,Zx,ZN,ZC,ZA,Zw,Zr,Zy,Zp,Zz,⟨Zt,Zs,Zl⟩,ZE,ZG⟩ with table:=byeT (ZO.nd ⟨⟨⟨Za,Zb⟩,⟨Zc,Zh⟩,⟨Zj,Zi,Zg⟩,⟨Zf,Ze,Zd⟩⟩,Zq,Zu,ZF,Zx,ZN,ZC,ZA,Zw,Zr,Zy,Zp,Zz,⟨Zt,Zs,Zl⟩,ZE,ZG⟩) (ZM.lt ⟨Yk,⟨ZV,YB⟩,YY,l_id,⟨Yo,Yn,ZT⟩,YP,⟨ZP,ZY⟩,⟨Ym,Yf,ZR⟩⟩) }:=by
      unfold byeT
      rw [if_neg (show ¬(ZO.nd ⟨⟨⟨Za,Zb⟩,⟨Zc,Zh⟩,⟨Zj,Zi,Zg⟩,⟨Zf,Ze,Zd⟩⟩,Zq,Zu,ZF,Zx,ZN,ZC,ZA,Zw,Zr,Zy,Zp,Zz,⟨Zt,Zs,Zl⟩,ZE,ZG⟩).table.pred.addr=(ZM.lt ⟨Yk,⟨ZV,YB⟩,YY,l_id,⟨Yo,Yn,ZT⟩,YP,⟨ZP,ZY⟩,⟨Ym,Yf,ZR⟩⟩).frm.addr from (show ¬Zc=ZV by assumption)),show Wg (ZO.nd ⟨⟨⟨Za,Zb⟩,⟨Zc,Zh⟩,⟨Zj,Zi,Zg⟩,⟨Zf,Ze,Zd⟩⟩,Zq,Zu,ZF,Zx,ZN,ZC,ZA,Zw,Zr,Zy,Zp,Zz,⟨Zt,Zs,Zl⟩,ZE,ZG⟩).table (ZM.lt ⟨Yk,⟨ZV,YB⟩,YY,l_id,⟨Yo,Yn,ZT⟩,YP,⟨ZP,ZY⟩,⟨Ym,Yf,ZR⟩⟩).frm.addr=_ from hot.symm];rfl
     have h3:XU (ZO.nd ⟨⟨⟨Za,Zb⟩,⟨Zc,Zh⟩,⟨Zj,Zi,Zg⟩,⟨Zf,Ze,Zd⟩⟩,Zq,Zu,ZF,Zx,ZN,ZC,ZA,Zw,Zr,Zy,Zp,Zz,⟨Zt,Zs,Zl⟩,ZE,ZG⟩) (ZM.lt ⟨Yk,⟨ZV,YB⟩,YY,l_id,⟨Yo,Yn,ZT⟩,YP,⟨ZP,ZY⟩,⟨Ym,Yf,ZR⟩⟩)=(ZO.nd ⟨⟨⟨oa,oi⟩,⟨oq,oj⟩,⟨o1a,o1c,o1l⟩,⟨o2a,o2c,o2l⟩⟩,Zq,Zu,ZF,Zx,ZN,ZC,ZA,Zw,Zr,Zy,Zp,Zz,⟨Zt,Zs,Zl⟩,ZE,ZG⟩,[]):=(does8 hk).trans (congrArg (fun x=>(x,([]:List Snd))) (bye_no h2 (fun q1 q2=>(by
      replace q1:(Xl (ZL.tb ⟨⟨Za,Zb⟩,⟨Zc,Zh⟩,⟨Zj,Zi,Zg⟩,⟨Zf,Ze,Zd⟩⟩)).addr=ZV:=q1
      replace q2:0<ZR.length:=q2
      rw [hfi] at q1
      (exfalso;omega)))))
     refine ⟨_,M1,[(bw,rowO (ZQ.segs ⟨⟨⟨⟨oa,oi⟩,⟨oq,oj⟩,⟨o1a,o1c,o1l⟩,⟨o2a,o2c,o2l⟩⟩,Zq,Zu,ZF,Zx,ZN,ZC,ZA,Zw,Zr,Zy,Zp,Zz,⟨Zt,Zs,Zl⟩,ZE,ZG⟩,⟨none,0,[]⟩⟩) 68)],rfl,hm1,hw.c,rfl,⟨⟨⟨oa,oi⟩,⟨oq,oj⟩,⟨o1a,o1c,o1l⟩,⟨o2a,o2c,o2l⟩⟩,Zq,Zu,ZF,Zx,ZN,ZC,ZA,Zw,Zr,Zy,Zp,Zz,⟨Zt,Zs,Zl⟩,ZE,ZG⟩,⟨none,0,[]⟩,rfl,?_,?_,⟨okt,(Ys.mono hm1)⟩,SlK.nil,fun y hy=>by cases hy⟩
     ·rw [h3] <;> rfl
     ·rw [h3] <;> rfl
   ·replace hc5:=dF hc5
    iterate 4 refine ZU ?_
    refine ZK ?_;refine Zo (Zn (Y_pk [60,3,0] ?_));refine Ws rfl ?_;refine Yv ?_
    refine Ya (.inl rfl) (.nil) (fun w hw=>?_)
    have h2:ZO.nd ⟨⟨⟨oa,oi⟩,⟨oq,oj⟩,⟨o1a,o1c,o1l⟩,⟨o2a,o2c,o2l⟩⟩,Zq,Zu,ZF,Zx,ZN,ZC,ZA,Zw,Zr,Zy,Zp,Zz,⟨Zt,Zs,Zl⟩,ZE,ZG⟩={ ZO.nd ⟨⟨⟨Za,Zb⟩,⟨Zc,Zh⟩,⟨Zj,Zi,Zg⟩,⟨Zf,Ze,Zd⟩⟩,Zq,Zu,ZF,Zx,ZN,ZC,ZA,Zw,Zr,Zy,Zp,Zz,⟨Zt,Zs,Zl⟩,ZE,ZG⟩ with table:=byeT (ZO.nd ⟨⟨⟨Za,Zb⟩,⟨Zc,Zh⟩,⟨Zj,Zi,Zg⟩,⟨Zf,Ze,Zd⟩⟩,Zq,Zu,ZF,Zx,ZN,ZC,ZA,Zw,Zr,Zy,Zp,Zz,⟨Zt,Zs,Zl⟩,ZE,ZG⟩) (ZM.lt ⟨Yk,⟨ZV,YB⟩,YY,l_id,⟨Yo,Yn,ZT⟩,YP,⟨ZP,ZY⟩,⟨Ym,Yf,ZR⟩⟩) }:=by
     unfold byeT
     rw [if_neg (show ¬(ZO.nd ⟨⟨⟨Za,Zb⟩,⟨Zc,Zh⟩,⟨Zj,Zi,Zg⟩,⟨Zf,Ze,Zd⟩⟩,Zq,Zu,ZF,Zx,ZN,ZC,ZA,Zw,Zr,Zy,Zp,Zz,⟨Zt,Zs,Zl⟩,ZE,ZG⟩).table.pred.addr=(ZM.lt ⟨Yk,⟨ZV,YB⟩,YY,l_id,⟨Yo,Yn,ZT⟩,YP,⟨ZP,ZY⟩,⟨Ym,Yf,ZR⟩⟩).frm.addr from (show ¬Zc=ZV by assumption)),show Wg (ZO.nd ⟨⟨⟨Za,Zb⟩,⟨Zc,Zh⟩,⟨Zj,Zi,Zg⟩,⟨Zf,Ze,Zd⟩⟩,Zq,Zu,ZF,Zx,ZN,ZC,ZA,Zw,Zr,Zy,Zp,Zz,⟨Zt,Zs,Zl⟩,ZE,ZG⟩).table (ZM.lt ⟨Yk,⟨ZV,YB⟩,YY,l_id,⟨Yo,Yn,ZT⟩,YP,⟨ZP,ZY⟩,⟨Ym,Yf,ZR⟩⟩).frm.addr=_ from hot.symm];rfl
    have h3:XU (ZO.nd ⟨⟨⟨Za,Zb⟩,⟨Zc,Zh⟩,⟨Zj,Zi,Zg⟩,⟨Zf,Ze,Zd⟩⟩,Zq,Zu,ZF,Zx,ZN,ZC,ZA,Zw,Zr,Zy,Zp,Zz,⟨Zt,Zs,Zl⟩,ZE,ZG⟩) (ZM.lt ⟨Yk,⟨ZV,YB⟩,YY,l_id,⟨Yo,Yn,ZT⟩,YP,⟨ZP,ZY⟩,⟨Ym,Yf,ZR⟩⟩)=(ZO.nd ⟨⟨⟨oa,oi⟩,⟨oq,oj⟩,⟨o1a,o1c,o1l⟩,⟨o2a,o2c,o2l⟩⟩,Zq,Zu,ZF,Zx,ZN,ZC,ZA,Zw,Zr,Zy,Zp,Zz,⟨Zt,Zs,Zl⟩,ZE,ZG⟩,[]):=(does8 hk).trans (congrArg (fun x=>(x,([]:List Snd))) (bye_no h2 (fun q1 q2=>(by
     replace q1:(Xl (ZL.tb ⟨⟨Za,Zb⟩,⟨Zc,Zh⟩,⟨Zj,Zi,Zg⟩,⟨Zf,Ze,Zd⟩⟩)).addr=ZV:=q1
     replace q2:0<ZR.length:=q2
     rw [hfi] at q1
     contradiction))))
    refine ⟨_,M1,[(bw,rowO (ZQ.segs ⟨⟨⟨⟨oa,oi⟩,⟨oq,oj⟩,⟨o1a,o1c,o1l⟩,⟨o2a,o2c,o2l⟩⟩,Zq,Zu,ZF,Zx,ZN,ZC,ZA,Zw,Zr,Zy,Zp,Zz,⟨Zt,Zs,Zl⟩,ZE,ZG⟩,⟨none,0,[]⟩⟩) 68)],rfl,hm1,hw.c,rfl,⟨⟨⟨oa,oi⟩,⟨oq,oj⟩,⟨o1a,o1c,o1l⟩,⟨o2a,o2c,o2l⟩⟩,Zq,Zu,ZF,Zx,ZN,ZC,ZA,Zw,Zr,Zy,Zp,Zz,⟨Zt,Zs,Zl⟩,ZE,ZG⟩,⟨none,0,[]⟩,rfl,?_,?_,⟨okt,(Ys.mono hm1)⟩,SlK.nil,fun y hy=>by cases hy⟩
    ·rw [h3] <;> rfl
    ·rw [h3] <;> rfl
end Go.Proofs.YtajmnjefajknoaaGreat
namespace Go.Proofs.YtajmnjefajknoaaGreat
open Go.Esp
theorem F.map78:mapOf Tryz.prog 78=some (3,76):=by kernel_rfl
theorem F.ok30:okFn Tryz.prog 30=true:=by kernel_rfl
theorem F.ok45:okFn Tryz.prog 45=true:=by kernel_rfl
theorem F.ok46:okFn Tryz.prog 46=true:=by kernel_rfl
theorem F.ok47:okFn Tryz.prog 47=true:=by kernel_rfl
theorem F.ok48:okFn Tryz.prog 48=true:=by kernel_rfl
theorem F.ok49:okFn Tryz.prog 49=true:=by kernel_rfl
theorem F.ok50:okFn Tryz.prog 50=true:=by kernel_rfl
theorem F.ok51:okFn Tryz.prog 51=true:=by kernel_rfl
theorem F.ok52:okFn Tryz.prog 52=true:=by kernel_rfl
theorem F.zero76:Wa Tryz.prog 76=some (.nilFunc):=by kernel_rfl
theorem Take_yes (M:Mem) (n:ZO) (l:ZM) (hn0:ZO.ok M n) (hl1:ZM.ok M l) (kind:Int) (fid:FuncId) (hkk:l.kind=kind) (hl:(WJ (Vr (Vr (Vr (Vr (Vr (Vr (Vr (Vr [] 1 (.func (.func 45) #[] #[])) 2 (.func (.func 46) #[] #[])) 3 (.func (.func 47) #[] #[])) 4 (.func (.func 48) #[] #[])) 5 (.func (.func 49) #[] #[])) 6 (.func (.func 50) #[] #[])) 7 (.func (.func 51) #[] #[])) 8 (.func (.func 52) #[] #[])) l.kind).getD .nilFunc=.func (.func fid) #[] #[]) (hok:okFn Tryz.prog fid=true)
   (hc:∀ (M:Mem) (bw:Nat) (Za:Int) (Zb:Plc) (Zc:Int) (Zh:Plc) (Zj Zf Zt:Option Addr) (Zi Ze Zs:Nat) (Zg Zd:List ZD) (Zl:List Int) (Zq:Int) (Zu:Bool) (ZF Zx ZN ZC ZA Zw Zr Zy Zp:Int) (Zz:Plc) (ZE ZG:Int) (Yj:ZL.ok M ⟨⟨Za,Zb⟩,⟨Zc,Zh⟩,⟨Zj,Zi,Zg⟩,⟨Zf,Ze,Zd⟩⟩) (Ys:SlK M (oneI .i64) 1 ⟨Zt,Zs,Zl⟩) (hbig:Zg.length≤40∧Zd.length≤200) (hLa:Zl.length≤1000) (hh:0≤ZE∧ZE≤1000) (l:ZM) (hl0:ZM.ok M l) (hLp:l.peers.l.length≤1000) (hk:l.kind=kind),Fh Tryz.prog fid [.pointer (some ⟨bw,0,none⟩),l.enc] M [(bw,rowO (ZQ.segs ⟨⟨⟨⟨Za,Zb⟩,⟨Zc,Zh⟩,⟨Zj,Zi,Zg⟩,⟨Zf,Ze,Zd⟩⟩,Zq,Zu,ZF,Zx,ZN,ZC,ZA,Zw,Zr,Zy,Zp,Zz,⟨Zt,Zs,Zl⟩,ZE,ZG⟩,⟨none,0,[]⟩⟩) 68)] (fun M' v Hout=>v=.tuple #[]∧WkF bw 68 M' Hout (XU (ZO.nd ⟨⟨⟨Za,Zb⟩,⟨Zc,Zh⟩,⟨Zj,Zi,Zg⟩,⟨Zf,Ze,Zd⟩⟩,Zq,Zu,ZF,Zx,ZN,ZC,ZA,Zw,Zr,Zy,Zp,Zz,⟨Zt,Zs,Zl⟩,ZE,ZG⟩) l.lt))):Esp.Fn Tryz.prog 17 [n.enc,l.enc] M (fun M' v=>NtE M' v (VQ n.nd l.lt)):=by
  obtain ⟨⟨⟨Za,Zb⟩,⟨Zc,Zh⟩,⟨Zj,Zi,Zg⟩,⟨Zf,Ze,Zd⟩⟩,Zq,Zu,ZF,Zx,ZN,ZC,ZA,Zw,Zr,Zy,Zp,Zz,⟨Zt,Zs,Zl⟩,ZE,ZG⟩:=n
  obtain ⟨Yk,⟨ZV,YB⟩,YY,l_id,⟨Yo,Yn,ZT⟩,YP,⟨ZP,ZY⟩,⟨Ym,Yf,ZR⟩⟩:=l
  have Yj:ZL.ok M ⟨⟨Za,Zb⟩,⟨Zc,Zh⟩,⟨Zj,Zi,Zg⟩,⟨Zf,Ze,Zd⟩⟩:=hn0.h0
  have YQ:SlK M ZD.segs 21 ⟨Zj,Zi,Zg⟩:=hn0.h0.h0
  have s_n_table_succ:SlM M Zj (Zg.map ZD.segs) 21:=YQ.h1
  have n_n_table_succ:(Zg.map ZD.segs).length=Zg.length:=List.length_map ..
  have m_n_table_succ:Zg.length≤9223372036854775807:=YQ.h2
  have c_n_table_succ:Zg.length≤Zi:=YQ.h3
  have YD:SlK M ZD.segs 21 ⟨Zf,Ze,Zd⟩:=hn0.h0.h1
  have s_n_table_fingers:SlM M Zf (Zd.map ZD.segs) 21:=YD.h1
  have n_n_table_fingers:(Zd.map ZD.segs).length=Zd.length:=List.length_map ..
  have m_n_table_fingers:Zd.length≤9223372036854775807:=YD.h2
  have c_n_table_fingers:Zd.length≤Ze:=YD.h3
  have Ys:SlK M (oneI .i64) 1 ⟨Zt,Zs,Zl⟩:=hn0.h1
  have WY:SlM M Zt (Zl.map (oneI .i64)) 1:=Ys.h1
  have n_n_avoid:(Zl.map (oneI .i64)).length=Zl.length:=List.length_map ..
  have Vc:Zl.length≤9223372036854775807:=Ys.h2
  have c_n_avoid:Zl.length≤Zs:=Ys.h3
  have XT:SlK M (oneI .i64) 1 ⟨Yo,Yn,ZT⟩:=hl1.h0
  have s_l_avoid:SlM M Yo (ZT.map (oneI .i64)) 1:=XT.h1
  have n_l_avoid:(ZT.map (oneI .i64)).length=ZT.length:=List.length_map ..
  have m_l_avoid:ZT.length≤9223372036854775807:=XT.h2
  have c_l_avoid:ZT.length≤Yn:=XT.h3
  have Xh:SlK M ZD.segs 21 ⟨Ym,Yf,ZR⟩:=hl1.h1
  have XX:SlM M Ym (ZR.map ZD.segs) 21:=Xh.h1
  have Vb:(ZR.map ZD.segs).length=ZR.length:=List.length_map ..
  have m_l_peers:ZR.length≤9223372036854775807:=Xh.h2
  have Vd:ZR.length≤Yf:=Xh.h3
  subst hkk
  simp only at hl
  refine Wu Tryz.func17 rfl Tryz.ntmps17 rfl ?_;intro H
  refine ZI (Zm (l:=[0,1,2,3,4]) rfl ?_)
  refine Xk ?_;intro b1
  refine Xk ?_;intro b2
  refine YT F.zero32 ?_;intro b3
  iterate 2 refine ZB ?_
  refine Zo (Zn (Y_pk [6,5,4,3,2] ?_))
  iterate 2 refine ZI ?_
  refine Zm (l:=[0,1,2,3,4,5,6,7]) rfl ?_;refine ZH F.lay32 ?_;refine X_fs rfl rfl F.ok27 rfl (IsN_ok _ ⟨⟨⟨Za,Zb⟩,⟨Zc,Zh⟩,⟨Zj,Zi,Zg⟩,⟨Zf,Ze,Zd⟩⟩,Zq,Zu,ZF,Zx,ZN,ZC,ZA,Zw,Zr,Zy,Zp,Zz,⟨Zt,Zs,Zl⟩,ZE,ZG⟩ hn0) rfl ?_
  rintro _ rfl
  refine Xx ?_;refine Zv ?_
  refine Yh 12 rfl (fun hc4=>?_) (fun hc4=>?_)
  ·replace hc4:=nT hc4
   iterate 3 refine ZU ?_
   refine ZK ?_;refine Zo (Zn (Y_pk [16,6,5,4,3,2] ?_));refine Xe rfl ?_;refine ZI (Zm (l:=[0,1,2,3]) rfl ?_);refine Xg rfl rfl F.bld32 (.nil) rfl rfl ?_;refine Xy F.lay32 ?_
   iterate 2 refine ZB ?_
   refine Zo (Zn (Y_pk [6,5,4,3,2] ?_));refine Yg (YG ?_)
   refine Ya (.inr rfl) (.cell rfl (by repeat first|exact List.Mem.head _|refine List.Mem.tail _ ?_|refine List.mem_append_right _ ?_) F.lay32 rfl rfl (.tmp rfl (.tmp rfl .nil))) (fun w hw=>?_)
   refine ⟨_,M,rfl,Mem.le.refl M,hw.c,ZO.zero,⟨none,0,[]⟩,?_,?_,?_,ZO.zero_ok _,SlK.nil,fun y hy=>by cases hy⟩
   ·rw [Vi (by (rintro ⟨q1,q2⟩;first|contradiction|(simp_all;done)))];rfl
   ·rw [Vi (by (rintro ⟨q1,q2⟩;first|contradiction|(simp_all;done)))];rfl
   ·rw [Vi (by (rintro ⟨q1,q2⟩;first|contradiction|(simp_all;done)))];rfl
  ·replace hc4:=nF hc4
   refine ZH F.lay44 ?_;refine X_fs rfl rfl F.ok30 rfl (IsL_ok _ ⟨Yk,⟨ZV,YB⟩,YY,l_id,⟨Yo,Yn,ZT⟩,YP,⟨ZP,ZY⟩,⟨Ym,Yf,ZR⟩⟩ hl1) rfl ?_
   rintro _ rfl
   refine Xx ?_;refine ZK ?_;refine Zo (Zn (Y_pk [16,6,5,4,3,2] ?_))
   refine Yx rfl (fun hc5=>?_) (fun hc5=>?_)
   ·replace hc5:=nT hc5
    refine ZI (Zm (l:=[0,1,2,3]) rfl ?_);refine Xg rfl rfl F.bld32 (.nil) rfl rfl ?_;refine Xy F.lay32 ?_
    iterate 2 refine ZB ?_
    refine Zo (Zn (Y_pk [6,5,4,3,2] ?_));refine Yg (YG ?_)
    refine Ya (.inr rfl) (.cell rfl (by repeat first|exact List.Mem.head _|refine List.Mem.tail _ ?_|refine List.mem_append_right _ ?_) F.lay32 rfl rfl (.tmp rfl (.tmp rfl .nil))) (fun w hw=>?_)
    refine ⟨_,M,rfl,Mem.le.refl M,hw.c,ZO.zero,⟨none,0,[]⟩,?_,?_,?_,ZO.zero_ok _,SlK.nil,fun y hy=>by cases hy⟩
    ·rw [Vi (by (rintro ⟨q1,q2⟩;first|contradiction|(simp_all;done)))];rfl
    ·rw [Vi (by (rintro ⟨q1,q2⟩;first|contradiction|(simp_all;done)))];rfl
    ·rw [Vi (by (rintro ⟨q1,q2⟩;first|contradiction|(simp_all;done)))];rfl
   ·replace hc5:=nF hc5
    refine Yv (Zn (Y_pk [6,5,4,3,2] ?_));refine ZI ?_
    have hnd9:IsNd (ZO.nd ⟨⟨⟨Za,Zb⟩,⟨Zc,Zh⟩,⟨Zj,Zi,Zg⟩,⟨Zf,Ze,Zd⟩⟩,Zq,Zu,ZF,Zx,ZN,ZC,ZA,Zw,Zr,Zy,Zp,Zz,⟨Zt,Zs,Zl⟩,ZE,ZG⟩):=by assumption
    have hlt9:IsLt (ZM.lt ⟨Yk,⟨ZV,YB⟩,YY,l_id,⟨Yo,Yn,ZT⟩,YP,⟨ZP,ZY⟩,⟨Ym,Yf,ZR⟩⟩):=by assumption
    have htb9:IsTb (ZL.tb ⟨⟨Za,Zb⟩,⟨Zc,Zh⟩,⟨Zj,Zi,Zg⟩,⟨Zf,Ze,Zd⟩⟩):=hnd9.1
    have hav9:Zl.length≤16:=hnd9.2.2.2.2.1
    have hho9:0≤ZE∧ZE≤64:=hnd9.2.2.2.2.2.1
    have hpl9:ZR.length≤8:=hlt9.2.2.2.1
    refine Zm (l:=[0,1,2,3,4,5,6,7,8,9,10]) rfl ?_
    refine X_makeMap rfl rfl rfl ?_;intro b6
    refine Wy rfl rfl rfl rfl rfl F.map78 imO_nil (by repeat first|exact List.Mem.head _|refine List.Mem.tail _ ?_|refine List.mem_append_right _ ?_) ?_;intro o7 him8;refine ⟨_,(by repeat first|exact Upd.head|apply Upd.tail|apply Upd.over),?_⟩
    refine Wy rfl rfl rfl rfl rfl F.map78 him8 (by repeat first|exact List.Mem.head _|refine List.Mem.tail _ ?_|refine List.mem_append_right _ ?_) ?_;intro o9 him10;refine ⟨_,(by repeat first|exact Upd.head|apply Upd.tail|apply Upd.over),?_⟩
    refine Wy rfl rfl rfl rfl rfl F.map78 him10 (by repeat first|exact List.Mem.head _|refine List.Mem.tail _ ?_|refine List.mem_append_right _ ?_) ?_;intro o11 him12;refine ⟨_,(by repeat first|exact Upd.head|apply Upd.tail|apply Upd.over),?_⟩
    refine Wy rfl rfl rfl rfl rfl F.map78 him12 (by repeat first|exact List.Mem.head _|refine List.Mem.tail _ ?_|refine List.mem_append_right _ ?_) ?_;intro o13 him14;refine ⟨_,(by repeat first|exact Upd.head|apply Upd.tail|apply Upd.over),?_⟩
    refine Wy rfl rfl rfl rfl rfl F.map78 him14 (by repeat first|exact List.Mem.head _|refine List.Mem.tail _ ?_|refine List.mem_append_right _ ?_) ?_;intro o15 him16;refine ⟨_,(by repeat first|exact Upd.head|apply Upd.tail|apply Upd.over),?_⟩
    refine Wy rfl rfl rfl rfl rfl F.map78 him16 (by repeat first|exact List.Mem.head _|refine List.Mem.tail _ ?_|refine List.mem_append_right _ ?_) ?_;intro o17 him18;refine ⟨_,(by repeat first|exact Upd.head|apply Upd.tail|apply Upd.over),?_⟩
    refine Wy rfl rfl rfl rfl rfl F.map78 him18 (by repeat first|exact List.Mem.head _|refine List.Mem.tail _ ?_|refine List.mem_append_right _ ?_) ?_;intro o19 him20;refine ⟨_,(by repeat first|exact Upd.head|apply Upd.tail|apply Upd.over),?_⟩
    refine Wy rfl rfl rfl rfl rfl F.map78 him20 (by repeat first|exact List.Mem.head _|refine List.Mem.tail _ ?_|refine List.mem_append_right _ ?_) ?_;intro o21 him22;refine ⟨_,(by repeat first|exact Upd.head|apply Upd.tail|apply Upd.over),?_⟩
    refine Zv ?_;refine ZB ?_;refine Zo (Zn (Y_pk [7,6,5,4,3,2] ?_));refine ZI (Zm (l:=[0,1,2]) rfl ?_);refine ZH F.lay32 ?_;refine VU rfl rfl F.ok36 rfl (of_ok M _ _ _ _ _ _ _ _ _ _ _ _ _ _ _ _ _ _ _ _ _ _ _ _ _ _ _ Ys (by omega)) (by repeat first|exact Rem.here _|exact Rem.two|apply Rem.skip|apply Rem.over) (fun _ _ _ hm hw=>(hw.lower (by exact hm)).c) (YA rfl) ?_
    rintro v1 M1 hs1 hm1 ⟨hM1,bw,s_a,s_c,hs9,rfl,rfl,ho9⟩;subst M1
    simp only [List.append_assoc,List.cons_append,List.nil_append]
    refine ZB ?_;refine Zo (Zn (Y_pk [8,7,6,5,4,3] ?_))
    iterate 2 refine ZI ?_
    refine C_frz ho9 (by repeat first|exact Rem.here _|exact Rem.two|apply Rem.skip|apply Rem.over) (fun M2 hM2 k9=>?_)
    refine Zm (l:=[0,1,2,3]) rfl ?_;refine Zv ?_;refine Zk F.foff44_1 ?_;refine ZH F.lay25 ?_;refine X_fo rfl rfl F.ok53 rfl (wother_ok M2 bw Za Zb Zc Zh Zj Zf s_a Zi Ze s_c Zg Zd Zl Zq Zu ZF Zx ZN ZC ZA Zw Zr Zy Zp Zz ZE ZG ⟨ZV,YB⟩) (by repeat first|exact Rem.here _|exact Rem.two|apply Rem.skip|apply Rem.over) (YA rfl) ?_
    rintro _ MZ _ ⟨hMZ,rfl⟩;subst MZ
    refine Zo (Zn (Y_pk [25,8,7,6,5,4,3] ?_))
    refine Yx rfl (fun hc23=>?_) (fun hc23=>?_)
    ·replace hc23:=dT hc23
     refine Xq (l:=[0,1,2,3,4,5,6]) [6] rfl ?_;refine Zv ?_;refine Zk F.foff44_0 ?_;refine ZH F.lay3 ?_;refine X_lookup rfl rfl rfl rfl F.map78 F.zero76 (by repeat first|exact List.Mem.head _|refine List.Mem.tail _ ?_|refine List.mem_append_right _ ?_) him22 (show (WJ (Vr (Vr (Vr (Vr (Vr (Vr (Vr (Vr [] 1 (.func (.func 45) #[] #[])) 2 (.func (.func 46) #[] #[])) 3 (.func (.func 47) #[] #[])) 4 (.func (.func 48) #[] #[])) 5 (.func (.func 49) #[] #[])) 6 (.func (.func 50) #[] #[])) 7 (.func (.func 51) #[] #[])) 8 (.func (.func 52) #[] #[])) Yk).getD .nilFunc=.func (.func fid) #[] #[] from hl) rfl ?_;refine Zv ?_;refine ZH F.lay44 ?_;refine X_fhVW (caps:=[]) rfl rfl rfl rfl hok rfl rfl (hc M2 bw Za Zb Zc Zh Zj Zf s_a Zi Ze s_c Zg Zd Zl Zq Zu ZF Zx ZN ZC ZA Zw Zr Zy Zp Zz ZE ZG (Yj.mono hM2) k9 (isTb_small (t:=⟨⟨Za,Zb⟩,⟨Zc,Zh⟩,⟨Zj,Zi,Zg⟩,⟨Zf,Ze,Zd⟩⟩) htb9) (by omega) (by omega) ⟨Yk,⟨ZV,YB⟩,YY,l_id,⟨Yo,Yn,ZT⟩,YP,⟨ZP,ZY⟩,⟨Ym,Yf,ZR⟩⟩ (hl1.mono hM2) (by show ZR.length≤1000;omega) rfl) (by repeat first|exact Rem.here _|exact Rem.two|apply Rem.skip|apply Rem.over) (YA rfl) ?_
     rintro _ M3 hs3 hm3 ⟨rfl,⟨⟨⟨YK,YU⟩,⟨YL,YV⟩,⟨Xb,Xa,YZ⟩,⟨YO,YN,YM⟩⟩,XI,XO,Wt,XH,WI,XY,XJ,XE,Xs,XF,Xt,XG,⟨Xw,Xv,Xu⟩,Wp,Wo⟩,⟨o_a,o_c,o_l⟩,rfl,hv1,hv2,okv,oko,okq⟩
     simp only [List.append_assoc,List.cons_append,List.nil_append]
     refine Zo (Wk ?_);refine Zn (Y_pk [8,6,5,4] ?_);refine ZI (C_region_anyWR (l:=[0,1,2,3,4,5,6,7,8,9,10]) (Hin:=[(b3,_)]) [8] #[0,1,3,7,0,16,48,112,15,511,1023] (by repeat first|exact Rem.here _|exact Rem.two|apply Rem.skip|apply Rem.over) rfl (by kernel_rfl) (by kernel_rfl) ?_);refine Zv ?_;refine ZS ?_;refine Zk F.foff68_0 ?_;refine ZH F.lay32 ?_;refine Zv ?_;refine ZS ?_;refine Zk F.foff68_1 ?_;refine ZH F.lay35 ?_;refine X_storeE rfl rfl rfl rfl rfl (by constructor) (by ((try simp only [cat,List.cons_append,List.nil_append,List.append_nil]);(repeat (first|exact XA|refine XC ?_|(refine YF ?_ ?_;rfl)));done)) (by repeat first|exact Upd.head|apply Upd.tail|apply Upd.over) F.lay32 (by simp only [ZD.segs,ZL.segs,ZO.segs,ZM.segs,Yd.segs,ZQ.segs,YI.segs,ZX.segs,cat,List.append_eq,List.cons_append,List.nil_append,List.append_nil,Segs.len,Seg.len,Yq]) (put_all (m:=78) rfl (by simp only [ZD.segs,ZL.segs,ZO.segs,ZM.segs,Yd.segs,ZQ.segs,YI.segs,ZX.segs,cat,List.append_eq,List.cons_append,List.nil_append,List.append_nil,Segs.len,Seg.len,Yq]) (by simp only [ZD.segs,ZL.segs,ZO.segs,ZM.segs,Yd.segs,ZQ.segs,YI.segs,ZX.segs,cat,List.append_eq,List.cons_append,List.nil_append,List.append_nil,Segs.len,Seg.len,Yq])) (fun _ h=>h.c) ?_
     iterate 2 refine ZB ?_
     refine Zo (Wk ?_);refine Zn (Y_pk [6,5,4] ?_);refine Yg ?_
     refine Ya (.inr rfl) (.cell rfl (by repeat first|exact List.Mem.head _|refine List.Mem.tail _ ?_|refine List.mem_append_right _ ?_) F.lay32 rfl rfl (.tmp rfl (.tmp rfl .nil))) (fun w hw=>?_)
     have h3:=take_does (n:=(ZO.nd ⟨⟨⟨Za,Zb⟩,⟨Zc,Zh⟩,⟨Zj,Zi,Zg⟩,⟨Zf,Ze,Zd⟩⟩,Zq,Zu,ZF,Zx,ZN,ZC,ZA,Zw,Zr,Zy,Zp,Zz,⟨Zt,Zs,Zl⟩,ZE,ZG⟩)) (l:=(ZM.lt ⟨Yk,⟨ZV,YB⟩,YY,l_id,⟨Yo,Yn,ZT⟩,YP,⟨ZP,ZY⟩,⟨Ym,Yf,ZR⟩⟩)) hnd9 hlt9 (show Xr ⟨Za,Zb⟩ ⟨ZV,YB⟩ by assumption)
     exact ⟨_,M3,rfl,hM2.trans hm3,hw.c,⟨⟨⟨YK,YU⟩,⟨YL,YV⟩,⟨Xb,Xa,YZ⟩,⟨YO,YN,YM⟩⟩,XI,XO,Wt,XH,WI,XY,XJ,XE,Xs,XF,Xt,XG,⟨Xw,Xv,Xu⟩,Wp,Wo⟩,⟨o_a,o_c,o_l⟩,by rw [h3] <;> rfl,by rw [h3];exact hv1,by rw [h3];exact hv2,okv,oko,okq⟩
    ·replace hc23:=dF hc23
     refine Yv (Zn (Y_pk [8,6,5,4] ?_));refine ZI (C_region_anyWR (l:=[0,1,2,3,4,5,6,7,8,9,10]) (Hin:=[(b3,_)]) [8] #[0,1,3,7,0,16,48,112,15,511,1023] (by repeat first|exact Rem.here _|exact Rem.two|apply Rem.skip|apply Rem.over) rfl (by kernel_rfl) (by kernel_rfl) ?_);refine Zv ?_;refine ZS ?_;refine Zk F.foff68_0 ?_;refine ZH F.lay32 ?_;refine Zv ?_;refine ZS ?_;refine Zk F.foff68_1 ?_;refine ZH F.lay35 ?_;refine X_storeE rfl rfl rfl rfl rfl (by constructor) (by ((try simp only [cat,List.cons_append,List.nil_append,List.append_nil]);(repeat (first|exact XA|refine XC ?_|(refine YF ?_ ?_;rfl)));done)) (by repeat first|exact Upd.head|apply Upd.tail|apply Upd.over) F.lay32 (by simp only [ZD.segs,ZL.segs,ZO.segs,ZM.segs,Yd.segs,ZQ.segs,YI.segs,ZX.segs,cat,List.append_eq,List.cons_append,List.nil_append,List.append_nil,Segs.len,Seg.len,Yq]) (put_all (m:=78) rfl (by simp only [ZD.segs,ZL.segs,ZO.segs,ZM.segs,Yd.segs,ZQ.segs,YI.segs,ZX.segs,cat,List.append_eq,List.cons_append,List.nil_append,List.append_nil,Segs.len,Seg.len,Yq]) (by simp only [ZD.segs,ZL.segs,ZO.segs,ZM.segs,Yd.segs,ZQ.segs,YI.segs,ZX.segs,cat,List.append_eq,List.cons_append,List.nil_append,List.append_nil,Segs.len,Seg.len,Yq])) (fun _ h=>h.c) ?_
     iterate 2 refine ZB ?_
     refine Zo (Wk ?_);refine Zn (Y_pk [6,5,4] ?_);refine Yg ?_
     refine Ya (.inr rfl) (.cell rfl (by repeat first|exact List.Mem.head _|refine List.Mem.tail _ ?_|refine List.mem_append_right _ ?_) F.lay32 rfl rfl (.tmp rfl (.tmp rfl .nil))) (fun w hw=>?_)
     have h3:=take_not (n:=(ZO.nd ⟨⟨⟨Za,Zb⟩,⟨Zc,Zh⟩,⟨Zj,Zi,Zg⟩,⟨Zf,Ze,Zd⟩⟩,Zq,Zu,ZF,Zx,ZN,ZC,ZA,Zw,Zr,Zy,Zp,Zz,⟨Zt,Zs,Zl⟩,ZE,ZG⟩)) (l:=(ZM.lt ⟨Yk,⟨ZV,YB⟩,YY,l_id,⟨Yo,Yn,ZT⟩,YP,⟨ZP,ZY⟩,⟨Ym,Yf,ZR⟩⟩)) hnd9 hlt9 (show ¬Xr ⟨Za,Zb⟩ ⟨ZV,YB⟩ by assumption)
     exact ⟨_,M2,rfl,hM2,hw.c,⟨⟨⟨Za,Zb⟩,⟨Zc,Zh⟩,⟨Zj,Zi,Zg⟩,⟨Zf,Ze,Zd⟩⟩,Zq,Zu,ZF,Zx,ZN,ZC,ZA,Zw,Zr,Zy,Zp,Zz,⟨s_a,s_c,Zl⟩,ZE,ZG⟩,⟨none,0,[]⟩,by rw [h3] <;> rfl,by rw [h3] <;> rfl,by rw [h3] <;> rfl,⟨Yj.mono hM2,k9⟩,SlK.nil,fun y hy=>by cases hy⟩
theorem Take_no (M:Mem) (n:ZO) (l:ZM) (hn0:ZO.ok M n) (hl1:ZM.ok M l) (hk:¬IsLt l.lt):Esp.Fn Tryz.prog 17 [n.enc,l.enc] M (fun M' v=>NtE M' v (VQ n.nd l.lt)):=by
  obtain ⟨⟨⟨Za,Zb⟩,⟨Zc,Zh⟩,⟨Zj,Zi,Zg⟩,⟨Zf,Ze,Zd⟩⟩,Zq,Zu,ZF,Zx,ZN,ZC,ZA,Zw,Zr,Zy,Zp,Zz,⟨Zt,Zs,Zl⟩,ZE,ZG⟩:=n
  obtain ⟨Yk,⟨ZV,YB⟩,YY,l_id,⟨Yo,Yn,ZT⟩,YP,⟨ZP,ZY⟩,⟨Ym,Yf,ZR⟩⟩:=l
  have Yj:ZL.ok M ⟨⟨Za,Zb⟩,⟨Zc,Zh⟩,⟨Zj,Zi,Zg⟩,⟨Zf,Ze,Zd⟩⟩:=hn0.h0
  have YQ:SlK M ZD.segs 21 ⟨Zj,Zi,Zg⟩:=hn0.h0.h0
  have s_n_table_succ:SlM M Zj (Zg.map ZD.segs) 21:=YQ.h1
  have n_n_table_succ:(Zg.map ZD.segs).length=Zg.length:=List.length_map ..
  have m_n_table_succ:Zg.length≤9223372036854775807:=YQ.h2
  have c_n_table_succ:Zg.length≤Zi:=YQ.h3
  have YD:SlK M ZD.segs 21 ⟨Zf,Ze,Zd⟩:=hn0.h0.h1
  have s_n_table_fingers:SlM M Zf (Zd.map ZD.segs) 21:=YD.h1
  have n_n_table_fingers:(Zd.map ZD.segs).length=Zd.length:=List.length_map ..
  have m_n_table_fingers:Zd.length≤9223372036854775807:=YD.h2
  have c_n_table_fingers:Zd.length≤Ze:=YD.h3
  have Ys:SlK M (oneI .i64) 1 ⟨Zt,Zs,Zl⟩:=hn0.h1
  have WY:SlM M Zt (Zl.map (oneI .i64)) 1:=Ys.h1
  have n_n_avoid:(Zl.map (oneI .i64)).length=Zl.length:=List.length_map ..
  have Vc:Zl.length≤9223372036854775807:=Ys.h2
  have c_n_avoid:Zl.length≤Zs:=Ys.h3
  have XT:SlK M (oneI .i64) 1 ⟨Yo,Yn,ZT⟩:=hl1.h0
  have s_l_avoid:SlM M Yo (ZT.map (oneI .i64)) 1:=XT.h1
  have n_l_avoid:(ZT.map (oneI .i64)).length=ZT.length:=List.length_map ..
  have m_l_avoid:ZT.length≤9223372036854775807:=XT.h2
  have c_l_avoid:ZT.length≤Yn:=XT.h3
  have Xh:SlK M ZD.segs 21 ⟨Ym,Yf,ZR⟩:=hl1.h1
  have XX:SlM M Ym (ZR.map ZD.segs) 21:=Xh.h1
  have Vb:(ZR.map ZD.segs).length=ZR.length:=List.length_map ..
  have m_l_peers:ZR.length≤9223372036854775807:=Xh.h2
  have Vd:ZR.length≤Yf:=Xh.h3
  refine Wu Tryz.func17 rfl Tryz.ntmps17 rfl ?_;intro H
  refine ZI (Zm (l:=[0,1,2,3,4]) rfl ?_)
  refine Xk ?_;intro b1
  refine Xk ?_;intro b2
  refine YT F.zero32 ?_;intro b3
  iterate 2 refine ZB ?_
  refine Zo (Zn (Y_pk [6,5,4,3,2] ?_))
  iterate 2 refine ZI ?_
  refine Zm (l:=[0,1,2,3,4,5,6,7]) rfl ?_;refine ZH F.lay32 ?_;refine X_fs rfl rfl F.ok27 rfl (IsN_ok _ ⟨⟨⟨Za,Zb⟩,⟨Zc,Zh⟩,⟨Zj,Zi,Zg⟩,⟨Zf,Ze,Zd⟩⟩,Zq,Zu,ZF,Zx,ZN,ZC,ZA,Zw,Zr,Zy,Zp,Zz,⟨Zt,Zs,Zl⟩,ZE,ZG⟩ hn0) rfl ?_
  rintro _ rfl
  refine Xx ?_;refine Zv ?_
  refine Yh 12 rfl (fun hc4=>?_) (fun hc4=>?_)
  ·replace hc4:=nT hc4
   iterate 3 refine ZU ?_
   refine ZK ?_;refine Zo (Zn (Y_pk [16,6,5,4,3,2] ?_));refine Xe rfl ?_;refine ZI (Zm (l:=[0,1,2,3]) rfl ?_);refine Xg rfl rfl F.bld32 (.nil) rfl rfl ?_;refine Xy F.lay32 ?_
   iterate 2 refine ZB ?_
   refine Zo (Zn (Y_pk [6,5,4,3,2] ?_));refine Yg (YG ?_)
   refine Ya (.inr rfl) (.cell rfl (by repeat first|exact List.Mem.head _|refine List.Mem.tail _ ?_|refine List.mem_append_right _ ?_) F.lay32 rfl rfl (.tmp rfl (.tmp rfl .nil))) (fun w hw=>?_)
   refine ⟨_,M,rfl,Mem.le.refl M,hw.c,ZO.zero,⟨none,0,[]⟩,?_,?_,?_,ZO.zero_ok _,SlK.nil,fun y hy=>by cases hy⟩
   ·rw [Vi (by (rintro ⟨q1,q2⟩;first|contradiction|(simp_all;done)))];rfl
   ·rw [Vi (by (rintro ⟨q1,q2⟩;first|contradiction|(simp_all;done)))];rfl
   ·rw [Vi (by (rintro ⟨q1,q2⟩;first|contradiction|(simp_all;done)))];rfl
  ·replace hc4:=nF hc4
   refine ZH F.lay44 ?_;refine X_fs rfl rfl F.ok30 rfl (IsL_ok _ ⟨Yk,⟨ZV,YB⟩,YY,l_id,⟨Yo,Yn,ZT⟩,YP,⟨ZP,ZY⟩,⟨Ym,Yf,ZR⟩⟩ hl1) rfl ?_
   rintro _ rfl
   refine Xx ?_;refine ZK ?_;refine Zo (Zn (Y_pk [16,6,5,4,3,2] ?_))
   refine Yx rfl (fun hc5=>?_) (fun hc5=>?_)
   ·replace hc5:=nT hc5
    refine ZI (Zm (l:=[0,1,2,3]) rfl ?_);refine Xg rfl rfl F.bld32 (.nil) rfl rfl ?_;refine Xy F.lay32 ?_
    iterate 2 refine ZB ?_
    refine Zo (Zn (Y_pk [6,5,4,3,2] ?_));refine Yg (YG ?_)
    refine Ya (.inr rfl) (.cell rfl (by repeat first|exact List.Mem.head _|refine List.Mem.tail _ ?_|refine List.mem_append_right _ ?_) F.lay32 rfl rfl (.tmp rfl (.tmp rfl .nil))) (fun w hw=>?_)
    refine ⟨_,M,rfl,Mem.le.refl M,hw.c,ZO.zero,⟨none,0,[]⟩,?_,?_,?_,ZO.zero_ok _,SlK.nil,fun y hy=>by cases hy⟩
    ·rw [Vi (by (rintro ⟨q1,q2⟩;first|contradiction|(simp_all;done)))];rfl
    ·rw [Vi (by (rintro ⟨q1,q2⟩;first|contradiction|(simp_all;done)))];rfl
    ·rw [Vi (by (rintro ⟨q1,q2⟩;first|contradiction|(simp_all;done)))];rfl
   ·replace hc5:=nF hc5
    (exfalso;first|(simp [eqX] at hc5;done)|(simp_all;done))
theorem Take_ok (M:Mem) (n:ZO) (l:ZM) (hn0:ZO.ok M n) (hl1:ZM.ok M l):Esp.Fn Tryz.prog 17 [n.enc,l.enc] M (fun M' v=>NtE M' v (VQ n.nd l.lt)):=by
  by_cases h:IsLt l.lt
  ·have h8:1≤l.kind∧l.kind≤8:=h.1
   have h9:l.kind=1∨l.kind=2∨l.kind=3∨l.kind=4∨l.kind=5∨l.kind=6∨l.kind=7∨l.kind=8:=by omega
   rcases h9 with hk|hk|hk|hk|hk|hk|hk|hk
   ·exact Take_yes M n l hn0 hl1 1 45 hk (by rw [hk];rfl) F.ok45 (fun M bw Za Zb Zc Zh Zj Zf Zt Zi Ze Zs Zg Zd Zl Zq Zu ZF Zx ZN ZC ZA Zw Zr Zy Zp Zz ZE ZG Yj Ys hbig hLa hh l hl0 hLp hk=>find_ok M bw Za Zb Zc Zh Zj Zf Zt Zi Ze Zs Zg Zd Zl Zq Zu ZF Zx ZN ZC ZA Zw Zr Zy Zp Zz ZE ZG Yj Ys hbig hLa hh l hl0 hLp hk)
   ·exact Take_yes M n l hn0 hl1 2 46 hk (by rw [hk];rfl) F.ok46 (fun M bw Za Zb Zc Zh Zj Zf Zt Zi Ze Zs Zg Zd Zl Zq Zu ZF Zx ZN ZC ZA Zw Zr Zy Zp Zz ZE ZG Yj Ys hbig hLa hh l hl0 hLp hk=>found_ok M bw Za Zb Zc Zh Zj Zf Zt Zi Ze Zs Zg Zd Zl Zq Zu ZF Zx ZN ZC ZA Zw Zr Zy Zp Zz ZE ZG Yj Ys hbig hLa hh l hl0 hLp hk)
   ·exact Take_yes M n l hn0 hl1 3 47 hk (by rw [hk];rfl) F.ok47 (fun M bw Za Zb Zc Zh Zj Zf Zt Zi Ze Zs Zg Zd Zl Zq Zu ZF Zx ZN ZC ZA Zw Zr Zy Zp Zz ZE ZG Yj Ys hbig hLa hh l hl0 hLp hk=>ask_ok M bw Za Zb Zc Zh Zj Zf Zt Zi Ze Zs Zg Zd Zl Zq Zu ZF Zx ZN ZC ZA Zw Zr Zy Zp Zz ZE ZG Yj Ys hbig hLa hh l hl0 hLp hk)
   ·exact Take_yes M n l hn0 hl1 4 48 hk (by rw [hk];rfl) F.ok48 (fun M bw Za Zb Zc Zh Zj Zf Zt Zi Ze Zs Zg Zd Zl Zq Zu ZF Zx ZN ZC ZA Zw Zr Zy Zp Zz ZE ZG Yj Ys hbig hLa hh l hl0 hLp hk=>told_ok M bw Za Zb Zc Zh Zj Zf Zt Zi Ze Zs Zg Zd Zl Zq Zu ZF Zx ZN ZC ZA Zw Zr Zy Zp Zz ZE ZG Yj Ys hbig hLa hh l hl0 hLp hk)
   ·exact Take_yes M n l hn0 hl1 5 49 hk (by rw [hk];rfl) F.ok49 (fun M bw Za Zb Zc Zh Zj Zf Zt Zi Ze Zs Zg Zd Zl Zq Zu ZF Zx ZN ZC ZA Zw Zr Zy Zp Zz ZE ZG Yj Ys hbig hLa hh l hl0 hLp hk=>notify_ok M bw Za Zb Zc Zh Zj Zf Zt Zi Ze Zs Zg Zd Zl Zq Zu ZF Zx ZN ZC ZA Zw Zr Zy Zp Zz ZE ZG Yj Ys hbig hLa hh l hl0 hLp hk)
   ·exact Take_yes M n l hn0 hl1 6 50 hk (by rw [hk];rfl) F.ok50 (fun M bw Za Zb Zc Zh Zj Zf Zt Zi Ze Zs Zg Zd Zl Zq Zu ZF Zx ZN ZC ZA Zw Zr Zy Zp Zz ZE ZG Yj Ys hbig hLa hh l hl0 hLp hk=>ping_ok M bw Za Zb Zc Zh Zj Zf Zt Zi Ze Zs Zg Zd Zl Zq Zu ZF Zx ZN ZC ZA Zw Zr Zy Zp Zz ZE ZG Yj Ys hbig hLa hh l hl0 hLp hk)
   ·exact Take_yes M n l hn0 hl1 7 51 hk (by rw [hk];rfl) F.ok51 (fun M bw Za Zb Zc Zh Zj Zf Zt Zi Ze Zs Zg Zd Zl Zq Zu ZF Zx ZN ZC ZA Zw Zr Zy Zp Zz ZE ZG Yj Ys hbig hLa hh l hl0 hLp hk=>pong_ok M bw Za Zb Zc Zh Zj Zf Zt Zi Ze Zs Zg Zd Zl Zq Zu ZF Zx ZN ZC ZA Zw Zr Zy Zp Zz ZE ZG Yj Ys hbig hLa hh l hl0 hLp hk)
   ·exact Take_yes M n l hn0 hl1 8 52 hk (by rw [hk];rfl) F.ok52 (fun M bw Za Zb Zc Zh Zj Zf Zt Zi Ze Zs Zg Zd Zl Zq Zu ZF Zx ZN ZC ZA Zw Zr Zy Zp Zz ZE ZG Yj Ys hbig hLa hh l hl0 hLp hk=>bye_ok M bw Za Zb Zc Zh Zj Zf Zt Zi Ze Zs Zg Zd Zl Zq Zu ZF Zx ZN ZC ZA Zw Zr Zy Zp Zz ZE ZG Yj Ys hbig hLa hh l hl0 hLp hk)
  ·exact Take_no M n l hn0 hl1 h
end Go.Proofs.YtajmnjefajknoaaGreat
