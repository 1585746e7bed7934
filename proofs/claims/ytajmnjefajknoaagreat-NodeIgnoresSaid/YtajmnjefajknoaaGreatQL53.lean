/-
  Texts of this claim, one behind the other: NodeM, Frz, NodeT, Rules8, Rules10, Rules11, Rules12, Core2, Rules13, Rules14, NodeY, Rules9, N1, N2, N3, N4, NodeH, N5, N6, N7, N8, N9, N10, N11, NodeF, N12, N13, N14, N15, N16, NodeW, E1, E2, E3, E4, E5, E6, E7.
-/
import Derived.Test.YtajmnjefajknoaaGreatQL52
import Derived.Scope
import Derived.Lib.AppendZeros
import Derived.Lib.AppendZerosOnto
import Derived.Lib.Overlaps
import Derived.Laws.BytesArg
set_option linter.unusedSimpArgs false
set_option linter.unusedVariables false
set_option linter.unnecessarySimpa false
namespace Go.Esp
structure Lt where
  kind:Int
  frm:ZE
  req:Int
  id:Plc
  avoid:List Int
  done:Bool
  peer:ZE
  peers:List ZE
  deriving DecidableEq
structure Snd where
  to:Int
  letter:Lt
  deriving DecidableEq
structure Nd where
  table:Tb
  copies:Int
  joined:Bool
  boot:Int
  cursor:Int
  req:Int
  askTo:Int
  askReq:Int
  pingTo:Int
  pingReq:Int
  findTo:Int
  findReq:Int
  findID:Plc
  avoid:List Int
  hops:Int
  turn:Int
  deriving DecidableEq
def Nd.zero:Nd:=⟨Tb.zero,0,false,0,0,0,0,0,0,0,0,0,0,[],0,0⟩
def Lt.zero:Lt:=⟨0,⟨0,0⟩,0,0,[],false,⟨0,0⟩,[]⟩
def Xg (s:ZE) (a:Int):Prop:=(-1≤a∧a≤999)∧a≠s.addr
instance (s:ZE) (a:Int):Decidable (Xg s a):=by unfold Xg;exact inferInstance
def IsNd (n:Nd):Prop :=
  IsTb n.table∧(1≤n.copies∧n.copies≤8)∧(n.joined=true∨n.boot≠-1)∧(0≤n.cursor∧n.cursor≤159)∧n.avoid.length≤16∧(0≤n.hops∧n.hops≤64)∧(0≤n.turn∧n.turn≤999999) ∧
  (Xg n.table.self n.boot∧Xg n.table.self n.askTo∧Xg n.table.self n.pingTo∧Xg n.table.self n.findTo)∧∀ a∈n.avoid,YQ a
instance (n:Nd):Decidable (IsNd n):=by unfold IsNd;exact inferInstance
def Vo (k:Int):Prop:=k=1∨k=2∨k=3∨k=6∨k=7∨k=4
instance (k:Int):Decidable (Vo k):=by unfold Vo;exact inferInstance
def WQ (k:Int):Prop:=k=2∨k=4∨k=8
instance (k:Int):Decidable (WQ k):=by unfold WQ;exact inferInstance
def Wk (k:Int):Prop:=k=4∨k=8
instance (k:Int):Decidable (Wk k):=by unfold Wk;exact inferInstance
def IsLt (l:Lt):Prop :=
  (1≤l.kind∧l.kind≤8)∧YQ l.frm.addr∧l.avoid.length≤16∧l.peers.length≤8∧(l.peer=Xc∨YQ l.peer.addr)∧¬(l.peer=Xc∧l.kind=2) ∧
  (Vo l.kind∨l.req=0)∧(l.kind=1∨l.id=0)∧(l.kind=1∨l.avoid=[])∧(l.kind=2∨l.done=false)∧(WQ l.kind∨l.peer=Xc)∧(Wk l.kind∨l.peers=[]) ∧
  (∀ a∈l.avoid,YQ a)∧∀ p∈l.peers,YQ p.addr
instance (l:Lt):Decidable (IsLt l):=by unfold IsLt Vo WQ Wk;exact inferInstance
def nxR (r:Int):Int:=(r+1) % 18446744073709551616
def lett (n:Nd) (kind req:Int):Lt:=⟨kind,n.table.self,req,0,[],false,Xc,[]⟩
def VZ (self:ZE) (r:Int):Nd×Int:=if YQ self.addr∧1≤r∧r≤8 then (⟨(newT self).1,r,true,-1,0,0,-1,0,-1,0,-1,0,0,[],0,0⟩,0) else (Nd.zero,1)
def joiningN (self:ZE) (r boot:Int):Nd×Int:=if (VZ self r).2=0∧YQ boot∧boot≠self.addr then ({ (VZ self r).1 with joined:=false,boot:=boot },0) else (Nd.zero,1)
def seekN (n:Nd) (to:Int):Nd×List Snd :=
  ({ n with req:=nxR n.req,findTo:=to,findReq:=nxR n.req },[⟨to,{ lett n 1 (nxR n.req) with id:=n.findID,avoid:=n.avoid }⟩])
def shunN (n:Nd) (a:Int):Nd:=if a∈n.avoid∨16≤n.avoid.length then n else { n with avoid:=n.avoid++[a] }
def WG (n:Nd) (first:ZE) (rest:List ZE):Nd:=if (VI n.table first rest n.copies).2=0 then { n with table:=(VI n.table first rest n.copies).1 } else n
def VY (n:Nd) (p:ZE):Nd:=if (Vb n.table n.cursor p).2.2=0 then { n with table:=(Vb n.table n.cursor p).1,cursor:=(Vb n.table n.cursor p).2.1 } else n
def stabN (n:Nd):Nd×List Snd :=
  if n.joined=false then
    let m:=if n.findTo≠-1∧n.findTo≠n.boot then shunN n n.findTo else n
    seekN { m with findID:=m.table.self.id,hops:=0 } m.boot
  else
    let m:=if n.askTo≠-1 then { n with table:=Wi n.table n.askTo,askTo:=-1 } else n
    let m:=if m.table.succ=[]∧m.table.pred≠Xc then WG m m.table.pred [] else m
    if m.table.succ=[] then (m,[])
    else ({ m with req:=nxR m.req,askTo:=(We m.table).addr,askReq:=nxR m.req },[⟨(We m.table).addr,lett m 3 (nxR m.req)⟩])
def fixN (n:Nd):Nd×List Snd :=
  if n.joined=false then (n,[])
  else
    let m:=if n.findTo=-1 then { n with avoid:=[] } else { shunN n n.findTo with table:=Wi n.table n.findTo,findTo:=-1 }
    let id:=m.table.self.id+powP m.cursor.toNat
    if (VV m.table id).2 then (VY m (VV m.table id).1,[])
    else if (WF m.table id m.avoid).2=false then ({ m with cursor:=0 },[])
    else seekN { m with findID:=id,hops:=0 } (WF m.table id m.avoid).1.addr
def checkN (n:Nd):Nd×List Snd :=
  let m:=if n.pingTo≠-1 then { n with table:=Wi n.table n.pingTo,pingTo:=-1 } else n
  match knownT m.table with
  | []=>(m,[])
  | p::l =>
    let a:=(((p::l)[m.turn.toNat % (l.length+1)]?).getD Xc).addr
    ({ m with req:=nxR m.req,pingTo:=a,pingReq:=nxR m.req,turn:=(m.turn+1) % 1000000 },[⟨a,lett m 6 (nxR m.req)⟩])
def VX (n:Nd) (kind:Int):Nd×List Snd×Int :=
  if IsNd n∧1≤kind∧kind≤3 then
    let r:=if kind=1 then stabN n else if kind=2 then fixN n else checkN n
    (r.1,r.2,0)
  else (Nd.zero,[],1)
def findN (n:Nd) (l:Lt):List Snd :=
  if n.joined=false then []
  else
    let d:=VV n.table l.id
    let q:=WF n.table l.id l.avoid
    [⟨l.frm.addr,{ lett n 2 l.req with done:=d.2 || !q.2,peer:=if d.2 || !q.2 then d.1 else q.1 }⟩]
def foundN (n:Nd) (l:Lt):Nd×List Snd :=
  if n.findTo≠l.frm.addr∨n.findReq≠l.req then (n,[])
  else if l.done then
    let m:={ n with findTo:=-1 }
    if n.joined=true∧(Xr n.table.self l.peer∨l.peer=n.table.self) then (VY m l.peer,[])
    else if n.joined=false∧Xr n.table.self l.peer then ({ WG m l.peer [] with joined:=true,cursor:=0,avoid:=[] },[])
    else (m,[])
  else if ¬Xr n.table.self l.peer∨l.peer.addr∈n.avoid∨l.peer.addr=l.frm.addr∨32≤n.hops then ({ n with findTo:=-1 },[])
  else seekN { n with hops:=n.hops+1 } l.peer.addr
def toldN (n:Nd) (l:Lt):Nd×List Snd :=
  if n.askTo≠l.frm.addr∨n.askReq≠l.req then (n,[])
  else
    let m:=WG { n with askTo:=-1 } l.frm l.peers
    let m:=if CloserT m.table l.peer then WG m l.peer (l.frm::l.peers) else m
    (m,[⟨(We m.table).addr,lett m 5 0⟩])
def byeN (n:Nd) (l:Lt):Nd :=
  let t:=Wi n.table l.frm.addr
  let t:=if n.table.pred.addr=l.frm.addr then VK t l.peer else t
  let m:={ n with table:=t }
  match l.peers with
  | []=>m
  | p::ps=>if (We n.table).addr=l.frm.addr then WG m p ps else m
def VP (n:Nd) (l:Lt):Nd×List Snd×Int :=
  if IsNd n∧IsLt l then
    if ¬Xr n.table.self l.frm then (n,[],0)
    else if l.kind=1 then (n,findN n l,0)
    else if l.kind=2 then ((foundN n l).1,(foundN n l).2,0)
    else if l.kind=3 then (n,if n.joined then [⟨l.frm.addr,{ lett n 4 l.req with peer:=n.table.pred,peers:=n.table.succ }⟩] else [],0)
    else if l.kind=4 then ((toldN n l).1,(toldN n l).2,0)
    else if l.kind=5 then ({ n with table:=VK n.table l.frm },[],0)
    else if l.kind=6 then (n,[⟨l.frm.addr,lett n 7 l.req⟩],0)
    else if l.kind=7 then (if n.pingTo=l.frm.addr∧n.pingReq=l.req then { n with pingTo:=-1 } else n,[],0)
    else (byeN n l,[],0)
  else (Nd.zero,[],1)
def leaveN (n:Nd):List Snd×Int :=
  if IsNd n then
    let l:={ lett n 8 0 with peer:=n.table.pred,peers:=n.table.succ }
    ((if n.table.succ=[] then [] else [⟨(We n.table).addr,l⟩])++(if n.table.pred≠Xc∧n.table.pred≠We n.table then [⟨n.table.pred.addr,l⟩] else []),0)
  else ([],1)
end Go.Esp
namespace Go.Esp
section
variable {P:Program} {n:Sh} {Q:Exit→Act→World→Prop} {M:Mem} {H H0:Hp} {e:Env} {x:Exit} {c:Code}
end
end Go.Esp
namespace Go.Esp
def ZP.nd (n:ZP):Nd:=⟨n.table.tb,n.copies,n.joined,n.boot,n.cursor,n.req,n.askTo,n.askReq,n.pingTo,n.pingReq,n.findTo,n.findReq,n.findID,n.avoid.l,n.hops,n.turn⟩
def ZQ.lt (l:ZQ):Lt:=⟨l.kind,l.frm,l.req,l.id,l.avoid.l,l.done,l.peer,l.peers.l⟩
def Yw.snd (s:Yw):Snd:=⟨s.to,s.letter.lt⟩
def sndl (l:List Yw):List Snd:=l.map Yw.snd
theorem sndl_len (l:List Yw):(sndl l).length=l.length:=List.length_map ..
theorem addr4 {s:ZE} {a b c d:Int}:(∀ j (h:j<[a,b,c,d].length),Xg s [a,b,c,d][j])↔(Xg s a∧Xg s b∧Xg s c∧Xg s d):=by
  constructor
  · intro h;exact ⟨h 0 (by show 0<4;decide),h 1 (by show 1<4;decide),h 2 (by show 2<4;decide),h 3 (by show 3<4;decide)⟩
  · rintro ⟨h0,h1,h2,h3⟩ j hj
    match j,hj with
    | 0,_=>exact h0
    | 1,_=>exact h1
    | 2,_=>exact h2
    | 3,_=>exact h3
theorem any_odd {l:List Int}:(l.any fun a=>decide (¬(0≤a∧a≤999)))=false↔∀ a∈l,YQ a:=by
  rw [List.any_eq_false]
  constructor
  · intro h a ha
    have:=h a ha
    simp only [decide_eq_true_eq,Classical.not_not] at this
    exact this
  · intro h a ha
    have:=h a ha
    simp only [decide_eq_true_eq,Classical.not_not]
    exact this
theorem any_oddP {l:List ZE}:(l.any fun p=>decide (¬YQ p.addr))=false↔∀ p∈l,YQ p.addr:=by
  rw [List.any_eq_false]
  constructor
  · intro h a ha
    have:=h a ha
    simpa using this
  · intro h a ha
    have:=h a ha
    simpa using this
def orK (a b:Int):Int:=IntKind.i64.wrap (BitVec.ofInt 64 a ||| BitVec.ofInt 64 b).toNat
def notK (a b:Int):Int:=IntKind.i64.wrap (BitVec.ofInt 64 a &&& ~~~BitVec.ofInt 64 b).toNat
def VS (l:List YM):Int:=l.foldl (fun a h=>if h.is then orK a h.part else a) 0
theorem usedH_take {l:List YM} {k:Nat} (hk:k<l.length):VS (l.take (k+1))=if l[k].is then orK (VS (l.take k)) l[k].part else VS (l.take k):=by
  unfold VS
  rw [List.take_add_one,List.getElem?_eq_getElem hk,List.foldl_append]
  rfl
def Ue (a b c d e f:Bool):List YM:=[⟨1,a⟩,⟨2,b⟩,⟨4,c⟩,⟨8,d⟩,⟨16,e⟩,⟨32,f⟩]
def WE (k:Int):Int×Bool :=
  if k=1 then (7,true) else if k=2 then (25,true) else if k=3∨k=6∨k=7 then (1,true) else if k=4 then (49,true) else if k=5 then (0,true) else if k=8 then (48,true) else (0,false)
theorem used_not:∀ (a b c d e f:Bool),(notK (VS (Ue a b c d e f)) 7=0↔d=false∧e=false∧f=false)∧(notK (VS (Ue a b c d e f)) 25=0↔b=false∧c=false∧f=false) ∧
    (notK (VS (Ue a b c d e f)) 1=0↔b=false∧c=false∧d=false∧e=false∧f=false)∧(notK (VS (Ue a b c d e f)) 49=0↔b=false∧c=false∧d=false) ∧
    (notK (VS (Ue a b c d e f)) 0=0↔a=false∧b=false∧c=false∧d=false∧e=false∧f=false)∧(notK (VS (Ue a b c d e f)) 48=0↔a=false∧b=false∧c=false∧d=false):=by
  intro a b c d e f
  cases a <;> cases b <;> cases c <;> cases d <;> cases e <;> cases f <;> decide +kernel
theorem parts_no {k:Int} (h:¬(1≤k∧k≤8)∨(¬k=1∧¬k=2∧¬k=3∧¬k=6∧¬k=7∧¬k=4∧¬k=5∧¬k=8)):WE k=(0,false):=by
  unfold WE
  rw [if_neg (by omega),if_neg (by omega),if_neg (by omega),if_neg (by omega),if_neg (by omega),if_neg (by omega)]
theorem parts_yes {k:Int}:(WE k).2=true↔1≤k∧k≤8:=by
  unfold WE
  repeat' split
  all_goals simp only [true_iff,false_iff,Bool.false_eq_true]
  all_goals omega
theorem used_parts {k:Int} (hk:(WE k).2=true) (a b c d e f:Bool):notK (VS (Ue a b c d e f)) (WE k).1=0 ↔
    ((Vo k∨a=false)∧(k=1∨b=false)∧(k=1∨c=false)∧(k=2∨d=false)∧(WQ k∨e=false)∧(Wk k∨f=false)):=by
  obtain ⟨h1,h2,h3,h4,h5,h6⟩:=used_not a b c d e f
  have hk9:=parts_yes.1 hk
  have:k=1∨k=2∨k=3∨k=4∨k=5∨k=6∨k=7∨k=8:=by omega
  unfold Vo WQ Wk
  rcases this with rfl|rfl|rfl|rfl|rfl|rfl|rfl|rfl
  · rw [show (WE 1).1=7 from rfl,h1];simp
  · rw [show (WE 2).1=25 from rfl,h2];simp
  · rw [show (WE 3).1=1 from rfl,h3];simp
  · rw [show (WE 4).1=49 from rfl,h4];simp
  · rw [show (WE 5).1=0 from rfl,h5];simp
  · rw [show (WE 6).1=1 from rfl,h3];simp
  · rw [show (WE 7).1=1 from rfl,h3];simp
  · rw [show (WE 8).1=48 from rfl,h6];simp
def partsR (k:Int):ZY:=⟨decide (Vo k),decide (k=1),decide (k=1),decide (k=2),decide (WQ k),decide (Wk k)⟩
end Go.Esp
namespace Go.Esp
section
variable {P:Program} {n:Sh} {ops:Array Oper} {Q:Exit→Act→World→Prop} {rest:List Nat} {M M':Mem} {H H' H0:Hp} {e:Env} {J S:World→Prop} {A:As} {i:Nat}
  {dst:Option Tmp} {d:Tmp} {op:Op} {ty:TypeId} {pos:String} {af:Array Edge} {gd:Option (Nat×Bool)}
theorem X_cap_sl {t E sz by_:Nat} {x:Operand} {a:Option Addr} {l c:Nat} {ats:Array TypeId} (hi:ops[i]?=some ⟨some d,.call ⟨.builtin .cap,#[x],ats⟩,ty,pos,af,gd⟩) (hg:want ops e gd=some true)
    (hx:ev e x=some (.slice a l c)) (hat:ats[0]?=some t) (ht:slOf P t=some (E,sz,by_)) (hd:Nat.ble (d+1) n.sz=true) (hk:XD P n ops Q rest J A ((d,.int .i64 (c:Int))::e)):XD P n ops Q (i::rest) J A e :=
  Ua hi rfl hg (fun a' w ha _=>Wc (by
    obtain ⟨it,hu,_⟩:=Wt ht
    simp only [execOp,resolve]
    simp [invoke,builtin,Builtin.cap_,ha.ev hx,hat,run_underlying hu,goInt])) (fun a ha=>ha.put hd _) hk
theorem C_cutX {α:Type} {c rest:Code} (pre:α→Env) (F:α→Prop) {e0:Env} (hp:Pick e e0)
    (h1:C P n c (Exit.then (fun a w=>∃ x,F x∧Sat n (pre x++e0) a∧S w) Q) S e) (h2:∀ x,F x→C P n rest Q S (pre x++e0)) :
    C P n c (Exit.then (rest.wpIn (Fr n.ro) 0 P Q) Q) S e:=by
  intro a w ha hw
  refine wpIn_mono (h1 a w ha hw) fun x a' w' hx=>?_
  cases x with
  | normal =>
    obtain ⟨x,hF,hs,hw2⟩:=hx
    exact h2 x hF a' w' hs hw2
  | _=>exact hx
theorem WP {α:Type} {S':World→Prop} {pre:α→Env} {F:α→Prop} {e0 e1:Env} (x:α) (hF:F x) (hp:Pick e1 (pre x++e0)) (hS:∀ w,S' w→S w) :
    K n (Exit.then (fun a w=>∃ x,F x∧Sat n (pre x++e0) a∧S w) Q) .normal S' e1:=fun a w ha hw=>⟨x,hF,ha.pick hp,hS w hw⟩
end
end Go.Esp
namespace Go.Esp
theorem OSl.extend {T sz b c:Nat} {hs:Hp} {rows:List Segs} (h:OSl T sz (.slice (some ⟨b,0,none⟩) rows.length c) hs rows) {m:Nat} (hm:rows.length+m≤c) :
    ∃ ext:List Segs,ext.length=m∧OSl T sz (.slice (some ⟨b,0,none⟩) (rows.length+m) c) hs (rows++ext):=by
  obtain ⟨cur,rfl,_,hl,h2,h3,h4,h5⟩:=h.inv
  have key:∀ (m off:Nat) ,off+m * sz≤cur.size→∃ ext:List Segs,ext.length=m∧Esp.lens sz ext∧Yd ext=(cur.toList.drop off).take (m * sz):=by
    intro m
    induction m with
    | zero=>intro off _;exact ⟨[],rfl,fun r hr=>(by cases hr),by simp [Yd]⟩
    | succ m ih =>
      intro off ho
      have e:(m+1) * sz=sz+m * sz:=by rw [Nat.add_mul];omega
      obtain ⟨ext,g1,g2,g3⟩:=ih (off+sz) (by omega)
      refine ⟨ones ((cur.toList.drop off).take sz)::ext,by simp [g1],fun r hr=>?_,?_⟩
      · rcases List.mem_cons.1 hr with rfl|hr
        · rw [← Segs.cells_length,ones_cells,List.length_take,List.length_drop,Array.length_toList];omega
        · exact g2 r hr
      · simp only [Yd,ones_cells,g3,e]
        rw [List.take_add,List.drop_drop]
  obtain ⟨ext,g1,g2,g3⟩:=key m (rows.length * sz) (by rw [h4,← Nat.add_mul];exact Nat.mul_le_mul_right _ hm)
  refine ⟨ext,g1,?_⟩
  have hlen:(rows++ext).length=rows.length+m:=by simp [g1]
  rw [← hlen]
  refine OSl.own b c (rows++ext) cur (hl.append g2) (by omega) h3 h4 ?_
  rw [hlen,Nat.add_mul,List.take_add,h5,← g3,XE]
theorem OSl.as9 {T sz:Nat} {v:Value} {hs:Hp} {rows rows':List Segs} (h:OSl T sz v hs rows) (e:rows=rows'):OSl T sz v hs rows':=e ▸ h
section
variable {P:Program} {n:Sh} {ops:Array Oper} {Q:Exit→Act→World→Prop} {rest:List Nat} {M M':Mem} {H H' H0:Hp} {e:Env} {J S:World→Prop} {A:As} {i:Nat}
  {dst:Option Tmp} {d:Tmp} {op:Op} {ty:TypeId} {pos:String} {af:Array Edge} {gd:Option (Nat×Bool)}
theorem X_copyP {t t' E sz by_:Nat} {x y:Operand} {b k l' c' l2 c2 c l off:Nat} {ad:Addr} {hs:Hp} {rows news:List Segs} {ats:Array TypeId} (hi:ops[i]?=some ⟨some d,.call ⟨.builtin .copy,#[x,y],ats⟩,ty,pos,af,gd⟩) (hg:want ops e gd=some true)
    (hx:ev e x=some (.slice (some ⟨b,off,Option.none⟩) l' c')) (hy:ev e y=some (.slice (some ad) l2 c2)) (hat:ats=#[t,t']) (ht:slOf P t=some (E,sz,by_)) (hoff:off=k * sz) (hkl:k+l'≤rows.length) (ho:OSl E sz (.slice (some ⟨b,0,Option.none⟩) l c) hs rows) (hH:Rem hs H H0)
    (hsrc:Src M H sz (.slice (some ad) news.length c2) news) (hm:news.length=min l2 l') (hd:Nat.ble (d+1) n.sz=true)
    (hk:∀ hs',OSl E sz (.slice (some ⟨b,0,Option.none⟩) rows.length c) hs' (rows.take k++news++rows.drop (k+news.length))→XD P n ops Q rest (St M (hs'++H0)) ⟨M,hs'++H0⟩ ((d,.int .i64 (news.length:Int))::e)) (hnw:n.wrs.contains i=false:=by rfl):XD P n ops Q (i::rest) J ⟨M,H⟩ e:=by
  subst hat hoff
  refine X_mut hi rfl hg (fun a w ha hw=>?_) hnw
  obtain ⟨it,hu,hit,rfl,rfl⟩:=Wt ht
  obtain ⟨hln,h1,ad',c2',e9,hsr⟩:=hsrc
  obtain ⟨rfl,_,rfl⟩:ad=ad'∧True∧c2=c2':=by simpa using e9
  obtain ⟨cur,rfl,rfl,hlr,hcap,hcm,hcs,htake⟩:=ho.inv
  have hst:=hw.perm hH.perm
  have hb:=hst.own b _ (List.mem_append_left _ (.head _))
  have hcl:(Yd news).length=news.length * it.size:=Xf hln
  have hle:k * it.size+news.length * it.size≤rows.length * it.size:=by rw [← Nat.add_mul];exact Nat.mul_le_mul_right _ (by omega)
  have hrc:rows.length * it.size≤c * it.size:=Nat.mul_le_mul_right _ hcap
  have hload:=run_loadCells_list (P:=P) w ad (Yd news) (fun j v hj=>hsr w hw j v hj)
  have hstore:=run_storeCells_at P b (k * it.size) E (Yd news) 0 cur w hb (by omega) h1
  have ho':=rowSplice (T:=E) (b:=b) (k:=k) (news:=news) hlr hln hcap hcm hcs htake (by omega)
  rw [hcl] at hload
  have hr:(Builtin.copy_ #[t,t'] ty #[.slice (some ⟨b,k * it.size,Option.none⟩) l' c',.slice (some ad) l2 c2]).run P w=.ok (goInt news.length) (w.setRow b (cur.toList.take (k * it.size)++Yd news++cur.toList.drop (k * it.size+(Yd news).length)).toArray):=by
    have e9:Nat.min l2 l'=news.length:=hm.symm
    simp [Builtin.copy_,run_underlying hu,Builtin.lenOf,Builtin.firstCells,sizeOf,typeInfo,hit,e9,hload]
    have h5:=hstore
    simp only [Nat.add_zero,List.append_assoc] at h5
    rw [h5];rfl
  unfold Oper.does
  have:(execOp a.eval ⟨some d,.call ⟨.builtin .copy,#[x,y],#[t,t']⟩,ty,pos,af,gd⟩).run P w=.ok (.value (.int .i64 (news.length:Int))) (w.setRow b (cur.toList.take (k * it.size)++Yd news++cur.toList.drop (k * it.size+(Yd news).length)).toArray):=by
    simp only [execOp,resolve]
    simp only [invoke,builtin]
    have e1:#[x,y].map a.eval=#[.slice (some ⟨b,k * it.size,Option.none⟩) l' c',.slice (some ad) l2 c2]:=by simp [ha.ev hx,ha.ev hy]
    rw [e1]
    rw [Sem.run_bind]
    show (Result.ok _ w).andThen _=_
    rw [Result.andThen_ok]
    exact Wu hr
  rw [this]
  refine ⟨⟨M,_⟩,_,?_,ha.put hd _,hk _ ho'⟩
  exact hst.upd .head (setRow_heap w b cur _ E _ hb) (fun c hc x hx=>by rw [setRow_other w b c _ hc];exact hx) (Vp.refl _)
theorem X_appendZO {t tn E sz by_ j k c:Nat} {z:Value} {kn:IntKind} {x y:Operand} {b l:Nat} {hs:Hp} {rows:List Segs} (hi:ops[i]?=some ⟨some d,.call ⟨.builtin .append,#[x,y],#[t,tn]⟩,ty,pos,af,gd⟩) (hg:want ops e gd=some true)
    (hx:ev e x=some (.slice (some ⟨b,0,Option.none⟩) j c)) (hy:ev e y=some (.int .i64 (k:Int))) (ht:slOf P t=some (E,sz,by_)) (htn:P.underlying tn=some (.int kn)) (hz:Wh P E=some z) (hzs:z.cells.size=sz) (hsz:Nat.ble 1 sz=true)
    (ho:OSl E sz (.slice (some ⟨b,0,Option.none⟩) l c) hs rows) (hH:Rem hs H H0) (hj:j≤rows.length) (h0:0<k) (hgr:c<j+k) (hk9:j+k≤16777216) (hkb:(j+k) * by_≤140737488355328) (hd:Nat.ble (d+1) n.sz=true)
    (hk:∀ (b' c':Nat) hs' (zs:List Segs),zs.length=k→OSl E sz (.slice (some ⟨b',0,Option.none⟩) (j+k) c') hs' (rows.take j++zs)→XD P n ops Q rest (St M (hs'++H)) ⟨M,hs'++H⟩ ((d,.slice (some ⟨b',0,Option.none⟩) (j+k) c')::e)) (hnw:n.wrs.contains i=false:=by rfl):XD P n ops Q (i::rest) J ⟨M,H⟩ e:=by
  refine X_mut hi rfl hg (fun a w ha hw=>?_) hnw
  obtain ⟨it,hu,hit,rfl,rfl⟩:=Wt ht
  have hz':it.zero=some z:=by simpa [Wh,hit] using hz
  have hpos:1≤it.size:=Nat.le_of_ble_eq_true hsz
  obtain ⟨cur,rfl,_,hl,h2,h3,h4,h5⟩:=ho.inv
  have hst:=hw.perm hH.perm
  have hb:=hst.own b _ (List.mem_append_left _ (.head _))
  have hlt:Esp.lens it.size (rows.take j):=fun r hr=>hl r (List.mem_of_mem_take hr)
  have hjl:(rows.take j).length=j:=by simp;omega
  have hcell:=rowsCells_take hl hj
  have hole:(Yd (rows.take j)).length=j * it.size:=by rw [Xf hlt,hjl]
  have hold:=run_loadCells_list (P:=P) (w:=w.drew) ⟨b,0,Option.none⟩ (Yd (rows.take j)) (cellsAt (w:=w.drew) (b:=b) (off:=0) (n:=j * it.size) hb (by
    rw [List.drop_zero,hcell,← h5,List.take_take]
    congr 1
    have h6:j * it.size≤rows.length * it.size:=Nat.mul_le_mul_right _ hj
    omega))
  rw [hole] at hold
  have hr:=Lib.run_append_grow_zeros (P:=P) w t tn ty E it z .i64 kn hu htn hit hz' (some ⟨b,0,Option.none⟩) j c (Yd (rows.take j)) hold k h0 hpos hgr (by omega) (by
    have:k * it.bytes≤(j+k) * it.bytes:=Nat.mul_le_mul_right _ (by omega)
    omega) (growslice_fits hgr hkb)
  have hzsz:z.cells.size=it.size:=hzs
  have hge:=grownCap_ge w (j+k) c E
  have hcm:grownCap w (j+k) c E≤maxLen:=grownCap_le_maxLen w (j+k) c E (by simp only [maxLen];omega)
  obtain ⟨zs,hzl,hlz,hrz⟩:∃ zs:List Segs,zs.length=k∧Esp.lens it.size zs∧Yd zs=(Builtin.zeroCells z.cells k).toList:=by
    refine ⟨Vy (fun i=>z.cells[i % z.cells.size]!) it.size k,by simp [Vy],fun r hr=>?_,?_⟩
    · obtain ⟨q,_,rfl⟩:=List.mem_map.1 hr
      exact onesOf_len _ q it.size
    · rw [onesAll_cells];simp [Builtin.zeroCells,hzsz]
  have hlen:(rows.take j++zs).length=j+k:=by simp [hzl];omega
  have h0':St M H w.drew:=hw.heap rfl ⟨rfl,rfl,rfl,Nat.le_succ _⟩
  have h2':=h0'.alloc (.cells ((Yd (rows.take j)).toArray++Builtin.zeroCells z.cells k++Builtin.zeroCells z.cells (grownCap w (j+k) c E-(j+k))) E)
  have ho':OSl E it.size (.slice (some ⟨w.heap.size,0,none⟩) (j+k) (grownCap w (j+k) c E)) [(w.heap.size,.cells ((Yd (rows.take j)).toArray++Builtin.zeroCells z.cells k++Builtin.zeroCells z.cells (grownCap w (j+k) c E-(j+k))) E (0,0))] (rows.take j++zs):=by
    rw [← hlen] at hge hcm ⊢
    refine OSl.own _ _ _ _ (hlt.append hlz) hge hcm ?_ ?_
    · simp only [Array.size_append,List.size_toArray,size_zeroCells,hzsz,hole]
      rw [hlen] at hge ⊢
      rw [← Nat.add_mul,← Nat.add_mul];congr 1;omega
    · simp only [Array.toList_append]
      rw [← Xf (hlt.append hlz),XE,hrz]
      exact List.take_left
  unfold Oper.does
  have:(execOp a.eval ⟨some d,.call ⟨.builtin .append,#[x,y],#[t,tn]⟩,ty,pos,af,gd⟩).run P w=.ok (.value (.slice (some ⟨w.heap.size,0,none⟩) (j+k) (grownCap w (j+k) c E))) (w.drew.alloc (.cells ((Yd (rows.take j)).toArray++Builtin.zeroCells z.cells k++Builtin.zeroCells z.cells (grownCap w (j+k) c E-(j+k))) E)):=by
    simp only [execOp,resolve]
    simp only [invoke,builtin]
    have e1:#[x,y].map a.eval=#[.slice (some ⟨b,0,Option.none⟩) j c,.int .i64 (k:Int)]:=by simp [ha.ev hx,ha.ev hy]
    rw [e1]
    rw [Sem.run_bind]
    show (Result.ok _ w).andThen _=_
    rw [Result.andThen_ok]
    exact Wu hr
  rw [this]
  exact ⟨⟨M,_⟩,_,h2',ha.put hd _,hk _ _ _ zs hzl ho'⟩
theorem run_apart {tS tR E sz by_ b b' l c k lb cb la ca:Nat} {hs:Hp} {rows:List Segs} {cur:Array Value} {T:TypeId} {w:World} (ht:slOf P tS=some (E,sz,by_)) (ho:OSl E sz (.slice (some ⟨b,0,Option.none⟩) l c) hs rows) (hH:Rem hs H H0) (hv:(b',.cells cur T (0,0))∈H0) (hpos:0<c * sz) (hw:St M H w) :
    (Extern.SlicesOverlaps.overlaps #[tS,tS] #[tR] #[.slice (some ⟨b',0,Option.none⟩) la ca,.slice (some ⟨b,k,Option.none⟩) lb cb]).run P w=.ok (.bool false) w:=by
  obtain ⟨it,hu,hit,rfl,rfl⟩:=Wt ht
  obtain ⟨cu,rfl,_,hl,h2,h3,h4,h5⟩:=ho.inv
  have hst:=hw.perm hH.perm
  have hb:=hst.own b _ (List.mem_append_left _ (.head _))
  have hb':=hst.own b' _ (List.mem_append_right _ hv)
  have hne:b'≠b:=fun e=>by
    subst e
    have h:=hst.nodup
    rw [List.map_append,List.nodup_append] at h
    exact h.2.2 b' (by simp) b' (List.mem_map_of_mem hv) rfl
  refine Lib.run_overlaps_apart w tS tR E hu it.size (fun w=>run_sizeOf' hit) ⟨b',0,Option.none⟩ ⟨b,k,Option.none⟩ la ca lb cb hne T E cur.size cu.size ?_ ?_ (by omega) ?_ ?_
  · simp [World.shape?,hb']
  · simp [World.shape?,hb]
  · simp [World.frozen?,hb']
  · simp [World.frozen?,hb']
end
theorem Fs.foE {P:Program} {f:FuncId} {vs:List Value} {M:Mem} {R:Value→Prop} (h:Fs P f vs M R) (Hin:Hp):Fo P f vs M Hin (fun M' v=>M'=M∧R v):=fun H w hw =>
  (h (Hin++H) w hw).mono fun _ _ ⟨v,he,hs,hr⟩=>⟨v,M,he,Mem.le.refl M,hs,rfl,hr⟩
end Go.Esp
namespace Go.Esp
section
variable {P:Program} {n:Sh} {ops:Array Oper} {Q:Exit→Act→World→Prop} {rest:List Nat} {M M':Mem} {H H' H0:Hp} {e:Env} {J S:World→Prop} {A:As} {i:Nat}
  {dst:Option Tmp} {d:Tmp} {op:Op} {ty:TypeId} {pos:String} {af:Array Edge} {gd:Option (Nat×Bool)}
theorem C_is {c:Code} {Qx:Exit→Act→World→Prop} {Sx:World→Prop} (s:Nat) {u v:Value} (hs:get e s=some u) (h:u=v) (hk:C P n c Qx Sx ((s,v)::e)):C P n c Qx Sx e:=fun a w ha hw=>hk a w (ha.more (h ▸ hs)) hw
theorem C_part {c:Code} {Qx:Exit→Act→World→Prop} {Sx:World→Prop} (s:Nat) {b:Bool} (hs:get e s=some (.bool b)) (ht:b=true→C P n c Qx Sx ((s,.bool true)::e)) (hf:b=false→C P n c Qx Sx ((s,.bool false)::e)):C P n c Qx Sx e:=by
  cases b with
  | true=>exact C_is s hs rfl (ht rfl)
  | false=>exact C_is s hs rfl (hf rfl)
end
end Go.Esp
namespace Go.Esp
section
variable {P:Program} {ops:Array Oper} {Q:Exit→Act→World→Prop} {M M':Mem} {H H' H0:Hp} {e:Env}
theorem Xn {m:Nat} {ds:List Deferred} {ro:Option Nat} {id:Nat} {l:List Nat} (ws:List Nat) (hl:List.range ops.size=l) (h:XD P ⟨m,ds,ro,ws⟩ ops Q l (St M H) ⟨M,H⟩ e):C P ⟨m,ds,ro,[]⟩ (.region id ops false) Q (St M H) e :=
  fun a w ha hw=>wpIn_region (wpOps_of_WD _ (St M H) ⟨M,H⟩ a w (fun _ h=>h) hw (hl ▸ h (fun _ h=>h) a ⟨ha.size,ha.defers,ha.slot⟩))
theorem X_fhVW {n:Sh} {rest:List Nat} {J:World→Prop} {i:Nat} {dst:Option Tmp} {ty:TypeId} {pos:String} {af:Array Edge} {gd:Option (Nat×Bool)} {f:FuncId} {g:Operand} {xs:List Operand} {ats:Array TypeId} {vs caps:List Value} {Hin Hr:Hp} {R:Mem→Value→Hp→Prop} (hi:ops[i]?=some ⟨dst,.call ⟨.value g,xs.toArray,ats⟩,ty,pos,af,gd⟩) (hcl:clOf P (.call ⟨.value g,xs.toArray,ats⟩)=.eff) (hws:n.wrs.contains i=true) (hg:want ops e gd=some true)
    (hf:okFn P f=true) (hgv:ev e g=some (.func (.func f) #[] caps.toArray)) (hx:evs e xs=some vs) (hc:Fh P f (vs++caps) M Hin R) (hH:Rem Hin H Hr)
    (hd:∀ a v,Sat n e a→Sat n (putE dst v e) (a.put dst v))
    (hk:∀ v M' Hout,M.le M'→R M' v Hout→XD P n ops Q rest (St M' (Hout++Hr)) ⟨M',Hout++Hr⟩ (putE dst v e)):XD P n ops Q (i::rest) J ⟨M,H⟩ e:=by
  obtain ⟨fn,h1,h2,h3⟩:=Vc hf
  refine X_mutW hi hcl hws hg (fun a w ha hw=>does_callV h1 h2 h3 (ha.ev hgv) (by simpa using ha.evs hx) ?_)
  exact (hc Hr w (hw.perm hH.perm)).mono fun e' w' ⟨v,M',Hout,he,hm,hs,hr⟩=>⟨v,he,⟨M',Hout++Hr⟩,_,hs,hd a v ha,hk v M' Hout hm hr⟩
end
end Go.Esp
namespace Go.Esp
section
variable {P:Program} {ops:Array Oper} {cl:Nat→Cls} {Q:Exit→Act→World→Prop} {md:Region.Mode}
def okPairP (ops:Array Oper) (cl:Nat→Cls) (B:Array Nat) (x i:Nat):Bool :=
  !(B.getD x 0).testBit i && (x != i) && ((B.getD i 0).testBit x || (match ops[x]?,ops[i]? with|some ox,some oi=>ox.apart ops oi && mayPass (cl x) (cl i)|_,_=>false))
def okListP (ops:Array Oper) (cl:Nat→Cls) (B:Array Nat):List Nat→Bool
  | []=>true
  | x::r=>r.all (fun i=>okPairP ops cl B x i) && okListP ops cl B r
def okRegionP (ops:Array Oper) (cl:Nat→Cls) (B:Array Nat) (l0:List Nat):Bool :=
  Region.noSelect ops && okEdges ops B && okListP ops cl B l0 && (List.range ops.size).all (fun i=>l0.contains i) && l0.length == ops.size && l0.all (fun i=>decide (i<ops.size))
def leftP (l0:List Nat) (listed:Array Bool):List Nat:=l0.filter fun i=>!listed.getD i true
end
end Go.Esp
namespace Go.Esp
section
variable {P:Program} {ops:Array Oper} {Q:Exit→Act→World→Prop} {M M':Mem} {H H' H0:Hp} {e:Env}
theorem X_fhW2 {n:Sh} {rest:List Nat} {J:World→Prop} {i:Nat} {dst:Option Tmp} {ty:TypeId} {pos:String} {af:Array Edge} {gd:Option (Nat×Bool)} {f:FuncId} {xs:List Operand} {ats:Array TypeId} {vs:List Value} {Hin Hin2 H1 Hr:Hp} {R:Mem→Value→Hp→Prop} (hi:ops[i]?=some ⟨dst,.call ⟨.value (.func f),xs.toArray,ats⟩,ty,pos,af,gd⟩) (hws:n.wrs.contains i=true) (hg:want ops e gd=some true)
    (hf:okFn P f=true) (hx:evs e xs=some vs) (hc:Fh P f vs M (Hin++Hin2) R) (hH:Rem Hin H H1) (hH2:Rem Hin2 H1 Hr)
    (hd:∀ a v,Sat n e a→Sat n (putE dst v e) (a.put dst v))
    (hk:∀ v M' Hout,M.le M'→R M' v Hout→XD P n ops Q rest (St M' (Hout++Hr)) ⟨M',Hout++Hr⟩ (putE dst v e)):XD P n ops Q (i::rest) J ⟨M,H⟩ e:=by
  obtain ⟨fn,h1,h2,h3⟩:=Vc hf
  have hP:H.Perm ((Hin++Hin2)++Hr):=(hH.perm.trans (hH2.perm.append_left Hin)).trans (List.append_assoc _ _ _ ▸ List.Perm.refl _)
  refine X_mutW hi rfl hws hg (fun a w ha hw=>does_call h1 h2 h3 (by simpa using ha.evs hx) ?_)
  exact (hc Hr w (hw.perm hP)).mono fun e' w' ⟨v,M',Hout,he,hm,hs,hr⟩=>⟨v,he,⟨M',Hout++Hr⟩,_,hs,hd a v ha,hk v M' Hout hm hr⟩
end
end Go.Esp
namespace Go.Esp
section
variable {P:Program} {n:Sh} {ops:Array Oper} {Q:Exit→Act→World→Prop} {rest:List Nat} {M M':Mem} {H H' H0:Hp} {e:Env} {J:World→Prop} {i:Nat} {ty:TypeId} {pos:String} {af:Array Edge} {gd:Option (Nat×Bool)}
theorem drop_all:∀ (r:Segs),r.all (fun s=>Nat.ble 1 s.len)=true→Segs.drop r (Segs.len r)=some []
  | [],_=>rfl
  | s::r,h=>by
    simp only [List.all_cons,Bool.and_eq_true] at h
    have h1:=Nat.le_of_ble_eq_true h.1
    obtain ⟨k,hk⟩:∃ k,s.len=k+1:=⟨s.len-1,by omega⟩
    have h2:=drop_all r h.2
    have e:Segs.len (s::r)=k+Segs.len r+1:=by simp only [Segs.len];omega
    have hb:Nat.ble s.len (k+Segs.len r+1)=true:=Nat.ble_eq_true_of_le (by omega)
    rw [e];unfold Segs.drop
    rw [hb,hk]
    show Segs.drop r (k+Segs.len r+1-(k+1))=some []
    rw [show k+Segs.len r+1-(k+1)=Segs.len r by omega];exact h2
theorem put_all {r t:Segs} {m:Nat} (h:r.all (fun s=>Nat.ble 1 s.len)=true) (hr:Segs.len r=m) (ht:Segs.len t=m):Segs.put r 0 t=some t:=by
  have e:Segs.put r 0 t=match Segs.drop r (Segs.len t) with
    | some u=>some (t++u)
    | none=>none:=by cases r <;> rfl
  rw [e,ht,← hr,drop_all r h];simp
theorem imO_nil:imO (.map #[] 0) []:=⟨#[],0,rfl,rfl⟩
theorem WC {t k el:TypeId} {x y u:Operand} {b:Nat} {z:Int} {v:Value} {o:Obj} {l:IM} (hi:ops[i]?=some ⟨none,.insert t x y u,ty,pos,af,gd⟩) (hg:want ops e gd=some true)
    (hx:ev e x=some (.map (some b))) (hy:ev e y=some (.int .i64 z)) (hu:ev e u=some v) (ht:mapOf P t=some (k,el)) (ho:imO o l) (hb:(b,o)∈H)
    (hk:∀ o',imO o' (Vv l z v)→∃ H2,Upd b o o' H H2∧XD P n ops Q rest (St M H2) ⟨M,H2⟩ e) (hnw:n.wrs.contains i=false:=by rfl):XD P n ops Q (i::rest) J ⟨M,H⟩ e:=by
  refine X_mut hi rfl hg (fun a w ha hw=>?_) hnw
  have hb:=hw.own b o hb
  obtain ⟨o',hr,ho'⟩:=run_mapUpdate' (P:=P) (z:=z) (v:=v) ht hb ho
  unfold Oper.does
  have:(execOp a.eval ⟨none,.insert t x y u,ty,pos,af,gd⟩).run P w=.ok .skip { w with heap:=w.heap.setIfInBounds b o' }:=by
    simp only [execOp,ha.ev hx,ha.ev hy,ha.ev hu]
    rw [YD hr];rfl
  rw [this]
  obtain ⟨H2,hH,hk⟩:=hk o' ho'
  exact ⟨⟨M,H2⟩,e,St.upd hw hH (setIn_self hb) (fun c hc q hq=>by rw [setIn_other hc];exact hq) (Vp.refl _),ha,hk⟩
end
end Go.Esp
namespace Go.Esp
section
variable {P:Program} {n:Sh} {ops:Array Oper} {Q:Exit→Act→World→Prop} {rest:List Nat} {M M':Mem} {H H' H0:Hp} {e:Env} {J S:World→Prop} {A:As} {i:Nat}
  {dst:Option Tmp} {d:Tmp} {op:Op} {ty:TypeId} {pos:String} {af:Array Edge} {gd:Option (Nat×Bool)}
theorem XW {t:TypeId} {x y:Operand} {b:Nat} {agg:Bool} {r q:Segs} {T:TypeId} {v:Value} (hl:lay P t=some (agg,78)) (hk:XD P n ops Q rest (St M H') ⟨M,H'⟩ e) (hi:ops[i]?=some ⟨none,.store t x y,ty,pos,af,gd⟩:=by exact rfl) (hg:want ops e gd=some true:=by exact rfl) (hx:ev e x=some (.pointer (some ⟨b,0,none⟩)):=by exact rfl) (hy:ev e y=some v:=by exact rfl) (hp:Vk v q:=by constructor) (hq:flat q:=by (try simp only [cat,List.cons_append,List.nil_append,List.append_nil]);(repeat (first|exact XV|refine XU ?_|(refine YE ?_ ?_;rfl)));done) (hu:Upd b (rowO r T) (rowO q T) H H':=by repeat first|exact Upd.head|apply Upd.tail|apply Upd.over) (hn:Segs.len q=78:=by simp only [ZE.segs,ZT.segs,ZP.segs,ZQ.segs,Yw.segs,ZR.segs,YM.segs,ZY.segs,cat,List.append_eq,List.cons_append,List.nil_append,List.append_nil,Segs.len,Seg.len,Yn]) (ha:r.all (fun s=>Nat.ble 1 s.len)=true:=by exact rfl) (hr:Segs.len r=78:=by simp only [ZE.segs,ZT.segs,ZP.segs,ZQ.segs,Yw.segs,ZR.segs,YM.segs,ZY.segs,cat,List.append_eq,List.cons_append,List.nil_append,List.append_nil,Segs.len,Seg.len,Yn]) (hnw:n.wrs.contains i=false:=by rfl):XD P n ops Q (i::rest) J ⟨M,H⟩ e :=
  X_store hi hg hx hy hp hq hu hl hn (put_all ha hr hn) hk hnw
end
end Go.Esp
namespace Go.Esp
section
variable {P:Program} {n:Sh} {ops:Array Oper} {Q:Exit→Act→World→Prop} {rest:List Nat} {M M':Mem} {H H' H0:Hp} {e:Env} {J S:World→Prop} {A:As} {i:Nat}
  {dst:Option Tmp} {d:Tmp} {op:Op} {ty:TypeId} {pos:String} {af:Array Edge} {gd:Option (Nat×Bool)}
def byteVs (s:ByteArray):List Value:=s.data.toList.map fun b=>.int .u8 (b.toNat:Int)
theorem X_fsV {f:FuncId} {g:Operand} {xs:List Operand} {ats:Array TypeId} {vs:List Value} {R:Value→Prop} (hi:ops[i]?=some ⟨some d,.call ⟨.value g,xs.toArray,ats⟩,ty,pos,af,gd⟩) (hcl:clOf P (.call ⟨.value g,xs.toArray,ats⟩)=.eff) (hg:want ops e gd=some true)
    (hf:okFn P f=true) (hgv:ev e g=some (.func (.func f) #[] #[])) (hx:evs e xs=some vs) (hc:Fs P f vs M R) (hd:Nat.ble (d+1) n.sz=true)
    (hk:∀ v,R v→XD P n ops Q rest J ⟨M,H⟩ ((d,v)::e)):XD P n ops Q (i::rest) J ⟨M,H⟩ e:=by
  obtain ⟨fn,h1,h2,h3⟩:=Vc hf
  refine X_eff hi hcl hg (fun a F w ha hw=>does_callV (caps:=[]) h1 h2 h3 (ha.ev hgv) (by simpa using ha.evs hx) ?_)
  have:=hc (F++H) w hw
  rw [List.append_nil]
  exact this.mono fun e' w' ⟨v,he,hs,hr⟩=>⟨v,he,⟨M,H⟩,_,hs,fun _ h=>h,ha.put hd v,hk v hr⟩
def arOfN (P:Program) (t:TypeId):Option (Nat×TypeId×Nat):=match P.underlying t with
  | some (.array k el)=>match P.info? el with
    | some i=>some (k,el,i.size)
    | none=>none
  | _=>none
def u8R (n:Nat):Segs:=[.one (.int .u8 (n:Int))]
end
def natsOf (s:ByteArray):List Nat:=s.data.toList.map fun b=>b.toNat
def u32R (n:Nat):Segs:=[.one (.int .u32 (n:Int))]
end Go.Esp
set_option maxRecDepth 8000
set_option maxHeartbeats 1000000
namespace Go.Proofs.YtajmnjefajknoaaGreat
open Go.Esp
theorem F.foff32_0:foff Tryz.prog 32 0=some 0:=by kernel_rfl
theorem F.foff32_1:foff Tryz.prog 32 1=some 44:=by kernel_rfl
theorem F.foff32_10:foff Tryz.prog 32 10=some 53:=by kernel_rfl
theorem F.foff32_13:foff Tryz.prog 32 13=some 75:=by kernel_rfl
theorem F.foff32_14:foff Tryz.prog 32 14=some 76:=by kernel_rfl
theorem F.foff32_15:foff Tryz.prog 32 15=some 77:=by kernel_rfl
theorem F.foff32_2:foff Tryz.prog 32 2=some 45:=by kernel_rfl
theorem F.foff32_3:foff Tryz.prog 32 3=some 46:=by kernel_rfl
theorem F.foff32_4:foff Tryz.prog 32 4=some 47:=by kernel_rfl
theorem F.foff32_6:foff Tryz.prog 32 6=some 49:=by kernel_rfl
theorem F.foff32_8:foff Tryz.prog 32 8=some 51:=by kernel_rfl
theorem F.lay30:lay Tryz.prog 30=some (false,1):=by kernel_rfl
theorem F.lay32:lay Tryz.prog 32=some (true,78):=by kernel_rfl
theorem F.lay4:lay Tryz.prog 4=some (false,1):=by kernel_rfl
theorem F.lay91:lay Tryz.prog 91=some (false,1):=by kernel_rfl
theorem F.ok120:okFn Tryz.prog 120=true:=by kernel_rfl
theorem F.ok69:okFn Tryz.prog 69=true:=by kernel_rfl
theorem F.ok71:okFn Tryz.prog 71=true:=by kernel_rfl
theorem F.ok72:okFn Tryz.prog 72=true:=by kernel_rfl
theorem F.zero91:Wh Tryz.prog 91=some (.nilFunc):=by kernel_rfl
theorem btw_ok (M:Mem) (x:Int) (lo:Int) (hi:Int):Fs Tryz.prog 69 [.int .i64 x,.int .i64 lo,.int .i64 hi] M (fun v=>v=Value.bool (decide (lo≤x∧x≤hi))):=by
  refine Xs Tryz.func69 rfl Tryz.ntmps69 rfl ?_;intro H
  refine ZJ (Zq (l:=[0]) rfl ?_);refine ZC ?_;refine Zx (Zt (ZJ (Zq (l:=[0,1,2,3,4,5,6,7,8]) rfl ?_)))
  iterate 2 refine ZA ?_
  refine YC ?_;refine ZA ?_
  refine Yp 10 rfl (fun hc1=>?_) (fun hc1=>?_)
  ·replace hc1:=dT hc1
   iterate 2 refine ZA ?_
   refine YC ?_;refine ZS ?_;refine ZC ?_;refine Zx (Zt (Y_pk [6] ?_));refine Yu ?_
   refine Yj (.inr rfl) (.tmp rfl .nil) (fun w hw=>?_)
   refine ⟨_,rfl,(hw.c),?_⟩
   clear hw
   refine congrArg Value.bool ?_
   exact decide_eq_decide.2 ⟨fun h9=>⟨by omega,h9⟩,fun h9=>h9.2⟩
  ·replace hc1:=dF hc1
   iterate 3 refine Yh ?_
   refine ZS ?_;refine ZC ?_;refine Zx (Zt (Y_pk [6] ?_));refine Yu ?_
   refine Yj (.inr rfl) (.tmp rfl .nil) (fun w hw=>?_)
   refine ⟨_,rfl,(hw.c),?_⟩
   clear hw
   refine congrArg Value.bool ?_
   exact (decide_eq_false (fun h9=>by omega)).symm
theorem IndexFI_rd (M:Mem) (Hin:Hp) (l:Sl Int) (g:FuncId) (caps:List Value) (p:Int→Bool) (hl:RdS M Hin l.a (l.l.map (oneI .i64)) 1) (bl:l.l.length≤9223372036854775807) (hok:okFn Tryz.prog g=true) (hc:∀ x∈l.l,Fo Tryz.prog g ([.int .i64 x]++caps) M Hin (fun M' v=>M'=M∧v=.bool (p x))):Fo Tryz.prog 120 [l.val,.func (.func g) #[] caps.toArray] M Hin (fun M' v=>M'=M∧v=.int .i64 (idxF p l.l)):=by
  have nl:(l.l.map (oneI .i64)).length=l.l.length:=List.length_map ..
  refine Vd Tryz.func120 rfl Tryz.ntmps120 rfl ?_;intro H
  have hrd:=hl.app H
  refine ZJ (Zq (l:=[0]) rfl ?_);refine ZC ?_;refine Zx (Zt ?_)
  iterate 2 refine ZJ ?_
  refine Zq (l:=[0,1,2]) rfl ?_;refine ZA ?_;refine YZ F.elem30 ?_;refine ZA ?_;refine Zx (Zt (Y_pk [8,7,4,0,1] ?_));refine Xe (Y_pk [8,7,4,0,1] ?_);refine VA (.succ .zero) (fun (k:Nat) z=>z=[(8,.int .i64 (k:Int))]∧k≤l.l.length∧(∀ j (h:j<k) (h2:j<l.l.length),p l.l[j]=false)) (fun k=>l.l.length-k) (0) (⟨rfl,by omega,by (intro j hj;omega)⟩) ?_
  rintro k _ ⟨rfl,hk,hI⟩
  refine ZJ (Zq (l:=[0]) rfl ?_);refine YC ?_;refine Zx (Zt (ZJ ?_))
  refine YA rfl (fun hc1=>?_) (fun hc1=>?_)
  ·skip
   replace hc1:=dT hc1
   refine Yz (Zt (ZJ (Xe (ZJ (Zq (l:=[0,1]) rfl ?_)))));refine ZA ?_;refine ZC ?_;refine Zx (Zt (ZJ (Zq (l:=[0,1,2,3,4,5]) rfl ?_)))
   iterate 3 refine ZA ?_
   refine Xa rfl rfl rfl rfl F.elem30 (by rfl) (by omega) (by exact RdS.plain (by assumption) (by (simp;omega))) rfl ?_;refine X_load_rd rfl rfl rfl (by assumption) (by exact WB (by omega)) F.lay3 rfl rfl rfl ?_;refine X_foV rfl rfl rfl hok rfl rfl (hc _ (List.getElem_mem (n:=k) (by omega))) (Rem.here _) (Yv rfl) ?_
   rintro _ M1 _ ⟨hM1,rfl⟩;subst M1
   refine Zx (Zt ?_)
   refine YA rfl (fun hc2=>?_) (fun hc2=>?_)
   ·skip
    have hP:=hc2
    refine ZJ (Zq (l:=[0,1]) rfl ?_);refine ZA ?_;refine ZC ?_;refine Zx (Zt (Yu (Xy ?_)))
    iterate 2 refine YY ?_
    refine Xy (YY ?_)
    refine Yj (.inr rfl) (.tmp rfl .nil) (fun w hw=>?_)
    refine ⟨_,M,rfl,Mem.le.refl M,hw.c,rfl,?_⟩
    refine congrArg (Value.int .i64) ?_
    exact (idxF_at (by omega) (fun j hj=>hI j hj _) hP).symm
   ·skip
    have hP:=hc2
    refine Yz (Wg (Zt (Zq (l:=[0,1]) rfl ?_)));refine XY rfl rfl rfl rfl rfl (by exact Xl (by decide) (by omega)) rfl ?_;refine ZA ?_;refine Zx ?_;refine K_roundS (a':=[(8,_)]) (k+1) (.cons (k:=8) rfl (.cons (k:=7) rfl (.cons (k:=4) rfl (.cons (k:=0) rfl (.cons (k:=1) rfl (.nil)))))) (fun w hw=>by first|exact hw|exact hw.c) ?_ ?_
    ·refine ⟨rfl,by omega,?_⟩
     (intro j hj hj2;rcases Nat.lt_or_ge j k with h9|h9;exact hI j h9 hj2;obtain rfl:j=k:=(by omega);simp_all)
    ·omega
  ·skip
   replace hc1:=dF hc1
   refine Wf ?_
   iterate 2 refine Wa ?_
   refine Wv (Zt (Y_pk [4] ?_));refine ZJ (Zq (l:=[0]) rfl ?_);refine ZC ?_;refine Zx (Zt (Yu ?_))
   refine Yj (.inr rfl) (.tmp rfl .nil) (fun w hw=>?_)
   refine ⟨_,M,rfl,Mem.le.refl M,hw.c,rfl,?_⟩
   refine congrArg (Value.int .i64) ?_
   exact (idxF_none (fun j hj=>hI j (by omega) hj)).symm
theorem ContainsFI_rd (M:Mem) (Hin:Hp) (l:Sl Int) (g:FuncId) (caps:List Value) (p:Int→Bool) (hl:RdS M Hin l.a (l.l.map (oneI .i64)) 1) (bl:l.l.length≤9223372036854775807) (hok:okFn Tryz.prog g=true) (hc:∀ x∈l.l,Fo Tryz.prog g ([.int .i64 x]++caps) M Hin (fun M' v=>M'=M∧v=.bool (p x))):Fo Tryz.prog 71 [l.val,.func (.func g) #[] caps.toArray] M Hin (fun M' v=>M'=M∧v=.bool (l.l.any p)):=by
  refine Vd Tryz.func71 rfl Tryz.ntmps71 rfl ?_;intro H
  refine ZJ (Zq (l:=[0]) rfl ?_);refine ZC ?_;refine Zx (Zt (ZJ (Zq (l:=[0,1,2,3,4]) rfl ?_)))
  iterate 2 refine ZA ?_
  refine X_fo rfl rfl F.ok120 rfl (IndexFI_rd _ Hin ⟨_,_,_⟩ g caps p hl bl hok hc) (by repeat first|exact Rem.here _|exact Rem.two|apply Rem.skip|apply Rem.over) (Yv rfl) ?_
  rintro _ M1 _ ⟨hM1,rfl⟩;subst M1
  refine YC ?_;refine ZC ?_;refine Zx (Zt (Y_pk [4] ?_));refine Yu ?_
  refine Yj (.inr rfl) (.tmp rfl .nil) (fun w hw=>?_)
  exact ⟨_,M,rfl,Mem.le.refl M,hw.c,rfl,congrArg Value.bool idxF_nn⟩
theorem avo_ok (M:Mem) (b:Nat) (a:Int):Fo Tryz.prog 72 ([.int .i64 a]++[.pointer (some ⟨b,0,none⟩)]) M [(b,rowO [.one (.func (.func 69) #[] #[])] 91)] (fun M' v=>M'=M∧v=.bool (decide (¬(0≤a∧a≤999)))):=by
  refine Vd Tryz.func72 rfl Tryz.ntmps72 rfl ?_;intro H
  refine ZJ (Zq (l:=[0]) rfl ?_);refine ZC ?_;refine Zx (Zt (ZJ (Zq (l:=[0,1,2,3,4]) rfl ?_)));refine ZI F.lay91 ?_;refine ZA ?_;refine X_fsV rfl rfl rfl F.ok69 rfl rfl (btw_ok M _ _ _) rfl ?_
  rintro _ rfl
  refine XA ?_;refine ZC ?_;refine Zx (Zt (Y_pk [3] ?_));refine Yu ?_
  refine Yj (.inr rfl) (.tmp rfl .nil) (fun w hw=>?_)
  refine ⟨_,M,rfl,Mem.le.refl M,hw.c,rfl,?_⟩
  clear hw
  refine congrArg Value.bool ?_
  (by_cases h9:0≤a∧a≤999 <;> simp [h9])
theorem IsN_ok (M:Mem) (n:ZP) (hn0:ZP.ok M n):Fs Tryz.prog 27 [n.enc] M (fun v=>v=Value.bool (decide (IsNd n.nd))):=by
  obtain ⟨⟨⟨Za,Zc⟩,⟨Zf,Zh⟩,⟨Zj,Zi,Zg⟩,⟨Ze,Zd,Zb⟩⟩,Zs,Zr,ZF,Zz,ZM,ZB,Zv,Zu,Zn,Zy,Zm,Zw,⟨Zp,Zo,Zl⟩,ZD,ZG⟩:=n
  have Yk:ZT.ok M ⟨⟨Za,Zc⟩,⟨Zf,Zh⟩,⟨Zj,Zi,Zg⟩,⟨Ze,Zd,Zb⟩⟩:=hn0.h0
  have Xb:SlK M ZE.segs 21 ⟨Zj,Zi,Zg⟩:=hn0.h0.h0
  have s_n_table_succ:SlM M Zj (Zg.map ZE.segs) 21:=Xb.h1
  have n_n_table_succ:(Zg.map ZE.segs).length=Zg.length:=List.length_map ..
  have m_n_table_succ:Zg.length≤9223372036854775807:=Xb.h2
  have c_n_table_succ:Zg.length≤Zi:=Xb.h3
  have YN:SlK M ZE.segs 21 ⟨Ze,Zd,Zb⟩:=hn0.h0.h1
  have s_n_table_fingers:SlM M Ze (Zb.map ZE.segs) 21:=YN.h1
  have n_n_table_fingers:(Zb.map ZE.segs).length=Zb.length:=List.length_map ..
  have m_n_table_fingers:Zb.length≤9223372036854775807:=YN.h2
  have c_n_table_fingers:Zb.length≤Zd:=YN.h3
  have Yr:SlK M (oneI .i64) 1 ⟨Zp,Zo,Zl⟩:=hn0.h1
  have s_n_avoid:SlM M Zp (Zl.map (oneI .i64)) 1:=Yr.h1
  have n_n_avoid:(Zl.map (oneI .i64)).length=Zl.length:=List.length_map ..
  have m_n_avoid:Zl.length≤9223372036854775807:=Yr.h2
  have c_n_avoid:Zl.length≤Zo:=Yr.h3
  refine Xs Tryz.func27 rfl Tryz.ntmps27 rfl ?_;intro H
  refine ZJ (Zq (l:=[0,1]) rfl ?_)
  refine Xk ?_;intro b1
  refine ZC ?_;refine Zx (Zt (Y_pk [2,1] ?_));refine ZJ (Zq (l:=[0,1]) rfl ?_)
  refine YW F.zero91 ?_;intro b2
  refine Yi F.lay91 ?_;refine Zx (Zt ?_)
  iterate 2 refine ZJ ?_
  refine Zq (l:=[0,1,2,3,4,5,6,7,8,9,10,11,12,13,14,15,16,17,18,19,20,21,22,23,24,25,26,27,28,29,30,31,32,33,34,35,36,37,38,39,40,41,42,43,44,45,46,47]) rfl ?_;refine Zk F.foff32_0 ?_;refine ZI F.lay28 ?_;refine X_fs rfl rfl F.ok70 rfl (IsT_ok _ ⟨⟨Za,Zc⟩,⟨Zf,Zh⟩,⟨Zj,Zi,Zg⟩,⟨Ze,Zd,Zb⟩⟩ Yk) rfl ?_
  rintro _ rfl
  refine XA ?_;refine ZA ?_
  refine Yp 10 rfl (fun hc3=>?_) (fun hc3=>?_)
  ·replace hc3:=nT hc3
   iterate 5 refine Yh ?_
   refine ZS ?_;refine ZA ?_
   iterate 8 refine Yh ?_
   refine ZS ?_;refine ZA ?_
   iterate 5 refine Yh ?_
   refine ZS ?_;refine ZA ?_
   iterate 4 refine Yh ?_
   refine ZS ?_;refine ZA ?_
   iterate 5 refine Yh ?_
   refine ZS ?_;refine ZA ?_
   iterate 5 refine Yh ?_
   refine ZS ?_;refine Zx (Zt (Y_pk [53,3,2,1] ?_));refine Xz rfl ?_;refine ZJ (Zq (l:=[0]) rfl ?_);refine ZC ?_;refine Zx (Zt (Y_pk [2,3,1] ?_));refine Yu (YY ?_)
   refine Yj (.inr rfl) (.tmp rfl .nil) (fun w hw=>?_)
   refine ⟨_,rfl,(hw.c),?_⟩
   clear hw
   show _=Value.bool (decide (IsTb (ZT.tb ⟨⟨Za,Zc⟩,⟨Zf,Zh⟩,⟨Zj,Zi,Zg⟩,⟨Ze,Zd,Zb⟩⟩)∧(1≤Zs∧Zs≤8)∧(Zr=true∨ZF≠-1)∧(0≤Zz∧Zz≤159)∧Zl.length≤16∧(0≤ZD∧ZD≤64)∧(0≤ZG∧ZG≤999999)∧(Xg ⟨Za,Zc⟩ ZF∧Xg ⟨Za,Zc⟩ ZB∧Xg ⟨Za,Zc⟩ Zu∧Xg ⟨Za,Zc⟩ Zy)∧∀ a∈Zl,YQ a))
   refine congrArg Value.bool ?_
   refine (decide_eq_false (fun h9=>?_)).symm
   obtain ⟨g1,g2,g3,g4,g5,g6,g7,⟨g8,g81,g82,g83⟩,g9⟩:=h9
   contradiction
  ·replace hc3:=nF hc3
   refine ZI F.lay91 ?_;refine Zk F.foff32_1 ?_;refine ZI F.lay3 ?_;refine X_fsV rfl rfl rfl F.ok69 rfl rfl (btw_ok M _ _ _) rfl ?_
   rintro _ rfl
   refine XA ?_;refine ZS ?_;refine ZA ?_
   refine Yp 17 rfl (fun hc4=>?_) (fun hc4=>?_)
   ·replace hc4:=nT hc4
    iterate 8 refine Yh ?_
    refine ZS ?_;refine ZA ?_
    iterate 5 refine Yh ?_
    refine ZS ?_;refine ZA ?_
    iterate 4 refine Yh ?_
    refine ZS ?_;refine ZA ?_
    iterate 5 refine Yh ?_
    refine ZS ?_;refine ZA ?_
    iterate 5 refine Yh ?_
    refine ZS ?_;refine Zx (Zt (Y_pk [53,3,2,1] ?_));refine Xz rfl ?_;refine ZJ (Zq (l:=[0]) rfl ?_);refine ZC ?_;refine Zx (Zt (Y_pk [2,3,1] ?_));refine Yu (YY ?_)
    refine Yj (.inr rfl) (.tmp rfl .nil) (fun w hw=>?_)
    refine ⟨_,rfl,(hw.c),?_⟩
    clear hw
    show _=Value.bool (decide (IsTb (ZT.tb ⟨⟨Za,Zc⟩,⟨Zf,Zh⟩,⟨Zj,Zi,Zg⟩,⟨Ze,Zd,Zb⟩⟩)∧(1≤Zs∧Zs≤8)∧(Zr=true∨ZF≠-1)∧(0≤Zz∧Zz≤159)∧Zl.length≤16∧(0≤ZD∧ZD≤64)∧(0≤ZG∧ZG≤999999)∧(Xg ⟨Za,Zc⟩ ZF∧Xg ⟨Za,Zc⟩ ZB∧Xg ⟨Za,Zc⟩ Zu∧Xg ⟨Za,Zc⟩ Zy)∧∀ a∈Zl,YQ a))
    refine congrArg Value.bool ?_
    refine (decide_eq_false (fun h9=>?_)).symm
    obtain ⟨g1,g2,g3,g4,g5,g6,g7,⟨g8,g81,g82,g83⟩,g9⟩:=h9
    contradiction
   ·replace hc4:=nF hc4
    refine Zk F.foff32_2 ?_;refine ZI F.lay4 ?_;refine XA ?_;refine ZA ?_
    refine Yp 21 rfl (fun hc5=>?_) (fun hc5=>?_)
    ·skip
     refine Zk F.foff32_3 ?_;refine ZI F.lay3 ?_;refine YC ?_
     iterate 2 refine ZS ?_
     refine ZA ?_
     refine Yp 27 rfl (fun hc6=>?_) (fun hc6=>?_)
     ·replace hc6:=dT hc6
      iterate 5 refine Yh ?_
      refine ZS ?_;refine ZA ?_
      iterate 4 refine Yh ?_
      refine ZS ?_;refine ZA ?_
      iterate 5 refine Yh ?_
      refine ZS ?_;refine ZA ?_
      iterate 5 refine Yh ?_
      refine ZS ?_;refine Zx (Zt (Y_pk [53,3,2,1] ?_));refine Xz rfl ?_;refine ZJ (Zq (l:=[0]) rfl ?_);refine ZC ?_;refine Zx (Zt (Y_pk [2,3,1] ?_));refine Yu (YY ?_)
      refine Yj (.inr rfl) (.tmp rfl .nil) (fun w hw=>?_)
      refine ⟨_,rfl,(hw.c),?_⟩
      clear hw
      show _=Value.bool (decide (IsTb (ZT.tb ⟨⟨Za,Zc⟩,⟨Zf,Zh⟩,⟨Zj,Zi,Zg⟩,⟨Ze,Zd,Zb⟩⟩)∧(1≤Zs∧Zs≤8)∧(Zr=true∨ZF≠-1)∧(0≤Zz∧Zz≤159)∧Zl.length≤16∧(0≤ZD∧ZD≤64)∧(0≤ZG∧ZG≤999999)∧(Xg ⟨Za,Zc⟩ ZF∧Xg ⟨Za,Zc⟩ ZB∧Xg ⟨Za,Zc⟩ Zu∧Xg ⟨Za,Zc⟩ Zy)∧∀ a∈Zl,YQ a))
      refine congrArg Value.bool ?_
      refine (decide_eq_false (fun h9=>?_)).symm
      obtain ⟨g1,g2,g3,g4,g5,g6,g7,⟨g8,g81,g82,g83⟩,g9⟩:=h9
      (simp_all;done)
     ·replace hc6:=dF hc6
      refine ZI F.lay91 ?_;refine Zk F.foff32_4 ?_;refine ZI F.lay3 ?_;refine X_fsV rfl rfl rfl F.ok69 rfl rfl (btw_ok M _ _ _) rfl ?_
      rintro _ rfl
      refine XA ?_;refine ZS ?_;refine ZA ?_
      refine Yp 34 rfl (fun hc7=>?_) (fun hc7=>?_)
      ·replace hc7:=nT hc7
       iterate 4 refine Yh ?_
       refine ZS ?_;refine ZA ?_
       iterate 5 refine Yh ?_
       refine ZS ?_;refine ZA ?_
       iterate 5 refine Yh ?_
       refine ZS ?_;refine Zx (Zt (Y_pk [53,3,2,1] ?_));refine Xz rfl ?_;refine ZJ (Zq (l:=[0]) rfl ?_);refine ZC ?_;refine Zx (Zt (Y_pk [2,3,1] ?_));refine Yu (YY ?_)
       refine Yj (.inr rfl) (.tmp rfl .nil) (fun w hw=>?_)
       refine ⟨_,rfl,(hw.c),?_⟩
       clear hw
       show _=Value.bool (decide (IsTb (ZT.tb ⟨⟨Za,Zc⟩,⟨Zf,Zh⟩,⟨Zj,Zi,Zg⟩,⟨Ze,Zd,Zb⟩⟩)∧(1≤Zs∧Zs≤8)∧(Zr=true∨ZF≠-1)∧(0≤Zz∧Zz≤159)∧Zl.length≤16∧(0≤ZD∧ZD≤64)∧(0≤ZG∧ZG≤999999)∧(Xg ⟨Za,Zc⟩ ZF∧Xg ⟨Za,Zc⟩ ZB∧Xg ⟨Za,Zc⟩ Zu∧Xg ⟨Za,Zc⟩ Zy)∧∀ a∈Zl,YQ a))
       refine congrArg Value.bool ?_
       refine (decide_eq_false (fun h9=>?_)).symm
       obtain ⟨g1,g2,g3,g4,g5,g6,g7,⟨g8,g81,g82,g83⟩,g9⟩:=h9
       contradiction
      ·replace hc7:=nF hc7
       refine Zk F.foff32_13 ?_;refine ZI F.lay30 ?_;refine YZ F.elem30 ?_;refine YC ?_;refine ZS ?_;refine ZA ?_
       refine Yp 40 rfl (fun hc8=>?_) (fun hc8=>?_)
       ·replace hc8:=dT hc8
        iterate 5 refine Yh ?_
        refine ZS ?_;refine ZA ?_
        iterate 5 refine Yh ?_
        refine ZS ?_;refine Zx (Zt (Y_pk [53,3,2,1] ?_));refine Xz rfl ?_;refine ZJ (Zq (l:=[0]) rfl ?_);refine ZC ?_;refine Zx (Zt (Y_pk [2,3,1] ?_));refine Yu (YY ?_)
        refine Yj (.inr rfl) (.tmp rfl .nil) (fun w hw=>?_)
        refine ⟨_,rfl,(hw.c),?_⟩
        clear hw
        show _=Value.bool (decide (IsTb (ZT.tb ⟨⟨Za,Zc⟩,⟨Zf,Zh⟩,⟨Zj,Zi,Zg⟩,⟨Ze,Zd,Zb⟩⟩)∧(1≤Zs∧Zs≤8)∧(Zr=true∨ZF≠-1)∧(0≤Zz∧Zz≤159)∧Zl.length≤16∧(0≤ZD∧ZD≤64)∧(0≤ZG∧ZG≤999999)∧(Xg ⟨Za,Zc⟩ ZF∧Xg ⟨Za,Zc⟩ ZB∧Xg ⟨Za,Zc⟩ Zu∧Xg ⟨Za,Zc⟩ Zy)∧∀ a∈Zl,YQ a))
        refine congrArg Value.bool ?_
        refine (decide_eq_false (fun h9=>?_)).symm
        obtain ⟨g1,g2,g3,g4,g5,g6,g7,⟨g8,g81,g82,g83⟩,g9⟩:=h9
        omega
       ·replace hc8:=dF hc8
        refine ZI F.lay91 ?_;refine Zk F.foff32_14 ?_;refine ZI F.lay3 ?_;refine X_fsV rfl rfl rfl F.ok69 rfl rfl (btw_ok M _ _ _) rfl ?_
        rintro _ rfl
        refine XA ?_;refine ZS ?_;refine ZA ?_
        refine Yp 47 rfl (fun hc9=>?_) (fun hc9=>?_)
        ·replace hc9:=nT hc9
         iterate 5 refine Yh ?_
         refine ZS ?_;refine Zx (Zt (Y_pk [53,3,2,1] ?_));refine Xz rfl ?_;refine ZJ (Zq (l:=[0]) rfl ?_);refine ZC ?_;refine Zx (Zt (Y_pk [2,3,1] ?_));refine Yu (YY ?_)
         refine Yj (.inr rfl) (.tmp rfl .nil) (fun w hw=>?_)
         refine ⟨_,rfl,(hw.c),?_⟩
         clear hw
         show _=Value.bool (decide (IsTb (ZT.tb ⟨⟨Za,Zc⟩,⟨Zf,Zh⟩,⟨Zj,Zi,Zg⟩,⟨Ze,Zd,Zb⟩⟩)∧(1≤Zs∧Zs≤8)∧(Zr=true∨ZF≠-1)∧(0≤Zz∧Zz≤159)∧Zl.length≤16∧(0≤ZD∧ZD≤64)∧(0≤ZG∧ZG≤999999)∧(Xg ⟨Za,Zc⟩ ZF∧Xg ⟨Za,Zc⟩ ZB∧Xg ⟨Za,Zc⟩ Zu∧Xg ⟨Za,Zc⟩ Zy)∧∀ a∈Zl,YQ a))
         refine congrArg Value.bool ?_
         refine (decide_eq_false (fun h9=>?_)).symm
         obtain ⟨g1,g2,g3,g4,g5,g6,g7,⟨g8,g81,g82,g83⟩,g9⟩:=h9
         contradiction
        ·replace hc9:=nF hc9
         refine ZI F.lay91 ?_;refine Zk F.foff32_15 ?_;refine ZI F.lay3 ?_;refine X_fsV rfl rfl rfl F.ok69 rfl rfl (btw_ok M _ _ _) rfl ?_
         rintro _ rfl
         refine XA ?_;refine ZS ?_;refine Zx (Zt (Y_pk [53,3,2,1] ?_))
         refine YA rfl (fun hc10=>?_) (fun hc10=>?_)
         ·replace hc10:=nT hc10
          refine ZJ (Zq (l:=[0]) rfl ?_);refine ZC ?_;refine Zx (Zt (Y_pk [2,3,1] ?_));refine Yu (YY ?_)
          refine Yj (.inr rfl) (.tmp rfl .nil) (fun w hw=>?_)
          refine ⟨_,rfl,(hw.c),?_⟩
          clear hw
          show _=Value.bool (decide (IsTb (ZT.tb ⟨⟨Za,Zc⟩,⟨Zf,Zh⟩,⟨Zj,Zi,Zg⟩,⟨Ze,Zd,Zb⟩⟩)∧(1≤Zs∧Zs≤8)∧(Zr=true∨ZF≠-1)∧(0≤Zz∧Zz≤159)∧Zl.length≤16∧(0≤ZD∧ZD≤64)∧(0≤ZG∧ZG≤999999)∧(Xg ⟨Za,Zc⟩ ZF∧Xg ⟨Za,Zc⟩ ZB∧Xg ⟨Za,Zc⟩ Zu∧Xg ⟨Za,Zc⟩ Zy)∧∀ a∈Zl,YQ a))
          refine congrArg Value.bool ?_
          refine (decide_eq_false (fun h9=>?_)).symm
          obtain ⟨g1,g2,g3,g4,g5,g6,g7,⟨g8,g81,g82,g83⟩,g9⟩:=h9
          contradiction
         ·replace hc10:=nF hc10
          refine Yz (Zt (Y_pk [3,2,1] ?_))
          iterate 2 refine ZJ ?_
          refine Zq (l:=[0,1,2,3,4,5,6,7,8,9,10]) rfl ?_;refine Zk F.foff32_3 ?_;refine ZI F.lay3 ?_;refine Zk F.foff32_6 ?_;refine ZI F.lay3 ?_;refine Zk F.foff32_8 ?_;refine ZI F.lay3 ?_;refine Zk F.foff32_10 ?_;refine ZI F.lay3 ?_
          refine XZ rfl rfl F.elem30 F.zero3 rfl rfl (.cons rfl (by constructor) (.cons rfl (by constructor) (.cons rfl (by constructor) (.cons rfl (by constructor) .nil)))) rfl rfl (by simp only [List.map_cons,List.map_nil] <;> rfl) rfl ?_;intro b11 hob12
          obtain ⟨L4,hL4⟩:∃ l,[ZF,ZB,Zu,Zy]=l:=⟨_,rfl⟩
          have ho4:=OSl.as9 hob12 (show _=L4.map (oneI .i64) by rw [← hL4];rfl)
          have hl4:L4.length=4:=by rw [← hL4];rfl
          have n_L4:(L4.map (oneI .i64)).length=L4.length:=List.length_map ..
          refine YZ F.elem30 ?_;refine ZA ?_;refine Zx (Zt (Y_pk [64,63,62,3,2,1] ?_));refine Xe (Y_pk [64,63,62,3,2,1] ?_);refine VA (.succ .zero) (fun (k:Nat) z=>z=[(64,.int .i64 (k:Int))]∧k≤4∧∀ j (h:j<L4.length),j<k→Xg ⟨Za,Zc⟩ L4[j]) (fun k=>4-k) (0) (⟨rfl,by omega,fun j h hj=>by omega⟩) ?_
          rintro k _ ⟨rfl,hk,hI⟩
          refine ZJ (Zq (l:=[0]) rfl ?_);refine YC ?_;refine Zx (Zt (ZJ ?_))
          refine YA rfl (fun hc13=>?_) (fun hc13=>?_)
          ·replace hc13:=dT hc13
           refine Yz (Zt (ZJ (Xe (ZJ (Zq (l:=[0,1,2]) rfl ?_)))));refine Xa rfl rfl rfl rfl F.elem30 (by rfl) (by omega) (by exact ⟨_,_,rfl⟩) rfl ?_;refine X_load_osl rfl rfl rfl (by assumption) (by repeat first|exact Rem.here _|exact Rem.two|apply Rem.skip|apply Rem.over) (by exact WB (by omega)) F.lay3 rfl rfl rfl ?_;refine ZC ?_;refine Zx (Zt (ZJ (Zq (l:=[0,1,2,3,4,5,6,7,8,9,10,11]) rfl ?_)));refine ZI F.lay91 ?_;refine ZA ?_;refine X_fsV rfl rfl rfl F.ok69 rfl rfl (btw_ok M _ _ _) rfl ?_
           rintro _ rfl
           refine XA ?_;refine ZA ?_
           refine Yp 72 rfl (fun hc14=>?_) (fun hc14=>?_)
           ·replace hc14:=nT hc14
            iterate 6 refine Yh ?_
            refine ZS ?_;refine Zx (Zt (Xz rfl ?_));refine ZJ (Zq (l:=[0]) rfl ?_);refine ZC ?_;refine Zx (Zt (Yu (Xy ?_)))
            iterate 2 refine YY ?_
            refine Xy (YY ?_)
            refine Yj (.inr rfl) (.tmp rfl .nil) (fun w hw=>?_)
            refine ⟨_,rfl,(hw.c),?_⟩
            clear hw
            show _=Value.bool (decide (IsTb (ZT.tb ⟨⟨Za,Zc⟩,⟨Zf,Zh⟩,⟨Zj,Zi,Zg⟩,⟨Ze,Zd,Zb⟩⟩)∧(1≤Zs∧Zs≤8)∧(Zr=true∨ZF≠-1)∧(0≤Zz∧Zz≤159)∧Zl.length≤16∧(0≤ZD∧ZD≤64)∧(0≤ZG∧ZG≤999999)∧(Xg ⟨Za,Zc⟩ ZF∧Xg ⟨Za,Zc⟩ ZB∧Xg ⟨Za,Zc⟩ Zu∧Xg ⟨Za,Zc⟩ Zy)∧∀ a∈Zl,YQ a))
            refine congrArg Value.bool ?_
            refine (decide_eq_false (fun h9=>?_)).symm
            obtain ⟨g1,g2,g3,g4,g5,g6,g7,⟨g8,g81,g82,g83⟩,g9⟩:=h9
            have h5:=(addr4 (s:=⟨Za,Zc⟩)).2 ⟨g8,g81,g82,g83⟩
            have h6:=fun j (h:j<L4.length)=>(show Xg ⟨Za,Zc⟩ L4[j] from by subst hL4;exact h5 j h)
            have h7:=h6 k (by omega)
            obtain ⟨h71,h72⟩:=h7
            contradiction
           ·replace hc14:=nF hc14
            refine ZA ?_;refine Zk F.foff32_0 ?_;refine Zk F.foff28_0 ?_;refine Zk F.foff25_0 ?_;refine ZI F.lay3 ?_;refine YC ?_;refine ZS ?_;refine Zx (Zt ?_)
            refine YA rfl (fun hc15=>?_) (fun hc15=>?_)
            ·replace hc15:=dT hc15
             refine ZJ (Zq (l:=[0]) rfl ?_);refine ZC ?_;refine Zx (Zt (Yu (Xy ?_)))
             iterate 2 refine YY ?_
             refine Xy (YY ?_)
             refine Yj (.inr rfl) (.tmp rfl .nil) (fun w hw=>?_)
             refine ⟨_,rfl,(hw.c),?_⟩
             clear hw
             show _=Value.bool (decide (IsTb (ZT.tb ⟨⟨Za,Zc⟩,⟨Zf,Zh⟩,⟨Zj,Zi,Zg⟩,⟨Ze,Zd,Zb⟩⟩)∧(1≤Zs∧Zs≤8)∧(Zr=true∨ZF≠-1)∧(0≤Zz∧Zz≤159)∧Zl.length≤16∧(0≤ZD∧ZD≤64)∧(0≤ZG∧ZG≤999999)∧(Xg ⟨Za,Zc⟩ ZF∧Xg ⟨Za,Zc⟩ ZB∧Xg ⟨Za,Zc⟩ Zu∧Xg ⟨Za,Zc⟩ Zy)∧∀ a∈Zl,YQ a))
             refine congrArg Value.bool ?_
             refine (decide_eq_false (fun h9=>?_)).symm
             obtain ⟨g1,g2,g3,g4,g5,g6,g7,⟨g8,g81,g82,g83⟩,g9⟩:=h9
             have h5:=(addr4 (s:=⟨Za,Zc⟩)).2 ⟨g8,g81,g82,g83⟩
             have h6:=fun j (h:j<L4.length)=>(show Xg ⟨Za,Zc⟩ L4[j] from by subst hL4;exact h5 j h)
             have h7:=h6 k (by omega)
             obtain ⟨h71,h72⟩:=h7
             contradiction
            ·replace hc15:=dF hc15
             refine Yz (Wg (Zt (Zq (l:=[0,1]) rfl ?_)));refine XY rfl rfl rfl rfl rfl (by exact Xl (by decide) (by omega)) rfl ?_;refine ZA ?_;refine Zx ?_;refine K_roundS (a':=[(64,_)]) (k+1) (.cons (k:=64) rfl (.cons (k:=63) rfl (.cons (k:=62) rfl (.cons (k:=3) rfl (.cons (k:=2) rfl (.cons (k:=1) rfl (.nil))))))) (fun w hw=>by first|exact hw|exact hw.c) ?_ ?_
             ·refine ⟨rfl,by omega,fun j h hj=>?_⟩
              rcases Nat.lt_or_ge j k with h9|h9
              ·exact hI j h h9
              ·have hjk:j=k:=by omega
               subst hjk
               exact ⟨by assumption,by assumption⟩
             ·omega
          ·replace hc13:=dF hc13
           refine Wf ?_
           iterate 2 refine Wa ?_
           refine Wv (Zt (Y_pk [3,2,1] ?_));refine ZJ (Zq (l:=[0,1,2,3,4,5]) rfl ?_);refine Zk F.foff32_13 ?_;refine ZI F.lay30 ?_;refine X_makeFunc rfl rfl rfl rfl rfl ?_;refine X_fo rfl rfl F.ok71 rfl (ContainsFI_rd _ [(b2,_)] ⟨_,_,_⟩ 72 [_] (fun a=>decide (¬(0≤a∧a≤999))) (s_n_avoid.rd _) m_n_avoid F.ok72 (fun x hx=>avo_ok M _ x)) (by repeat first|exact Rem.here _|exact Rem.two|apply Rem.skip|apply Rem.over) (Yv rfl) ?_
           rintro _ M1 _ ⟨hM1,rfl⟩;subst M1
           refine XA ?_;refine ZC ?_;refine Zx (Zt (Y_pk [2] ?_));refine Yu ?_
           refine Yj (.inr rfl) (.tmp rfl .nil) (fun w hw=>?_)
           refine ⟨_,rfl,(hw.c),?_⟩
           clear hw
           obtain rfl:k=4:=by omega
           have h4:∀ j (h:j<[ZF,ZB,Zu,Zy].length),Xg ⟨Za,Zc⟩ [ZF,ZB,Zu,Zy][j]:=by rw [hL4];exact fun j h=>hI j h (by omega)
           have h5:=addr4.1 h4
           show _=Value.bool (decide (IsTb (ZT.tb ⟨⟨Za,Zc⟩,⟨Zf,Zh⟩,⟨Zj,Zi,Zg⟩,⟨Ze,Zd,Zb⟩⟩)∧(1≤Zs∧Zs≤8)∧(Zr=true∨ZF≠-1)∧(0≤Zz∧Zz≤159)∧Zl.length≤16∧(0≤ZD∧ZD≤64)∧(0≤ZG∧ZG≤999999)∧(Xg ⟨Za,Zc⟩ ZF∧Xg ⟨Za,Zc⟩ ZB∧Xg ⟨Za,Zc⟩ Zu∧Xg ⟨Za,Zc⟩ Zy)∧∀ a∈Zl,YQ a))
           refine congrArg Value.bool ?_
           have h6:=any_odd (l:=Zl)
           obtain ⟨B,hB⟩:∃ b,(Zl.any fun a=>decide (¬(0≤a∧a≤999)))=b:=⟨_,rfl⟩
           rw [hB] at h6 ⊢
           cases B
           ·exact (decide_eq_true ⟨by assumption,by first|assumption|omega,by first|assumption|(simp_all;done),by first|assumption|omega,by omega,by first|assumption|omega,by first|assumption|omega,h5,h6.1 rfl⟩).symm
           ·exact (decide_eq_false (fun h9=>by have h8:=h6.2 h9.2.2.2.2.2.2.2.2;cases h8)).symm
    ·skip
     iterate 3 refine Yh ?_
     iterate 2 refine ZS ?_
     refine ZA ?_;refine ZI F.lay91 ?_;refine Zk F.foff32_4 ?_;refine ZI F.lay3 ?_;refine X_fsV rfl rfl rfl F.ok69 rfl rfl (btw_ok M _ _ _) rfl ?_
     rintro _ rfl
     refine XA ?_;refine ZS ?_;refine ZA ?_
     refine Yp 34 rfl (fun hc16=>?_) (fun hc16=>?_)
     ·replace hc16:=nT hc16
      iterate 4 refine Yh ?_
      refine ZS ?_;refine ZA ?_
      iterate 5 refine Yh ?_
      refine ZS ?_;refine ZA ?_
      iterate 5 refine Yh ?_
      refine ZS ?_;refine Zx (Zt (Y_pk [53,3,2,1] ?_));refine Xz rfl ?_;refine ZJ (Zq (l:=[0]) rfl ?_);refine ZC ?_;refine Zx (Zt (Y_pk [2,3,1] ?_));refine Yu (YY ?_)
      refine Yj (.inr rfl) (.tmp rfl .nil) (fun w hw=>?_)
      refine ⟨_,rfl,(hw.c),?_⟩
      clear hw
      show _=Value.bool (decide (IsTb (ZT.tb ⟨⟨Za,Zc⟩,⟨Zf,Zh⟩,⟨Zj,Zi,Zg⟩,⟨Ze,Zd,Zb⟩⟩)∧(1≤Zs∧Zs≤8)∧(Zr=true∨ZF≠-1)∧(0≤Zz∧Zz≤159)∧Zl.length≤16∧(0≤ZD∧ZD≤64)∧(0≤ZG∧ZG≤999999)∧(Xg ⟨Za,Zc⟩ ZF∧Xg ⟨Za,Zc⟩ ZB∧Xg ⟨Za,Zc⟩ Zu∧Xg ⟨Za,Zc⟩ Zy)∧∀ a∈Zl,YQ a))
      refine congrArg Value.bool ?_
      refine (decide_eq_false (fun h9=>?_)).symm
      obtain ⟨g1,g2,g3,g4,g5,g6,g7,⟨g8,g81,g82,g83⟩,g9⟩:=h9
      contradiction
     ·replace hc16:=nF hc16
      refine Zk F.foff32_13 ?_;refine ZI F.lay30 ?_;refine YZ F.elem30 ?_;refine YC ?_;refine ZS ?_;refine ZA ?_
      refine Yp 40 rfl (fun hc17=>?_) (fun hc17=>?_)
      ·replace hc17:=dT hc17
       iterate 5 refine Yh ?_
       refine ZS ?_;refine ZA ?_
       iterate 5 refine Yh ?_
       refine ZS ?_;refine Zx (Zt (Y_pk [53,3,2,1] ?_));refine Xz rfl ?_;refine ZJ (Zq (l:=[0]) rfl ?_);refine ZC ?_;refine Zx (Zt (Y_pk [2,3,1] ?_));refine Yu (YY ?_)
       refine Yj (.inr rfl) (.tmp rfl .nil) (fun w hw=>?_)
       refine ⟨_,rfl,(hw.c),?_⟩
       clear hw
       show _=Value.bool (decide (IsTb (ZT.tb ⟨⟨Za,Zc⟩,⟨Zf,Zh⟩,⟨Zj,Zi,Zg⟩,⟨Ze,Zd,Zb⟩⟩)∧(1≤Zs∧Zs≤8)∧(Zr=true∨ZF≠-1)∧(0≤Zz∧Zz≤159)∧Zl.length≤16∧(0≤ZD∧ZD≤64)∧(0≤ZG∧ZG≤999999)∧(Xg ⟨Za,Zc⟩ ZF∧Xg ⟨Za,Zc⟩ ZB∧Xg ⟨Za,Zc⟩ Zu∧Xg ⟨Za,Zc⟩ Zy)∧∀ a∈Zl,YQ a))
       refine congrArg Value.bool ?_
       refine (decide_eq_false (fun h9=>?_)).symm
       obtain ⟨g1,g2,g3,g4,g5,g6,g7,⟨g8,g81,g82,g83⟩,g9⟩:=h9
       omega
      ·replace hc17:=dF hc17
       refine ZI F.lay91 ?_;refine Zk F.foff32_14 ?_;refine ZI F.lay3 ?_;refine X_fsV rfl rfl rfl F.ok69 rfl rfl (btw_ok M _ _ _) rfl ?_
       rintro _ rfl
       refine XA ?_;refine ZS ?_;refine ZA ?_
       refine Yp 47 rfl (fun hc18=>?_) (fun hc18=>?_)
       ·replace hc18:=nT hc18
        iterate 5 refine Yh ?_
        refine ZS ?_;refine Zx (Zt (Y_pk [53,3,2,1] ?_));refine Xz rfl ?_;refine ZJ (Zq (l:=[0]) rfl ?_);refine ZC ?_;refine Zx (Zt (Y_pk [2,3,1] ?_));refine Yu (YY ?_)
        refine Yj (.inr rfl) (.tmp rfl .nil) (fun w hw=>?_)
        refine ⟨_,rfl,(hw.c),?_⟩
        clear hw
        show _=Value.bool (decide (IsTb (ZT.tb ⟨⟨Za,Zc⟩,⟨Zf,Zh⟩,⟨Zj,Zi,Zg⟩,⟨Ze,Zd,Zb⟩⟩)∧(1≤Zs∧Zs≤8)∧(Zr=true∨ZF≠-1)∧(0≤Zz∧Zz≤159)∧Zl.length≤16∧(0≤ZD∧ZD≤64)∧(0≤ZG∧ZG≤999999)∧(Xg ⟨Za,Zc⟩ ZF∧Xg ⟨Za,Zc⟩ ZB∧Xg ⟨Za,Zc⟩ Zu∧Xg ⟨Za,Zc⟩ Zy)∧∀ a∈Zl,YQ a))
        refine congrArg Value.bool ?_
        refine (decide_eq_false (fun h9=>?_)).symm
        obtain ⟨g1,g2,g3,g4,g5,g6,g7,⟨g8,g81,g82,g83⟩,g9⟩:=h9
        contradiction
       ·replace hc18:=nF hc18
        refine ZI F.lay91 ?_;refine Zk F.foff32_15 ?_;refine ZI F.lay3 ?_;refine X_fsV rfl rfl rfl F.ok69 rfl rfl (btw_ok M _ _ _) rfl ?_
        rintro _ rfl
        refine XA ?_;refine ZS ?_;refine Zx (Zt (Y_pk [53,3,2,1] ?_))
        refine YA rfl (fun hc19=>?_) (fun hc19=>?_)
        ·replace hc19:=nT hc19
         refine ZJ (Zq (l:=[0]) rfl ?_);refine ZC ?_;refine Zx (Zt (Y_pk [2,3,1] ?_));refine Yu (YY ?_)
         refine Yj (.inr rfl) (.tmp rfl .nil) (fun w hw=>?_)
         refine ⟨_,rfl,(hw.c),?_⟩
         clear hw
         show _=Value.bool (decide (IsTb (ZT.tb ⟨⟨Za,Zc⟩,⟨Zf,Zh⟩,⟨Zj,Zi,Zg⟩,⟨Ze,Zd,Zb⟩⟩)∧(1≤Zs∧Zs≤8)∧(Zr=true∨ZF≠-1)∧(0≤Zz∧Zz≤159)∧Zl.length≤16∧(0≤ZD∧ZD≤64)∧(0≤ZG∧ZG≤999999)∧(Xg ⟨Za,Zc⟩ ZF∧Xg ⟨Za,Zc⟩ ZB∧Xg ⟨Za,Zc⟩ Zu∧Xg ⟨Za,Zc⟩ Zy)∧∀ a∈Zl,YQ a))
         refine congrArg Value.bool ?_
         refine (decide_eq_false (fun h9=>?_)).symm
         obtain ⟨g1,g2,g3,g4,g5,g6,g7,⟨g8,g81,g82,g83⟩,g9⟩:=h9
         contradiction
        ·replace hc19:=nF hc19
         refine Yz (Zt (Y_pk [3,2,1] ?_))
         iterate 2 refine ZJ ?_
         refine Zq (l:=[0,1,2,3,4,5,6,7,8,9,10]) rfl ?_;refine Zk F.foff32_3 ?_;refine ZI F.lay3 ?_;refine Zk F.foff32_6 ?_;refine ZI F.lay3 ?_;refine Zk F.foff32_8 ?_;refine ZI F.lay3 ?_;refine Zk F.foff32_10 ?_;refine ZI F.lay3 ?_
         refine XZ rfl rfl F.elem30 F.zero3 rfl rfl (.cons rfl (by constructor) (.cons rfl (by constructor) (.cons rfl (by constructor) (.cons rfl (by constructor) .nil)))) rfl rfl (by simp only [List.map_cons,List.map_nil] <;> rfl) rfl ?_;intro b20 hob21
         obtain ⟨L4,hL4⟩:∃ l,[ZF,ZB,Zu,Zy]=l:=⟨_,rfl⟩
         have ho4:=OSl.as9 hob21 (show _=L4.map (oneI .i64) by rw [← hL4];rfl)
         have hl4:L4.length=4:=by rw [← hL4];rfl
         have n_L4:(L4.map (oneI .i64)).length=L4.length:=List.length_map ..
         refine YZ F.elem30 ?_;refine ZA ?_;refine Zx (Zt (Y_pk [64,63,62,3,2,1] ?_));refine Xe (Y_pk [64,63,62,3,2,1] ?_);refine VA (.succ .zero) (fun (k:Nat) z=>z=[(64,.int .i64 (k:Int))]∧k≤4∧∀ j (h:j<L4.length),j<k→Xg ⟨Za,Zc⟩ L4[j]) (fun k=>4-k) (0) (⟨rfl,by omega,fun j h hj=>by omega⟩) ?_
         rintro k _ ⟨rfl,hk,hI⟩
         refine ZJ (Zq (l:=[0]) rfl ?_);refine YC ?_;refine Zx (Zt (ZJ ?_))
         refine YA rfl (fun hc22=>?_) (fun hc22=>?_)
         ·replace hc22:=dT hc22
          refine Yz (Zt (ZJ (Xe (ZJ (Zq (l:=[0,1,2]) rfl ?_)))));refine Xa rfl rfl rfl rfl F.elem30 (by rfl) (by omega) (by exact ⟨_,_,rfl⟩) rfl ?_;refine X_load_osl rfl rfl rfl (by assumption) (by repeat first|exact Rem.here _|exact Rem.two|apply Rem.skip|apply Rem.over) (by exact WB (by omega)) F.lay3 rfl rfl rfl ?_;refine ZC ?_;refine Zx (Zt (ZJ (Zq (l:=[0,1,2,3,4,5,6,7,8,9,10,11]) rfl ?_)));refine ZI F.lay91 ?_;refine ZA ?_;refine X_fsV rfl rfl rfl F.ok69 rfl rfl (btw_ok M _ _ _) rfl ?_
          rintro _ rfl
          refine XA ?_;refine ZA ?_
          refine Yp 72 rfl (fun hc23=>?_) (fun hc23=>?_)
          ·replace hc23:=nT hc23
           iterate 6 refine Yh ?_
           refine ZS ?_;refine Zx (Zt (Xz rfl ?_));refine ZJ (Zq (l:=[0]) rfl ?_);refine ZC ?_;refine Zx (Zt (Yu (Xy ?_)))
           iterate 2 refine YY ?_
           refine Xy (YY ?_)
           refine Yj (.inr rfl) (.tmp rfl .nil) (fun w hw=>?_)
           refine ⟨_,rfl,(hw.c),?_⟩
           clear hw
           show _=Value.bool (decide (IsTb (ZT.tb ⟨⟨Za,Zc⟩,⟨Zf,Zh⟩,⟨Zj,Zi,Zg⟩,⟨Ze,Zd,Zb⟩⟩)∧(1≤Zs∧Zs≤8)∧(Zr=true∨ZF≠-1)∧(0≤Zz∧Zz≤159)∧Zl.length≤16∧(0≤ZD∧ZD≤64)∧(0≤ZG∧ZG≤999999)∧(Xg ⟨Za,Zc⟩ ZF∧Xg ⟨Za,Zc⟩ ZB∧Xg ⟨Za,Zc⟩ Zu∧Xg ⟨Za,Zc⟩ Zy)∧∀ a∈Zl,YQ a))
           refine congrArg Value.bool ?_
           refine (decide_eq_false (fun h9=>?_)).symm
           obtain ⟨g1,g2,g3,g4,g5,g6,g7,⟨g8,g81,g82,g83⟩,g9⟩:=h9
           have h5:=(addr4 (s:=⟨Za,Zc⟩)).2 ⟨g8,g81,g82,g83⟩
           have h6:=fun j (h:j<L4.length)=>(show Xg ⟨Za,Zc⟩ L4[j] from by subst hL4;exact h5 j h)
           have h7:=h6 k (by omega)
           obtain ⟨h71,h72⟩:=h7
           contradiction
          ·replace hc23:=nF hc23
           refine ZA ?_;refine Zk F.foff32_0 ?_;refine Zk F.foff28_0 ?_;refine Zk F.foff25_0 ?_;refine ZI F.lay3 ?_;refine YC ?_;refine ZS ?_;refine Zx (Zt ?_)
           refine YA rfl (fun hc24=>?_) (fun hc24=>?_)
           ·replace hc24:=dT hc24
            refine ZJ (Zq (l:=[0]) rfl ?_);refine ZC ?_;refine Zx (Zt (Yu (Xy ?_)))
            iterate 2 refine YY ?_
            refine Xy (YY ?_)
            refine Yj (.inr rfl) (.tmp rfl .nil) (fun w hw=>?_)
            refine ⟨_,rfl,(hw.c),?_⟩
            clear hw
            show _=Value.bool (decide (IsTb (ZT.tb ⟨⟨Za,Zc⟩,⟨Zf,Zh⟩,⟨Zj,Zi,Zg⟩,⟨Ze,Zd,Zb⟩⟩)∧(1≤Zs∧Zs≤8)∧(Zr=true∨ZF≠-1)∧(0≤Zz∧Zz≤159)∧Zl.length≤16∧(0≤ZD∧ZD≤64)∧(0≤ZG∧ZG≤999999)∧(Xg ⟨Za,Zc⟩ ZF∧Xg ⟨Za,Zc⟩ ZB∧Xg ⟨Za,Zc⟩ Zu∧Xg ⟨Za,Zc⟩ Zy)∧∀ a∈Zl,YQ a))
            refine congrArg Value.bool ?_
            refine (decide_eq_false (fun h9=>?_)).symm
            obtain ⟨g1,g2,g3,g4,g5,g6,g7,⟨g8,g81,g82,g83⟩,g9⟩:=h9
            have h5:=(addr4 (s:=⟨Za,Zc⟩)).2 ⟨g8,g81,g82,g83⟩
            have h6:=fun j (h:j<L4.length)=>(show Xg ⟨Za,Zc⟩ L4[j] from by subst hL4;exact h5 j h)
            have h7:=h6 k (by omega)
            obtain ⟨h71,h72⟩:=h7
            contradiction
           ·replace hc24:=dF hc24
            refine Yz (Wg (Zt (Zq (l:=[0,1]) rfl ?_)));refine XY rfl rfl rfl rfl rfl (by exact Xl (by decide) (by omega)) rfl ?_;refine ZA ?_;refine Zx ?_;refine K_roundS (a':=[(64,_)]) (k+1) (.cons (k:=64) rfl (.cons (k:=63) rfl (.cons (k:=62) rfl (.cons (k:=3) rfl (.cons (k:=2) rfl (.cons (k:=1) rfl (.nil))))))) (fun w hw=>by first|exact hw|exact hw.c) ?_ ?_
            ·refine ⟨rfl,by omega,fun j h hj=>?_⟩
             rcases Nat.lt_or_ge j k with h9|h9
             ·exact hI j h h9
             ·have hjk:j=k:=by omega
              subst hjk
              exact ⟨by assumption,by assumption⟩
            ·omega
         ·replace hc22:=dF hc22
          refine Wf ?_
          iterate 2 refine Wa ?_
          refine Wv (Zt (Y_pk [3,2,1] ?_));refine ZJ (Zq (l:=[0,1,2,3,4,5]) rfl ?_);refine Zk F.foff32_13 ?_;refine ZI F.lay30 ?_;refine X_makeFunc rfl rfl rfl rfl rfl ?_;refine X_fo rfl rfl F.ok71 rfl (ContainsFI_rd _ [(b2,_)] ⟨_,_,_⟩ 72 [_] (fun a=>decide (¬(0≤a∧a≤999))) (s_n_avoid.rd _) m_n_avoid F.ok72 (fun x hx=>avo_ok M _ x)) (by repeat first|exact Rem.here _|exact Rem.two|apply Rem.skip|apply Rem.over) (Yv rfl) ?_
          rintro _ M1 _ ⟨hM1,rfl⟩;subst M1
          refine XA ?_;refine ZC ?_;refine Zx (Zt (Y_pk [2] ?_));refine Yu ?_
          refine Yj (.inr rfl) (.tmp rfl .nil) (fun w hw=>?_)
          refine ⟨_,rfl,(hw.c),?_⟩
          clear hw
          obtain rfl:k=4:=by omega
          have h4:∀ j (h:j<[ZF,ZB,Zu,Zy].length),Xg ⟨Za,Zc⟩ [ZF,ZB,Zu,Zy][j]:=by rw [hL4];exact fun j h=>hI j h (by omega)
          have h5:=addr4.1 h4
          show _=Value.bool (decide (IsTb (ZT.tb ⟨⟨Za,Zc⟩,⟨Zf,Zh⟩,⟨Zj,Zi,Zg⟩,⟨Ze,Zd,Zb⟩⟩)∧(1≤Zs∧Zs≤8)∧(Zr=true∨ZF≠-1)∧(0≤Zz∧Zz≤159)∧Zl.length≤16∧(0≤ZD∧ZD≤64)∧(0≤ZG∧ZG≤999999)∧(Xg ⟨Za,Zc⟩ ZF∧Xg ⟨Za,Zc⟩ ZB∧Xg ⟨Za,Zc⟩ Zu∧Xg ⟨Za,Zc⟩ Zy)∧∀ a∈Zl,YQ a))
          refine congrArg Value.bool ?_
          have h6:=any_odd (l:=Zl)
          obtain ⟨B,hB⟩:∃ b,(Zl.any fun a=>decide (¬(0≤a∧a≤999)))=b:=⟨_,rfl⟩
          rw [hB] at h6 ⊢
          cases B
          ·exact (decide_eq_true ⟨by assumption,by first|assumption|omega,by first|assumption|(simp_all;done),by first|assumption|omega,by omega,by first|assumption|omega,by first|assumption|omega,h5,h6.1 rfl⟩).symm
          ·exact (decide_eq_false (fun h9=>by have h8:=h6.2 h9.2.2.2.2.2.2.2.2;cases h8)).symm
end Go.Proofs.YtajmnjefajknoaaGreat
namespace Go.Proofs.YtajmnjefajknoaaGreat
open Go.Esp
theorem F.bld125:Bld Tryz.prog 125 [[.one (.int .i64 0)],[.one (.bool false)]]:=⟨by kernel_rfl,by kernel_rfl⟩
theorem F.elem126:slOf Tryz.prog 126=some (125,2,16):=by kernel_rfl
theorem F.foff125_0:foff Tryz.prog 125 0=some 0:=by kernel_rfl
theorem F.foff125_1:foff Tryz.prog 125 1=some 1:=by kernel_rfl
theorem F.foff44_0:foff Tryz.prog 44 0=some 0:=by kernel_rfl
theorem F.foff44_1:foff Tryz.prog 44 1=some 1:=by kernel_rfl
theorem F.foff44_2:foff Tryz.prog 44 2=some 22:=by kernel_rfl
theorem F.foff44_3:foff Tryz.prog 44 3=some 23:=by kernel_rfl
theorem F.foff44_4:foff Tryz.prog 44 4=some 43:=by kernel_rfl
theorem F.foff44_5:foff Tryz.prog 44 5=some 44:=by kernel_rfl
theorem F.foff44_6:foff Tryz.prog 44 6=some 45:=by kernel_rfl
theorem F.foff44_7:foff Tryz.prog 44 7=some 66:=by kernel_rfl
theorem F.lay125:lay Tryz.prog 125=some (true,2):=by kernel_rfl
theorem F.lay29:lay Tryz.prog 29=some (false,1):=by kernel_rfl
theorem F.lay44:lay Tryz.prog 44=some (true,67):=by kernel_rfl
theorem F.ok75:okFn Tryz.prog 75=true:=by kernel_rfl
theorem F.ok76:okFn Tryz.prog 76=true:=by kernel_rfl
theorem F.ok77:okFn Tryz.prog 77=true:=by kernel_rfl
theorem F.ok79:okFn Tryz.prog 79=true:=by kernel_rfl
theorem F.zero125:Wh Tryz.prog 125=some (aggV [.one (.int .i64 0),.one (.bool false)]):=by kernel_rfl
theorem lodd_ok (M:Mem) (a:Int):Fs Tryz.prog 77 [.int .i64 a] M (fun v=>v=Value.bool (decide (¬(0≤a∧a≤999)))):=by
  refine Xs Tryz.func77 rfl Tryz.ntmps77 rfl ?_;intro H
  refine ZJ (Zq (l:=[0]) rfl ?_);refine ZC ?_;refine Zx (Zt (ZJ (Zq (l:=[0,1,2,3,4,5,6]) rfl ?_)));refine ZA ?_;refine YC ?_;refine ZA ?_
  refine Yp 5 rfl (fun hc1=>?_) (fun hc1=>?_)
  ·replace hc1:=dT hc1
   iterate 2 refine Yh ?_
   refine ZS ?_;refine ZC ?_;refine Zx (Zt (Y_pk [2] ?_));refine Yu ?_
   refine Yj (.inr rfl) (.tmp rfl .nil) (fun w hw=>?_)
   refine ⟨_,rfl,(hw.c),?_⟩
   clear hw
   refine congrArg Value.bool ?_
   exact (decide_eq_true (by omega)).symm
  ·replace hc1:=dF hc1
   refine ZA ?_;refine YC ?_;refine ZS ?_;refine ZC ?_;refine Zx (Zt (Y_pk [2] ?_));refine Yu ?_
   refine Yj (.inr rfl) (.tmp rfl .nil) (fun w hw=>?_)
   refine ⟨_,rfl,(hw.c),?_⟩
   clear hw
   refine congrArg Value.bool ?_
   exact decide_eq_decide.2 ⟨fun h9=>by omega,fun h9=>by omega⟩
theorem loddP_ok (M:Mem) (p:ZE):Fs Tryz.prog 79 [p.enc] M (fun v=>v=Value.bool (decide (¬YQ p.addr))):=by
  obtain ⟨YU,p_id⟩:=p
  refine Xs Tryz.func79 rfl Tryz.ntmps79 rfl ?_;intro H
  refine ZJ (Zq (l:=[0,1]) rfl ?_)
  refine Xk ?_;intro b1
  refine ZC ?_;refine Zx (Zt (Y_pk [2,1] ?_));refine ZJ (Zq (l:=[0,1,2,3]) rfl ?_);refine Zk F.foff25_0 ?_;refine ZI F.lay3 ?_;refine X_fs rfl rfl F.ok77 rfl (lodd_ok _ _) rfl ?_
  rintro _ rfl
  refine ZC ?_;refine Zx (Zt (Y_pk [2] ?_));refine Yu ?_
  refine Yj (.inr rfl) (.tmp rfl .nil) (fun w hw=>?_)
  refine ⟨_,rfl,(hw.c),?_⟩
  clear hw
  rfl
theorem parts_ok (M:Mem) (k:Int):Fs Tryz.prog 75 [.int .i64 k] M (fun v=>v=.tuple #[.int .i64 (WE k).1,.bool (WE k).2]):=by
  refine Xs Tryz.func75 rfl Tryz.ntmps75 rfl ?_;intro H
  refine ZJ (Zq (l:=[0,1]) rfl ?_)
  iterate 2 refine ZC ?_
  refine Zx (Zt ?_)
  iterate 2 refine ZJ ?_
  refine Zq (l:=[0]) rfl ?_;refine ZA ?_;refine Zx (Zt (Y_pk [4,3,2] ?_));refine Xe (ZJ (Zq (l:=[0,1]) rfl ?_));refine YC ?_;refine ZC ?_;refine Zx (Zt (Y_pk [5,4,3,2] ?_))
  refine YA rfl (fun hc1=>?_) (fun hc1=>?_)
  ·replace hc1:=dT hc1
   refine ZJ (Zq (l:=[0,1]) rfl ?_)
   iterate 2 refine ZC ?_
   refine Zx (Zt (Y_pk [3,2] ?_));refine Yu (Xy (YY ?_))
   refine Yj (.inr rfl) (.tmp rfl (.tmp rfl .nil)) (fun w hw=>?_)
   refine ⟨_,rfl,hw.c,?_⟩
   clear hw
   (subst_vars;rfl)
  ·replace hc1:=dF hc1
   refine ZJ (Zq (l:=[0,1]) rfl ?_);refine YC ?_;refine ZC ?_;refine Zx (Zt (Y_pk [7,4,3,2] ?_))
   refine YA rfl (fun hc2=>?_) (fun hc2=>?_)
   ·replace hc2:=dT hc2
    refine ZJ (Zq (l:=[0,1]) rfl ?_)
    iterate 2 refine ZC ?_
    refine Zx (Zt (Y_pk [3,2] ?_));refine Yu (Xy (YY ?_))
    refine Yj (.inr rfl) (.tmp rfl (.tmp rfl .nil)) (fun w hw=>?_)
    refine ⟨_,rfl,hw.c,?_⟩
    clear hw
    (subst_vars;rfl)
   ·replace hc2:=dF hc2
    iterate 2 refine ZJ ?_
    refine Zq (l:=[0,1]) rfl ?_;refine YC ?_;refine ZC ?_;refine Zx (Zt (Y_pk [9,4,3,2] ?_))
    refine C_part 9 rfl (fun hc3=>?_) (fun hc3=>?_)
    ·replace hc3:=dT hc3
     refine Xz rfl ?_;refine Yz (Zt (Xz rfl ?_));refine ZJ (Zq (l:=[0,1]) rfl ?_)
     iterate 2 refine ZC ?_
     refine Zx (Zt (Y_pk [3,2] ?_));refine Yu (Xy (YY ?_))
     refine Yj (.inr rfl) (.tmp rfl (.tmp rfl .nil)) (fun w hw=>?_)
     refine ⟨_,rfl,hw.c,?_⟩
     clear hw
     (subst_vars;rfl)
    ·replace hc3:=dF hc3
     refine Wq rfl ?_;refine ZJ (Zq (l:=[0,1]) rfl ?_);refine YC ?_;refine ZC ?_;refine Zx (Zt (Y_pk [9,4,3,2] ?_))
     refine C_part 9 rfl (fun hc4=>?_) (fun hc4=>?_)
     ·replace hc4:=dT hc4
      refine Xz rfl ?_;refine Yz (Zt (Xz rfl ?_));refine ZJ (Zq (l:=[0,1]) rfl ?_)
      iterate 2 refine ZC ?_
      refine Zx (Zt (Y_pk [3,2] ?_));refine Yu (Xy (YY ?_))
      refine Yj (.inr rfl) (.tmp rfl (.tmp rfl .nil)) (fun w hw=>?_)
      refine ⟨_,rfl,hw.c,?_⟩
      clear hw
      (subst_vars;rfl)
     ·replace hc4:=dF hc4
      refine Wq rfl ?_;refine Zq (l:=[0,1]) rfl ?_;refine YC ?_;refine ZC ?_;refine Zx (Zt (Y_pk [9,4,3,2] ?_))
      refine YA rfl (fun hc5=>?_) (fun hc5=>?_)
      ·replace hc5:=dT hc5
       refine ZJ (Zq (l:=[0,1]) rfl ?_)
       iterate 2 refine ZC ?_
       refine Zx (Zt (Y_pk [3,2] ?_));refine Yu (Xy (YY ?_))
       refine Yj (.inr rfl) (.tmp rfl (.tmp rfl .nil)) (fun w hw=>?_)
       refine ⟨_,rfl,hw.c,?_⟩
       clear hw
       (subst_vars;rfl)
      ·replace hc5:=dF hc5
       refine ZJ (Zq (l:=[0,1]) rfl ?_);refine YC ?_;refine ZC ?_;refine Zx (Zt (Y_pk [13,4,3,2] ?_))
       refine YA rfl (fun hc6=>?_) (fun hc6=>?_)
       ·replace hc6:=dT hc6
        refine ZJ (Zq (l:=[0,1]) rfl ?_)
        iterate 2 refine ZC ?_
        refine Zx (Zt (Y_pk [3,2] ?_));refine Yu (Xy (YY ?_))
        refine Yj (.inr rfl) (.tmp rfl (.tmp rfl .nil)) (fun w hw=>?_)
        refine ⟨_,rfl,hw.c,?_⟩
        clear hw
        (subst_vars;rfl)
       ·replace hc6:=dF hc6
        refine ZJ (Zq (l:=[0,1]) rfl ?_);refine YC ?_;refine ZC ?_;refine Zx (Zt (Y_pk [15,4,3,2] ?_))
        refine YA rfl (fun hc7=>?_) (fun hc7=>?_)
        ·replace hc7:=dT hc7
         refine ZJ (Zq (l:=[0,1]) rfl ?_)
         iterate 2 refine ZC ?_
         refine Zx (Zt (Y_pk [3,2] ?_));refine Yu (Xy (YY ?_))
         refine Yj (.inr rfl) (.tmp rfl (.tmp rfl .nil)) (fun w hw=>?_)
         refine ⟨_,rfl,hw.c,?_⟩
         clear hw
         (subst_vars;rfl)
        ·replace hc7:=dF hc7
         refine ZJ (Zq (l:=[0,1]) rfl ?_);refine YC ?_;refine ZC ?_;refine Zx (Zt (Y_pk [17,3,2] ?_))
         refine YA rfl (fun hc8=>?_) (fun hc8=>?_)
         ·replace hc8:=dT hc8
          refine ZJ (Zq (l:=[0,1]) rfl ?_)
          iterate 2 refine ZC ?_
          refine Zx (Zt (Y_pk [3,2] ?_));refine Yu (Xy (YY ?_))
          refine Yj (.inr rfl) (.tmp rfl (.tmp rfl .nil)) (fun w hw=>?_)
          refine ⟨_,rfl,hw.c,?_⟩
          clear hw
          (subst_vars;rfl)
         ·replace hc8:=dF hc8
          refine Yz (Wg (Zt (Y_pk [3,2] ?_)));refine ZJ (Zq (l:=[0,1]) rfl ?_)
          iterate 2 refine ZC ?_
          refine Zx (Zt (Yu ?_))
          refine Yj (.inr rfl) (.tmp rfl (.tmp rfl .nil)) (fun w hw=>?_)
          refine ⟨_,rfl,hw.c,?_⟩
          clear hw
          (rw [parts_no (by omega)];rfl)
theorem used_ok (M:Mem) (l:ZQ) (hl0:ZQ.ok M l):Fs Tryz.prog 76 [l.enc] M (fun v=>v=.int .i64 (VS (Ue (!decide (l.req=0)) (!decide (l.id=0)) (decide (0<(l.avoid.l.length:Int))) l.done (!decide (l.peer=Xc)) (decide (0<(l.peers.l.length:Int)))))):=by
  obtain ⟨ZZ,⟨ZN,Yq⟩,YG,l_id,⟨Yc,Yb,ZO⟩,YB,⟨ZL,ZV⟩,⟨Ya,ZX,ZK⟩⟩:=l
  have Xm:SlK M (oneI .i64) 1 ⟨Yc,Yb,ZO⟩:=hl0.h0
  have s_l_avoid:SlM M Yc (ZO.map (oneI .i64)) 1:=Xm.h1
  have n_l_avoid:(ZO.map (oneI .i64)).length=ZO.length:=List.length_map ..
  have m_l_avoid:ZO.length≤9223372036854775807:=Xm.h2
  have c_l_avoid:ZO.length≤Yb:=Xm.h3
  have YX:SlK M ZE.segs 21 ⟨Ya,ZX,ZK⟩:=hl0.h1
  have XP:SlM M Ya (ZK.map ZE.segs) 21:=YX.h1
  have WI:(ZK.map ZE.segs).length=ZK.length:=List.length_map ..
  have m_l_peers:ZK.length≤9223372036854775807:=YX.h2
  have WJ:ZK.length≤ZX:=YX.h3
  refine Xs Tryz.func76 rfl Tryz.ntmps76 rfl ?_;intro H
  refine ZJ (Zq (l:=[0,1]) rfl ?_)
  refine Xk ?_;intro b1
  refine ZC ?_;refine Zx (Zt (Y_pk [2,1] ?_));refine ZJ (Zq (l:=[0]) rfl ?_);refine ZC ?_;refine Zx (Zt ?_)
  iterate 2 refine ZJ ?_
  refine YF (l:=[0,1,2,3,4,5,6,7,8,9,10,11,12,13,14,15,16,17,18,19,20,21,22,23,24,25,26,27,28,29]) #[0,1,3,7,0,16,0,112,240,0,512,1536,3584,7680,0,16384,49152,0,131072,0,917504,1966080,0,4194304,12582912,29360128,62914560,134217727,268435455,0] _ rfl (by kernel_rfl) (by kernel_rfl) St.drawn (fun _ h=>h) ?_;refine Zk F.foff44_2 ?_;refine ZI F.lay29 ?_;refine YC ?_;refine Xq rfl rfl F.bld125 (.cons rfl (by constructor) (.cons rfl (by constructor) .nil)) rfl rfl ?_;refine Zk F.foff44_3 ?_;refine ZI F.lay23 ?_;refine X_build0 rfl rfl F.zero23 F.arr23 rfl ?_
  refine WW (m:=20) rfl rfl rfl rfl rfl (by constructor) (by constructor) F.lay23 F.kinds23 rfl F.guard23 (VH Vl) (VH Vl) rfl rfl rfl ?_;intro c2 he3
  replace he3:c2=true↔¬(Segs.cells _=Segs.cells _):=he3
  obtain rfl:=neD he3 (cells_id1 (x:=_) (y:=_));clear he3
  refine Xq rfl rfl F.bld125 (.cons rfl (by constructor) (.cons rfl (by constructor) .nil)) rfl rfl ?_;refine Zk F.foff44_4 ?_;refine ZI F.lay30 ?_;refine YZ F.elem30 ?_;refine YC ?_;refine Xq rfl rfl F.bld125 (.cons rfl (by constructor) (.cons rfl (by constructor) .nil)) rfl rfl ?_;refine Zk F.foff44_5 ?_;refine ZI F.lay4 ?_;refine Xq rfl rfl F.bld125 (.cons rfl (by constructor) (.cons rfl (by constructor) .nil)) rfl rfl ?_;refine Zk F.foff44_6 ?_;refine ZI F.lay25 ?_;refine X_fs rfl rfl F.ok66 rfl (WY _) rfl ?_
  rintro _ rfl
  refine VF 25 rfl (show _=aggV [.one (.int .i64 (-1)),Yn 0] from rfl) ?_
  refine WW (m:=20) rfl rfl rfl rfl rfl (by constructor) (by constructor) F.lay25 F.kinds25 rfl F.guard25 (by exact XT (⟨_,_⟩)) (by exact XT (⟨_,_⟩)) rfl rfl rfl ?_;intro c4 he5
  replace he5:c4=true↔¬(Segs.cells _=Segs.cells _):=he5
  obtain rfl:=neD he5 (ZE.inj (x:=⟨_,_⟩) (y:=⟨_,_⟩));clear he5
  refine Xq rfl rfl F.bld125 (.cons rfl (by constructor) (.cons rfl (by constructor) .nil)) rfl rfl ?_;refine Zk F.foff44_7 ?_;refine ZI F.lay26 ?_;refine YZ F.elem26 ?_;refine YC ?_;refine Xq rfl rfl F.bld125 (.cons rfl (by constructor) (.cons rfl (by constructor) .nil)) rfl rfl ?_
  refine XZ rfl rfl F.elem126 F.zero125 rfl rfl (.cons rfl (by constructor) (.cons rfl (by constructor) (.cons rfl (by constructor) (.cons rfl (by constructor) (.cons rfl (by constructor) (.cons rfl (by constructor) .nil)))))) rfl rfl (by simp only [List.map_cons,List.map_nil] <;> rfl) rfl ?_;intro b6 hob7
  obtain ⟨HL,hHL⟩:∃ l,Ue (!decide (YG=0)) (!decide (l_id=0)) (decide (0<(ZO.length:Int))) YB (!decide ((⟨ZL,ZV⟩:ZE)=Xc)) (decide (0<(ZK.length:Int)))=l:=⟨_,rfl⟩
  have ho6:=OSl.as9 hob7 (show _=HL.map YM.segs by rw [← hHL];rfl)
  have hl6:HL.length=6:=by rw [← hHL];rfl
  have n_L6:(HL.map YM.segs).length=HL.length:=List.length_map ..
  refine YZ F.elem126 ?_;refine ZA ?_;refine Zx (Zt (Y_pk [35,34,33,3,2] ?_));refine Xe (Y_pk [35,3,34,33,2] ?_);refine VA (.succ (.succ .zero)) (fun (k:Nat) z=>z=[(35,.int .i64 (k:Int)),(3,.int .i64 (VS (HL.take k)))]∧k≤6) (fun k=>6-k) (0) (⟨rfl,by omega⟩) ?_
  rintro k _ ⟨rfl,hk⟩
  refine ZJ (Zq (l:=[0]) rfl ?_);refine YC ?_;refine Zx (Zt (ZJ ?_))
  refine YA rfl (fun hc8=>?_) (fun hc8=>?_)
  ·replace hc8:=dT hc8
   refine Yz (Zt (ZJ (Xe (ZJ (Zq (l:=[0,1,2,3]) rfl ?_)))));refine Xa rfl rfl rfl rfl F.elem126 (by rfl) (by omega) (by exact ⟨_,_,rfl⟩) rfl ?_;refine X_load_osl rfl rfl rfl (by assumption) (by repeat first|exact Rem.here _|exact Rem.two|apply Rem.skip|apply Rem.over) (by exact WB (by omega)) F.lay125 rfl rfl rfl ?_
   obtain ⟨⟨h_part,h_is⟩,hk9⟩:∃ h,HL[k]'(by omega)=h:=⟨_,rfl⟩
   refine VF 38 rfl (show _=aggV (YM.segs ⟨h_part,h_is⟩) from by rw [← hk9];rfl) ?_
   refine YW F.zero125 ?_;intro b9
   refine Yi F.lay125 ?_;refine Zx (Zt (ZJ (Zq (l:=[0,1]) rfl ?_)));refine Zk F.foff125_1 ?_;refine ZI F.lay4 ?_;refine Zx (Zt ?_)
   refine YA rfl (fun hc10=>?_) (fun hc10=>?_)
   ·skip
    refine Zq (l:=[0,1,2,3,4]) rfl ?_;refine ZA ?_;refine Zk F.foff125_0 ?_;refine ZI F.lay3 ?_;refine X_bits rfl rfl rfl rfl rfl rfl rfl ?_;refine ZC ?_;refine Zx (Wg (Zt (Zq (l:=[0,1]) rfl ?_)));refine XY rfl rfl rfl rfl rfl (by exact Xl (by decide) (by omega)) rfl ?_;refine ZA ?_;refine Zx ?_;refine K_roundS (a':=[(35,_),(3,_)]) (k+1) (.cons (k:=35) rfl (.cons (k:=3) rfl (.cons (k:=34) rfl (.cons (k:=33) rfl (.cons (k:=2) rfl (.nil)))))) (fun w hw=>by first|exact hw|exact hw.c) ?_ ?_
    ·refine ⟨?_,by omega⟩
     rw [usedH_take (by omega),hk9]
     simp only
     rw [show h_is=true from by assumption]
     rfl
    ·omega
   ·skip
    refine Yz (Wg (Zt (Zq (l:=[0,1]) rfl ?_)));refine XY rfl rfl rfl rfl rfl (by exact Xl (by decide) (by omega)) rfl ?_;refine ZA ?_;refine Zx ?_;refine K_roundS (a':=[(35,_),(3,_)]) (k+1) (.cons (k:=35) rfl (.cons (k:=3) rfl (.cons (k:=34) rfl (.cons (k:=33) rfl (.cons (k:=2) rfl (.nil)))))) (fun w hw=>by first|exact hw|exact hw.c) ?_ ?_
    ·refine ⟨?_,by omega⟩
     rw [usedH_take (by omega),hk9]
     simp only
     rw [show h_is=false from by assumption]
     rfl
    ·omega
  ·replace hc8:=dF hc8
   refine Wf ?_
   iterate 2 refine Wa ?_
   refine Wv (Zt (Y_pk [3,2] ?_));refine ZJ (Zq (l:=[0,1]) rfl ?_);refine ZA ?_;refine ZC ?_;refine Zx (Zt (Y_pk [2] ?_));refine Yu ?_
   refine Yj (.inr rfl) (.tmp rfl .nil) (fun w hw=>?_)
   obtain rfl:k=6:=by omega
   refine ⟨_,rfl,hw.c,?_⟩
   clear hw
   rw [List.take_of_length_le (by omega),← hHL]
   rfl
theorem IsL_ok (M:Mem) (l:ZQ) (hl0:ZQ.ok M l):Fs Tryz.prog 30 [l.enc] M (fun v=>v=Value.bool (decide (IsLt l.lt))):=by
  obtain ⟨ZZ,⟨ZN,Yq⟩,YG,l_id,⟨Yc,Yb,ZO⟩,YB,⟨ZL,ZV⟩,⟨Ya,ZX,ZK⟩⟩:=l
  have Xm:SlK M (oneI .i64) 1 ⟨Yc,Yb,ZO⟩:=hl0.h0
  have s_l_avoid:SlM M Yc (ZO.map (oneI .i64)) 1:=Xm.h1
  have n_l_avoid:(ZO.map (oneI .i64)).length=ZO.length:=List.length_map ..
  have m_l_avoid:ZO.length≤9223372036854775807:=Xm.h2
  have c_l_avoid:ZO.length≤Yb:=Xm.h3
  have YX:SlK M ZE.segs 21 ⟨Ya,ZX,ZK⟩:=hl0.h1
  have XP:SlM M Ya (ZK.map ZE.segs) 21:=YX.h1
  have WI:(ZK.map ZE.segs).length=ZK.length:=List.length_map ..
  have m_l_peers:ZK.length≤9223372036854775807:=YX.h2
  have WJ:ZK.length≤ZX:=YX.h3
  refine Xs Tryz.func30 rfl Tryz.ntmps30 rfl ?_;intro H
  refine ZJ (Zq (l:=[0,1]) rfl ?_)
  refine Xk ?_;intro b1
  refine ZC ?_;refine Zx (Zt (Y_pk [2,1] ?_));refine ZJ (Zq (l:=[0,1,2,3,4,5,6,7]) rfl ?_);refine Zk F.foff44_0 ?_;refine ZI F.lay3 ?_;refine X_fs rfl rfl F.ok75 rfl (parts_ok _ _) rfl ?_
  rintro _ rfl
  refine ZA ?_
  iterate 2 refine XF ?_
  iterate 2 refine ZC ?_
  refine Zx (Zt (Y_pk [4,3,2,1] ?_));refine ZJ (YF (l:=[0,1,2,3,4]) #[0,1,0,7,15] _ rfl (by kernel_rfl) (by kernel_rfl) St.drawn (fun _ h=>h) ?_);refine Zk F.foff44_6 ?_;refine ZI F.lay25 ?_;refine X_fs rfl rfl F.ok66 rfl (WY _) rfl ?_
  rintro _ rfl
  refine VF 14 rfl (show _=aggV [.one (.int .i64 (-1)),Yn 0] from rfl) ?_
  refine WW (m:=20) rfl rfl rfl rfl rfl (by constructor) (by constructor) F.lay25 F.kinds25 rfl F.guard25 (by exact XT (⟨_,_⟩)) (by exact XT (⟨_,_⟩)) rfl rfl rfl ?_;intro c2 he3
  replace he3:c2=true↔Segs.cells _=Segs.cells _:=he3
  obtain rfl:=eqD he3 (ZE.inj (x:=⟨_,_⟩) (y:=⟨_,_⟩));clear he3
  refine ZC ?_;refine Zx (Zt (Y_pk [5,4,3,2,1] ?_));refine ZJ (Xe (ZJ (Zq (l:=[0,1,2,3,4,5,6,7,8,9,10,11,12,13,14,15,16,17,18,19,20,21,22,23,24,25,26,27]) rfl ?_)));refine ZA ?_;refine XA ?_;refine ZA ?_
  refine Yp 19 rfl (fun hc4=>?_) (fun hc4=>?_)
  ·skip
   iterate 5 refine Yh ?_
   refine ZS ?_;refine ZA ?_
   iterate 4 refine Yh ?_
   refine ZS ?_;refine ZA ?_
   iterate 4 refine Yh ?_
   refine ZS ?_;refine ZA ?_
   iterate 4 refine Yh ?_
   refine ZS ?_;refine ZC ?_;refine Zx (Zt (Y_pk [16,5,2,1] ?_));refine Xz rfl ?_;refine ZJ (Zq (l:=[0]) rfl ?_);refine ZC ?_;refine Zx (Zt (Y_pk [2,1] ?_));refine Yu (Xy (YY ?_))
   refine Yj (.inr rfl) (.tmp rfl .nil) (fun w hw=>?_)
   refine ⟨_,rfl,(hw.c),?_⟩
   clear hw
   show _=Value.bool (decide ((1≤ZZ∧ZZ≤8)∧YQ ZN∧ZO.length≤16∧ZK.length≤8∧((⟨ZL,ZV⟩:ZE)=Xc∨YQ ZL)∧¬((⟨ZL,ZV⟩:ZE)=Xc∧ZZ=2)∧(Vo ZZ∨YG=0)∧(ZZ=1∨l_id=0)∧(ZZ=1∨ZO=[])∧(ZZ=2∨YB=false)∧(WQ ZZ∨(⟨ZL,ZV⟩:ZE)=Xc)∧(Wk ZZ∨ZK=[])∧(∀ a∈ZO,YQ a)∧∀ p∈ZK,YQ p.addr))
   refine congrArg Value.bool ?_
   refine (decide_eq_false (fun h9=>?_)).symm
   obtain ⟨g1,g2,g3,g4,g5,g6,g7,g8,g9,g10,g11,g12,g13,g14⟩:=h9
   have h7:=parts_yes (k:=ZZ)
   (have h8:=h7.2 g1;simp_all;done)
  ·skip
   refine ZI F.lay44 ?_;refine X_fs rfl rfl F.ok76 rfl (used_ok _ ⟨ZZ,⟨ZN,Yq⟩,YG,l_id,⟨Yc,Yb,ZO⟩,YB,⟨ZL,ZV⟩,⟨Ya,ZX,ZK⟩⟩ hl0) rfl ?_
   rintro _ rfl
   refine ZA ?_;refine X_bits rfl rfl rfl rfl rfl rfl rfl ?_;refine YC ?_;refine ZS ?_;refine ZA ?_
   refine Yp 26 rfl (fun hc5=>?_) (fun hc5=>?_)
   ·replace hc5:=nT hc5
    simp only [ZE.eta,ZT.eta,ZP.eta,ZQ.eta,Yw.eta,ZR.eta,YM.eta,ZY.eta] at hc5
    iterate 4 refine Yh ?_
    refine ZS ?_;refine ZA ?_
    iterate 4 refine Yh ?_
    refine ZS ?_;refine ZA ?_
    iterate 4 refine Yh ?_
    refine ZS ?_;refine ZC ?_;refine Zx (Zt (Y_pk [16,5,2,1] ?_));refine Xz rfl ?_;refine ZJ (Zq (l:=[0]) rfl ?_);refine ZC ?_;refine Zx (Zt (Y_pk [2,1] ?_));refine Yu (Xy (YY ?_))
    refine Yj (.inr rfl) (.tmp rfl .nil) (fun w hw=>?_)
    refine ⟨_,rfl,(hw.c),?_⟩
    clear hw
    show _=Value.bool (decide ((1≤ZZ∧ZZ≤8)∧YQ ZN∧ZO.length≤16∧ZK.length≤8∧((⟨ZL,ZV⟩:ZE)=Xc∨YQ ZL)∧¬((⟨ZL,ZV⟩:ZE)=Xc∧ZZ=2)∧(Vo ZZ∨YG=0)∧(ZZ=1∨l_id=0)∧(ZZ=1∨ZO=[])∧(ZZ=2∨YB=false)∧(WQ ZZ∨(⟨ZL,ZV⟩:ZE)=Xc)∧(Wk ZZ∨ZK=[])∧(∀ a∈ZO,YQ a)∧∀ p∈ZK,YQ p.addr))
    refine congrArg Value.bool ?_
    refine (decide_eq_false (fun h9=>?_)).symm
    obtain ⟨g1,g2,g3,g4,g5,g6,g7,g8,g9,g10,g11,g12,g13,g14⟩:=h9
    have hp8:(WE ZZ).2=true:=by first|assumption|(have h9:(!(WE ZZ).2)=false:=(by assumption);simpa using h9)
    exact absurd ((used_parts hp8 _ _ _ _ _ _).2 ⟨g7.imp id (fun h=>by simp [h]),g8.imp id (fun h=>by simp [h]),g9.imp id (fun h=>by simp [h]),g10,g11.imp id (fun h=>by simp [h]),g12.imp id (fun h=>by simp [h])⟩) (show ¬notK (VS (Ue (!decide (YG=0)) (!decide (l_id=0)) (decide (0<(ZO.length:Int))) YB (!decide ((⟨ZL,ZV⟩:ZE)=Xc)) (decide (0<(ZK.length:Int))))) (WE ZZ).1=0 by assumption)
   ·replace hc5:=nF hc5
    simp only [ZE.eta,ZT.eta,ZP.eta,ZQ.eta,Yw.eta,ZR.eta,YM.eta,ZY.eta] at hc5
    refine Zk F.foff44_1 ?_;refine Zk F.foff25_0 ?_;refine ZI F.lay3 ?_;refine X_fs rfl rfl F.ok77 rfl (lodd_ok _ _) rfl ?_
    rintro _ rfl
    refine ZS ?_;refine ZA ?_
    refine Yp 32 rfl (fun hc6=>?_) (fun hc6=>?_)
    ·replace hc6:=dT hc6
     iterate 4 refine Yh ?_
     refine ZS ?_;refine ZA ?_
     iterate 4 refine Yh ?_
     refine ZS ?_;refine ZC ?_;refine Zx (Zt (Y_pk [16,5,2,1] ?_));refine Xz rfl ?_;refine ZJ (Zq (l:=[0]) rfl ?_);refine ZC ?_;refine Zx (Zt (Y_pk [2,1] ?_));refine Yu (Xy (YY ?_))
     refine Yj (.inr rfl) (.tmp rfl .nil) (fun w hw=>?_)
     refine ⟨_,rfl,(hw.c),?_⟩
     clear hw
     show _=Value.bool (decide ((1≤ZZ∧ZZ≤8)∧YQ ZN∧ZO.length≤16∧ZK.length≤8∧((⟨ZL,ZV⟩:ZE)=Xc∨YQ ZL)∧¬((⟨ZL,ZV⟩:ZE)=Xc∧ZZ=2)∧(Vo ZZ∨YG=0)∧(ZZ=1∨l_id=0)∧(ZZ=1∨ZO=[])∧(ZZ=2∨YB=false)∧(WQ ZZ∨(⟨ZL,ZV⟩:ZE)=Xc)∧(Wk ZZ∨ZK=[])∧(∀ a∈ZO,YQ a)∧∀ p∈ZK,YQ p.addr))
     refine congrArg Value.bool ?_
     refine (decide_eq_false (fun h9=>?_)).symm
     obtain ⟨g1,g2,g3,g4,g5,g6,g7,g8,g9,g10,g11,g12,g13,g14⟩:=h9
     contradiction
    ·replace hc6:=dF hc6
     simp only [Classical.not_not] at hc6
     refine Zk F.foff44_4 ?_;refine ZI F.lay30 ?_;refine YZ F.elem30 ?_;refine YC ?_;refine ZS ?_;refine ZA ?_
     refine Yp 38 rfl (fun hc7=>?_) (fun hc7=>?_)
     ·replace hc7:=dT hc7
      iterate 4 refine Yh ?_
      refine ZS ?_;refine ZC ?_;refine Zx (Zt (Y_pk [16,5,2,1] ?_));refine Xz rfl ?_;refine ZJ (Zq (l:=[0]) rfl ?_);refine ZC ?_;refine Zx (Zt (Y_pk [2,1] ?_));refine Yu (Xy (YY ?_))
      refine Yj (.inr rfl) (.tmp rfl .nil) (fun w hw=>?_)
      refine ⟨_,rfl,(hw.c),?_⟩
      clear hw
      show _=Value.bool (decide ((1≤ZZ∧ZZ≤8)∧YQ ZN∧ZO.length≤16∧ZK.length≤8∧((⟨ZL,ZV⟩:ZE)=Xc∨YQ ZL)∧¬((⟨ZL,ZV⟩:ZE)=Xc∧ZZ=2)∧(Vo ZZ∨YG=0)∧(ZZ=1∨l_id=0)∧(ZZ=1∨ZO=[])∧(ZZ=2∨YB=false)∧(WQ ZZ∨(⟨ZL,ZV⟩:ZE)=Xc)∧(Wk ZZ∨ZK=[])∧(∀ a∈ZO,YQ a)∧∀ p∈ZK,YQ p.addr))
      refine congrArg Value.bool ?_
      refine (decide_eq_false (fun h9=>?_)).symm
      obtain ⟨g1,g2,g3,g4,g5,g6,g7,g8,g9,g10,g11,g12,g13,g14⟩:=h9
      omega
     ·replace hc7:=dF hc7
      refine Zk F.foff44_7 ?_;refine ZI F.lay26 ?_;refine YZ F.elem26 ?_;refine YC ?_;refine ZS ?_;refine ZC ?_;refine Zx (Zt (Y_pk [16,5,2,1] ?_))
      refine YA rfl (fun hc8=>?_) (fun hc8=>?_)
      ·replace hc8:=dT hc8
       refine ZJ (Zq (l:=[0]) rfl ?_);refine ZC ?_;refine Zx (Zt (Y_pk [2,1] ?_));refine Yu (Xy (YY ?_))
       refine Yj (.inr rfl) (.tmp rfl .nil) (fun w hw=>?_)
       refine ⟨_,rfl,(hw.c),?_⟩
       clear hw
       show _=Value.bool (decide ((1≤ZZ∧ZZ≤8)∧YQ ZN∧ZO.length≤16∧ZK.length≤8∧((⟨ZL,ZV⟩:ZE)=Xc∨YQ ZL)∧¬((⟨ZL,ZV⟩:ZE)=Xc∧ZZ=2)∧(Vo ZZ∨YG=0)∧(ZZ=1∨l_id=0)∧(ZZ=1∨ZO=[])∧(ZZ=2∨YB=false)∧(WQ ZZ∨(⟨ZL,ZV⟩:ZE)=Xc)∧(Wk ZZ∨ZK=[])∧(∀ a∈ZO,YQ a)∧∀ p∈ZK,YQ p.addr))
       refine congrArg Value.bool ?_
       refine (decide_eq_false (fun h9=>?_)).symm
       obtain ⟨g1,g2,g3,g4,g5,g6,g7,g8,g9,g10,g11,g12,g13,g14⟩:=h9
       omega
      ·replace hc8:=dF hc8
       refine ZJ (Zq (l:=[0,1,2,3,4,5,6,7,8,9,10,11,12,13,14,15,16]) rfl ?_)
       iterate 2 refine ZA ?_
       refine Yp 46 rfl (fun hc9=>?_) (fun hc9=>?_)
       ·replace hc9:=dT hc9
        refine Zk F.foff44_0 ?_;refine ZI F.lay3 ?_;refine YC ?_;refine ZS ?_;refine ZA ?_
        refine Yp 51 rfl (fun hc10=>?_) (fun hc10=>?_)
        ·replace hc10:=dT hc10
         iterate 8 refine Yh ?_
         refine ZS ?_;refine ZC ?_;refine Zx (Zt (Y_pk [44,2,1] ?_));refine Xz rfl ?_;refine ZJ (Zq (l:=[0]) rfl ?_);refine ZC ?_;refine Zx (Zt (Y_pk [2,1] ?_));refine Yu (Xy (YY ?_))
         refine Yj (.inr rfl) (.tmp rfl .nil) (fun w hw=>?_)
         refine ⟨_,rfl,(hw.c),?_⟩
         clear hw
         show _=Value.bool (decide ((1≤ZZ∧ZZ≤8)∧YQ ZN∧ZO.length≤16∧ZK.length≤8∧((⟨ZL,ZV⟩:ZE)=Xc∨YQ ZL)∧¬((⟨ZL,ZV⟩:ZE)=Xc∧ZZ=2)∧(Vo ZZ∨YG=0)∧(ZZ=1∨l_id=0)∧(ZZ=1∨ZO=[])∧(ZZ=2∨YB=false)∧(WQ ZZ∨(⟨ZL,ZV⟩:ZE)=Xc)∧(Wk ZZ∨ZK=[])∧(∀ a∈ZO,YQ a)∧∀ p∈ZK,YQ p.addr))
         refine congrArg Value.bool ?_
         refine (decide_eq_false (fun h9=>?_)).symm
         obtain ⟨g1,g2,g3,g4,g5,g6,g7,g8,g9,g10,g11,g12,g13,g14⟩:=h9
         (simp_all [YQ];done)
        ·replace hc10:=dF hc10
         refine ZA ?_;refine XA ?_;refine ZA ?_
         refine Yp 54 rfl (fun hc11=>?_) (fun hc11=>?_)
         ·replace hc11:=nT hc11
          contradiction
         ·replace hc11:=nF hc11
          iterate 4 refine Yh ?_
          iterate 2 refine ZS ?_
          refine ZC ?_;refine Zx (Zt (Y_pk [44,2,1] ?_));refine Wq rfl ?_;refine Yz (Wg (Zt (Y_pk [2,1] ?_)));refine ZJ (Zq (l:=[0,1,2,3,4,5,6,7,8,9,10]) rfl ?_);refine Zk F.foff44_4 ?_;refine ZI F.lay30 ?_;refine X_fo rfl rfl F.ok71 rfl ((ContainsFI_rd M [] ⟨Yc,Yb,ZO⟩ 77 [] (fun a=>decide (¬(0≤a∧a≤999))) (s_l_avoid.rd []) m_l_avoid F.ok77 (fun x hx=>(lodd_ok M x).foE []))) (by repeat first|exact Rem.here _|exact Rem.two|apply Rem.skip|apply Rem.over) (Yv rfl) ?_
          rintro _ M1 _ ⟨hM1,rfl⟩;subst M1
          refine XA ?_;refine ZA ?_
          refine Yp 65 rfl (fun hc14=>?_) (fun hc14=>?_)
          ·skip
           simp only [ZE.eta,ZT.eta,ZP.eta,ZQ.eta,Yw.eta,ZR.eta,YM.eta,ZY.eta] at hc14
           refine Zk F.foff44_7 ?_;refine ZI F.lay26 ?_;refine X_fo rfl rfl F.ok78 rfl ((ContainsFP_rd M [] ⟨Ya,ZX,ZK⟩ 79 [] (fun p=>decide (¬YQ p.addr)) (XP.rd []) m_l_peers F.ok79 (fun x hx=>(loddP_ok M x).foE []))) (by repeat first|exact Rem.here _|exact Rem.two|apply Rem.skip|apply Rem.over) (Yv rfl) ?_
           rintro _ M1 _ ⟨hM1,rfl⟩;subst M1
           refine XA ?_;refine ZS ?_;refine ZC ?_;refine Zx (Zt (Y_pk [2] ?_));refine Yu ?_
           refine Yj (.inr rfl) (.tmp rfl .nil) (fun w hw=>?_)
           refine ⟨_,rfl,(hw.c),?_⟩
           clear hw
           have hp8:(WE ZZ).2=true:=by first|assumption|(have h9:(!(WE ZZ).2)=false:=(by assumption);simpa using h9)
           have hp9:=parts_yes.1 hp8
           have hu9:=(used_parts hp8 _ _ _ _ _ _).1 (show notK (VS (Ue (!decide (YG=0)) (!decide (l_id=0)) (decide (0<(ZO.length:Int))) YB (!decide ((⟨ZL,ZV⟩:ZE)=Xc)) (decide (0<(ZK.length:Int))))) (WE ZZ).1=0 by assumption)
           simp only [decide_eq_false_iff_not,Bool.not_eq_false',decide_eq_true_eq] at hu9
           obtain ⟨u1,u2,u3,u4,u5,u6⟩:=hu9
           have u3:ZZ=1∨ZO=[]:=u3.imp id (fun h=>List.eq_nil_of_length_eq_zero (by omega))
           have u6:Wk ZZ∨ZK=[]:=u6.imp id (fun h=>List.eq_nil_of_length_eq_zero (by omega))
           show _=Value.bool (decide ((1≤ZZ∧ZZ≤8)∧YQ ZN∧ZO.length≤16∧ZK.length≤8∧((⟨ZL,ZV⟩:ZE)=Xc∨YQ ZL)∧¬((⟨ZL,ZV⟩:ZE)=Xc∧ZZ=2)∧(Vo ZZ∨YG=0)∧(ZZ=1∨l_id=0)∧(ZZ=1∨ZO=[])∧(ZZ=2∨YB=false)∧(WQ ZZ∨(⟨ZL,ZV⟩:ZE)=Xc)∧(Wk ZZ∨ZK=[])∧(∀ a∈ZO,YQ a)∧∀ p∈ZK,YQ p.addr))
           refine congrArg Value.bool ?_
           have h6:=any_odd (l:=ZO)
           have h7:=any_oddP (l:=ZK)
           have hA:(ZO.any fun a=>decide (¬(0≤a∧a≤999)))=false:=by first|assumption|(simp_all;done)
           obtain ⟨C,hC⟩:∃ b,(ZK.any fun p=>decide (¬YQ p.addr))=b:=⟨_,rfl⟩
           rw [hC] at h7 ⊢
           have hpe:(⟨ZL,ZV⟩:ZE)=Xc∨YQ ZL:=by first|exact .inl (by assumption)|exact .inr ⟨by omega,by omega⟩|(simp_all;done)
           have hf2:¬((⟨ZL,ZV⟩:ZE)=Xc∧ZZ=2):=by first|(rintro ⟨q1,q2⟩;first|contradiction|omega|(simp_all;done))
           cases C
           ·exact (decide_eq_true ⟨hp9,⟨by omega,by omega⟩,by omega,by omega,hpe,hf2,u1,u2,u3,u4,u5,u6,h6.1 hA,h7.1 rfl⟩).symm
           ·exact (decide_eq_false (fun h9=>by have h8:=h7.2 h9.2.2.2.2.2.2.2.2.2.2.2.2.2;cases h8)).symm
          ·skip
           simp only [ZE.eta,ZT.eta,ZP.eta,ZQ.eta,Yw.eta,ZR.eta,YM.eta,ZY.eta] at hc14
           iterate 4 refine Yh ?_
           refine ZS ?_;refine ZC ?_;refine Zx (Zt (Y_pk [2] ?_));refine Yu ?_
           refine Yj (.inr rfl) (.tmp rfl .nil) (fun w hw=>?_)
           refine ⟨_,rfl,(hw.c),?_⟩
           clear hw
           show _=Value.bool (decide ((1≤ZZ∧ZZ≤8)∧YQ ZN∧ZO.length≤16∧ZK.length≤8∧((⟨ZL,ZV⟩:ZE)=Xc∨YQ ZL)∧¬((⟨ZL,ZV⟩:ZE)=Xc∧ZZ=2)∧(Vo ZZ∨YG=0)∧(ZZ=1∨l_id=0)∧(ZZ=1∨ZO=[])∧(ZZ=2∨YB=false)∧(WQ ZZ∨(⟨ZL,ZV⟩:ZE)=Xc)∧(Wk ZZ∨ZK=[])∧(∀ a∈ZO,YQ a)∧∀ p∈ZK,YQ p.addr))
           refine congrArg Value.bool ?_
           refine (decide_eq_false (fun h9=>?_)).symm
           obtain ⟨g1,g2,g3,g4,g5,g6,g7,g8,g9,g10,g11,g12,g13,g14⟩:=h9
           have h6:=(any_odd (l:=ZO)).2 g13
           have hq:(ZO.any fun a=>decide (¬(0≤a∧a≤999)))=true:=by first|assumption|(have h9:(!(ZO.any fun a=>decide (¬(0≤a∧a≤999))))=false:=(by assumption);simpa using h9)
           exact Bool.noConfusion (h6.symm.trans hq)
       ·replace hc9:=dF hc9
        iterate 3 refine Yh ?_
        refine ZS ?_
        iterate 2 refine ZA ?_
        refine XA ?_;refine ZA ?_
        refine Yp 54 rfl (fun hc15=>?_) (fun hc15=>?_)
        ·replace hc15:=nT hc15
         refine Zk F.foff44_6 ?_;refine Zk F.foff25_0 ?_;refine ZI F.lay3 ?_;refine X_fs rfl rfl F.ok77 rfl (lodd_ok _ _) rfl ?_
         rintro _ rfl
         iterate 2 refine ZS ?_
         refine ZC ?_;refine Zx (Zt (Y_pk [44,2,1] ?_))
         refine YA rfl (fun hc16=>?_) (fun hc16=>?_)
         ·replace hc16:=dT hc16
          refine ZJ (Zq (l:=[0]) rfl ?_);refine ZC ?_;refine Zx (Zt (Y_pk [2,1] ?_));refine Yu (Xy (YY ?_))
          refine Yj (.inr rfl) (.tmp rfl .nil) (fun w hw=>?_)
          refine ⟨_,rfl,(hw.c),?_⟩
          clear hw
          show _=Value.bool (decide ((1≤ZZ∧ZZ≤8)∧YQ ZN∧ZO.length≤16∧ZK.length≤8∧((⟨ZL,ZV⟩:ZE)=Xc∨YQ ZL)∧¬((⟨ZL,ZV⟩:ZE)=Xc∧ZZ=2)∧(Vo ZZ∨YG=0)∧(ZZ=1∨l_id=0)∧(ZZ=1∨ZO=[])∧(ZZ=2∨YB=false)∧(WQ ZZ∨(⟨ZL,ZV⟩:ZE)=Xc)∧(Wk ZZ∨ZK=[])∧(∀ a∈ZO,YQ a)∧∀ p∈ZK,YQ p.addr))
          refine congrArg Value.bool ?_
          refine (decide_eq_false (fun h9=>?_)).symm
          obtain ⟨g1,g2,g3,g4,g5,g6,g7,g8,g9,g10,g11,g12,g13,g14⟩:=h9
          (rcases g5 with g5|⟨g51,g52⟩ <;> first|contradiction|omega|(simp_all [Xc];done))
         ·replace hc16:=dF hc16
          simp only [Classical.not_not] at hc16
          refine Yz (Wg (Zt (Y_pk [2,1] ?_)));refine ZJ (Zq (l:=[0,1,2,3,4,5,6,7,8,9,10]) rfl ?_);refine Zk F.foff44_4 ?_;refine ZI F.lay30 ?_;refine X_fo rfl rfl F.ok71 rfl ((ContainsFI_rd M [] ⟨Yc,Yb,ZO⟩ 77 [] (fun a=>decide (¬(0≤a∧a≤999))) (s_l_avoid.rd []) m_l_avoid F.ok77 (fun x hx=>(lodd_ok M x).foE []))) (by repeat first|exact Rem.here _|exact Rem.two|apply Rem.skip|apply Rem.over) (Yv rfl) ?_
          rintro _ M1 _ ⟨hM1,rfl⟩;subst M1
          refine XA ?_;refine ZA ?_
          refine Yp 65 rfl (fun hc17=>?_) (fun hc17=>?_)
          ·skip
           simp only [ZE.eta,ZT.eta,ZP.eta,ZQ.eta,Yw.eta,ZR.eta,YM.eta,ZY.eta] at hc17
           refine Zk F.foff44_7 ?_;refine ZI F.lay26 ?_;refine X_fo rfl rfl F.ok78 rfl ((ContainsFP_rd M [] ⟨Ya,ZX,ZK⟩ 79 [] (fun p=>decide (¬YQ p.addr)) (XP.rd []) m_l_peers F.ok79 (fun x hx=>(loddP_ok M x).foE []))) (by repeat first|exact Rem.here _|exact Rem.two|apply Rem.skip|apply Rem.over) (Yv rfl) ?_
           rintro _ M1 _ ⟨hM1,rfl⟩;subst M1
           refine XA ?_;refine ZS ?_;refine ZC ?_;refine Zx (Zt (Y_pk [2] ?_));refine Yu ?_
           refine Yj (.inr rfl) (.tmp rfl .nil) (fun w hw=>?_)
           refine ⟨_,rfl,(hw.c),?_⟩
           clear hw
           have hp8:(WE ZZ).2=true:=by first|assumption|(have h9:(!(WE ZZ).2)=false:=(by assumption);simpa using h9)
           have hp9:=parts_yes.1 hp8
           have hu9:=(used_parts hp8 _ _ _ _ _ _).1 (show notK (VS (Ue (!decide (YG=0)) (!decide (l_id=0)) (decide (0<(ZO.length:Int))) YB (!decide ((⟨ZL,ZV⟩:ZE)=Xc)) (decide (0<(ZK.length:Int))))) (WE ZZ).1=0 by assumption)
           simp only [decide_eq_false_iff_not,Bool.not_eq_false',decide_eq_true_eq] at hu9
           obtain ⟨u1,u2,u3,u4,u5,u6⟩:=hu9
           have u3:ZZ=1∨ZO=[]:=u3.imp id (fun h=>List.eq_nil_of_length_eq_zero (by omega))
           have u6:Wk ZZ∨ZK=[]:=u6.imp id (fun h=>List.eq_nil_of_length_eq_zero (by omega))
           show _=Value.bool (decide ((1≤ZZ∧ZZ≤8)∧YQ ZN∧ZO.length≤16∧ZK.length≤8∧((⟨ZL,ZV⟩:ZE)=Xc∨YQ ZL)∧¬((⟨ZL,ZV⟩:ZE)=Xc∧ZZ=2)∧(Vo ZZ∨YG=0)∧(ZZ=1∨l_id=0)∧(ZZ=1∨ZO=[])∧(ZZ=2∨YB=false)∧(WQ ZZ∨(⟨ZL,ZV⟩:ZE)=Xc)∧(Wk ZZ∨ZK=[])∧(∀ a∈ZO,YQ a)∧∀ p∈ZK,YQ p.addr))
           refine congrArg Value.bool ?_
           have h6:=any_odd (l:=ZO)
           have h7:=any_oddP (l:=ZK)
           have hA:(ZO.any fun a=>decide (¬(0≤a∧a≤999)))=false:=by first|assumption|(simp_all;done)
           obtain ⟨C,hC⟩:∃ b,(ZK.any fun p=>decide (¬YQ p.addr))=b:=⟨_,rfl⟩
           rw [hC] at h7 ⊢
           have hpe:(⟨ZL,ZV⟩:ZE)=Xc∨YQ ZL:=by first|exact .inl (by assumption)|exact .inr ⟨by omega,by omega⟩|(simp_all;done)
           have hf2:¬((⟨ZL,ZV⟩:ZE)=Xc∧ZZ=2):=by first|(rintro ⟨q1,q2⟩;first|contradiction|omega|(simp_all;done))
           cases C
           ·exact (decide_eq_true ⟨hp9,⟨by omega,by omega⟩,by omega,by omega,hpe,hf2,u1,u2,u3,u4,u5,u6,h6.1 hA,h7.1 rfl⟩).symm
           ·exact (decide_eq_false (fun h9=>by have h8:=h7.2 h9.2.2.2.2.2.2.2.2.2.2.2.2.2;cases h8)).symm
          ·skip
           simp only [ZE.eta,ZT.eta,ZP.eta,ZQ.eta,Yw.eta,ZR.eta,YM.eta,ZY.eta] at hc17
           iterate 4 refine Yh ?_
           refine ZS ?_;refine ZC ?_;refine Zx (Zt (Y_pk [2] ?_));refine Yu ?_
           refine Yj (.inr rfl) (.tmp rfl .nil) (fun w hw=>?_)
           refine ⟨_,rfl,(hw.c),?_⟩
           clear hw
           show _=Value.bool (decide ((1≤ZZ∧ZZ≤8)∧YQ ZN∧ZO.length≤16∧ZK.length≤8∧((⟨ZL,ZV⟩:ZE)=Xc∨YQ ZL)∧¬((⟨ZL,ZV⟩:ZE)=Xc∧ZZ=2)∧(Vo ZZ∨YG=0)∧(ZZ=1∨l_id=0)∧(ZZ=1∨ZO=[])∧(ZZ=2∨YB=false)∧(WQ ZZ∨(⟨ZL,ZV⟩:ZE)=Xc)∧(Wk ZZ∨ZK=[])∧(∀ a∈ZO,YQ a)∧∀ p∈ZK,YQ p.addr))
           refine congrArg Value.bool ?_
           refine (decide_eq_false (fun h9=>?_)).symm
           obtain ⟨g1,g2,g3,g4,g5,g6,g7,g8,g9,g10,g11,g12,g13,g14⟩:=h9
           have h6:=(any_odd (l:=ZO)).2 g13
           have hq:(ZO.any fun a=>decide (¬(0≤a∧a≤999)))=true:=by first|assumption|(have h9:(!(ZO.any fun a=>decide (¬(0≤a∧a≤999))))=false:=(by assumption);simpa using h9)
           exact Bool.noConfusion (h6.symm.trans hq)
        ·replace hc15:=nF hc15
         contradiction
end Go.Proofs.YtajmnjefajknoaaGreat
namespace Go.Proofs.YtajmnjefajknoaaGreat
open Go.Esp
end Go.Proofs.YtajmnjefajknoaaGreat
namespace Go.Proofs.YtajmnjefajknoaaGreat
open Go.Esp
theorem F.elem35:slOf Tryz.prog 35=some (49,68,168):=by kernel_rfl
theorem F.foff32_11:foff Tryz.prog 32 11=some 54:=by kernel_rfl
theorem F.foff32_12:foff Tryz.prog 32 12=some 55:=by kernel_rfl
theorem F.foff32_5:foff Tryz.prog 32 5=some 48:=by kernel_rfl
theorem F.foff32_7:foff Tryz.prog 32 7=some 50:=by kernel_rfl
theorem F.foff32_9:foff Tryz.prog 32 9=some 52:=by kernel_rfl
theorem F.foff49_0:foff Tryz.prog 49 0=some 0:=by kernel_rfl
theorem F.foff49_1:foff Tryz.prog 49 1=some 1:=by kernel_rfl
theorem F.ok31:okFn Tryz.prog 31=true:=by kernel_rfl
theorem F.ok42:okFn Tryz.prog 42=true:=by kernel_rfl
theorem F.ok43:okFn Tryz.prog 43=true:=by kernel_rfl
theorem map_ext9 {α β:Type} {f:α→β} {a b:List α} (hl:a.length=b.length) (h:∀ j (h2:j<a.length) (h3:j<b.length),f a[j]=f b[j]):a.map f=b.map f :=
  List.ext_getElem (by simp [hl]) fun j h2 h3=>by simpa using h j (by simpa using h2) (by simpa using h3)
theorem map_at9 {α β:Type} {f:α→β} {a b:List α} (h:a.map f=b.map f) {j:Nat} (h2:j<a.length) (h3:j<b.length):f a[j]=f b[j]:=by
  have e1:(a.map f)[j]?=some (f a[j]):=by simp [h2]
  have e2:(b.map f)[j]?=some (f b[j]):=by simp [h3]
  rw [h,e2] at e1;exact (Option.some.inj e1).symm
theorem map_len9 {α β:Type} {f:α→β} {a b:List α} (h:a.map f=b.map f):a.length=b.length:=by have:=congrArg List.length h;simpa using this
theorem snd_mk9 {x y:Yw} (h1:x.to=y.to) (h2:x.letter.lt=y.letter.lt):Yw.snd x=Yw.snd y:=by unfold Yw.snd;rw [h1,h2]
theorem Ints_ok (M:Mem) (a:(Sl Int)) (b:(Sl Int)) (ha0:SlK M (oneI .i64) 1 a) (hb1:SlK M (oneI .i64) 1 b):Fs Tryz.prog 43 [Sl.val a,Sl.val b] M (fun v=>v=Value.bool (decide (a.l.map (id:Int→Int)=b.l.map (id:Int→Int)))):=by
  obtain ⟨a_a,a_c,a_l⟩:=a
  obtain ⟨b_a,b_c,b_l⟩:=b
  have k_a:SlK M (oneI .i64) 1 ⟨a_a,a_c,a_l⟩:=ha0
  have s_a:SlM M a_a (a_l.map (oneI .i64)) 1:=k_a.h1
  have n_a:(a_l.map (oneI .i64)).length=a_l.length:=List.length_map ..
  have m_a:a_l.length≤9223372036854775807:=k_a.h2
  have c_a:a_l.length≤a_c:=k_a.h3
  have k_b:SlK M (oneI .i64) 1 ⟨b_a,b_c,b_l⟩:=hb1
  have s_b:SlM M b_a (b_l.map (oneI .i64)) 1:=k_b.h1
  have n_b:(b_l.map (oneI .i64)).length=b_l.length:=List.length_map ..
  have m_b:b_l.length≤9223372036854775807:=k_b.h2
  have c_b:b_l.length≤b_c:=k_b.h3
  refine Xs Tryz.func43 rfl Tryz.ntmps43 rfl ?_;intro H
  refine ZJ (Zq (l:=[0]) rfl ?_);refine ZC ?_;refine Zx (Zt ?_)
  iterate 2 refine ZJ ?_
  refine Zq (l:=[0,1,2,3,4]) rfl ?_;refine ZA ?_;refine YZ F.elem30 ?_;refine ZA ?_;refine YZ F.elem30 ?_;refine YC ?_;refine Zx (Zt (Y_pk [10,4,0,1] ?_))
  refine YA rfl (fun hc1=>?_) (fun hc1=>?_)
  ·replace hc1:=nT hc1
   refine ZJ (Zq (l:=[0]) rfl ?_);refine ZC ?_;refine Zx (Zt (Y_pk [4,0,1] ?_));refine Yu (YY ?_)
   refine Yj (.inr rfl) (.tmp rfl .nil) (fun w hw=>?_)
   refine ⟨_,rfl,(hw.c),?_⟩
   clear hw
   show _=Value.bool (decide (a_l.map (id:Int→Int)=b_l.map (id:Int→Int)))
   exact congrArg Value.bool (decide_eq_false (fun h9=>by have h8:=map_len9 h9;omega)).symm
  ·replace hc1:=nF hc1
   refine Yz (Zt (Y_pk [4,0,1] ?_))
   iterate 2 refine ZJ ?_
   refine Zq (l:=[0]) rfl ?_;refine ZC ?_;refine Zx (Zt (Xe (Y_pk [5,4,0,1] ?_)));refine VA (.succ .zero) (fun (k:Nat) z=>z=[(5,.int .i64 (k:Int))]∧k≤a_l.length∧(∀ j (h2:j<a_l.length) (h3:j<b_l.length),j<k→(id:Int→Int) a_l[j]=(id:Int→Int) b_l[j])) (fun k=>a_l.length-k) (0) (⟨rfl,by omega,by (intro j h2 h3 hj;omega)⟩) ?_
   rintro k _ ⟨rfl,hk,hI⟩
   iterate 2 refine ZJ ?_
   refine Zq (l:=[0,1,2,3]) rfl ?_
   iterate 2 refine ZA ?_
   refine YZ F.elem30 ?_;refine YC ?_;refine Zx (Zt ?_)
   refine YA rfl (fun hc2=>?_) (fun hc2=>?_)
   ·replace hc2:=dT hc2
    refine Yz (Zt (ZJ (Xe (ZJ (YF (l:=[0,1,2,3,4,5,6,7,8]) #[0,0,3,7,0,0,48,112,255] _ rfl (by kernel_rfl) (by kernel_rfl) St.drawn (fun _ h=>h) ?_)))))
    iterate 2 refine ZA ?_
    refine Xa rfl rfl rfl rfl F.elem30 (by rfl) (by omega) (by exact SlM.plain (by assumption) (by (simp;omega))) rfl ?_;refine Wb rfl rfl rfl (by assumption) (by exact WB (by omega)) F.lay3 rfl rfl rfl ?_
    iterate 2 refine ZA ?_
    refine Xa rfl rfl rfl rfl F.elem30 (by rfl) (by omega) (by exact SlM.plain (by assumption) (by (simp;omega))) rfl ?_;refine Wb rfl rfl rfl (by assumption) (by exact WB (by omega)) F.lay3 rfl rfl rfl ?_;refine YC ?_;refine Zx (Zt ?_)
    refine YA rfl (fun hc3=>?_) (fun hc3=>?_)
    ·replace hc3:=nT hc3
     refine ZJ (Zq (l:=[0]) rfl ?_);refine ZC ?_;refine Zx (Zt (Yu (Xy ?_)))
     iterate 2 refine YY ?_
     refine Xy (YY ?_)
     refine Yj (.inr rfl) (.tmp rfl .nil) (fun w hw=>?_)
     refine ⟨_,rfl,(hw.c),?_⟩
     clear hw
     show _=Value.bool (decide (a_l.map (id:Int→Int)=b_l.map (id:Int→Int)))
     refine congrArg Value.bool (decide_eq_false (fun h9=>?_)).symm
     have h8:=map_at9 h9 (j:=k) (by omega) (by omega)
     replace h8:a_l[k]=b_l[k]:=h8
     contradiction
    ·replace hc3:=nF hc3
     refine Yz (Wg (Zt (Zq (l:=[0,1,2]) rfl ?_)));refine ZA ?_;refine XY rfl rfl rfl rfl rfl (by exact Xl (by decide) (by omega)) rfl ?_;refine ZC ?_;refine Zx ?_;refine K_roundS (a':=[(5,_)]) (k+1) (.cons (k:=5) rfl (.cons (k:=4) rfl (.cons (k:=0) rfl (.cons (k:=1) rfl (.nil))))) (fun w hw=>by first|exact hw|exact hw.c) ?_ ?_
     ·refine ⟨rfl,by omega,?_⟩
      (intro j h2 h3 hj;rcases Nat.lt_or_ge j k with h9|h9;exact hI j h2 h3 h9;have hjk:j=k:=(by omega);subst hjk;first|assumption|exact snd_mk9 (by assumption) (by assumption)|(show id _=id _;unfold id;omega)|(simp_all;done))
     ·omega
   ·replace hc2:=dF hc2
    refine Wf ?_
    iterate 2 refine Wa ?_
    refine Wv (Zt (Y_pk [4] ?_));refine ZJ (Zq (l:=[0]) rfl ?_);refine ZC ?_;refine Zx (Zt (Yu ?_))
    refine Yj (.inr rfl) (.tmp rfl .nil) (fun w hw=>?_)
    refine ⟨_,rfl,(hw.c),?_⟩
    clear hw
    show _=Value.bool (decide (a_l.map (id:Int→Int)=b_l.map (id:Int→Int)))
    exact congrArg Value.bool (decide_eq_true (map_ext9 (by omega) (fun j h2 h3=>hI j h2 h3 (by omega)))).symm
theorem SameN_ok (M:Mem) (a:ZP) (b:ZP) (ha0:ZP.ok M a) (hb1:ZP.ok M b):Fs Tryz.prog 14 [a.enc,b.enc] M (fun v=>v=Value.bool (decide (a.nd=b.nd))):=by
  obtain ⟨⟨⟨Xo,XH⟩,⟨Xp,XI⟩,⟨XC,XB,Xj⟩,⟨Xi,Xh,Xd⟩⟩,Vj,Vf,VO,Vi,Ub,Vz,WV,Ve,WK,Vg,WL,Vh,⟨Wx,Ww,Wj⟩,VN,VM⟩:=a
  obtain ⟨⟨⟨b_table_self_addr,b_table_self_id⟩,⟨b_table_pred_addr,b_table_pred_id⟩,⟨b_table_succ_a,b_table_succ_c,b_table_succ_l⟩,⟨b_table_fingers_a,b_table_fingers_c,b_table_fingers_l⟩⟩,b_copies,b_joined,b_boot,b_cursor,b_req,b_askTo,b_askReq,b_pingTo,b_pingReq,b_findTo,b_findReq,b_findID,⟨b_avoid_a,b_avoid_c,b_avoid_l⟩,b_hops,b_turn⟩:=b
  have k_a_table:ZT.ok M ⟨⟨Xo,XH⟩,⟨Xp,XI⟩,⟨XC,XB,Xj⟩,⟨Xi,Xh,Xd⟩⟩:=ha0.h0
  have k_a_table_succ:SlK M ZE.segs 21 ⟨XC,XB,Xj⟩:=ha0.h0.h0
  have s_a_table_succ:SlM M XC (Xj.map ZE.segs) 21:=k_a_table_succ.h1
  have n_a_table_succ:(Xj.map ZE.segs).length=Xj.length:=List.length_map ..
  have m_a_table_succ:Xj.length≤9223372036854775807:=k_a_table_succ.h2
  have c_a_table_succ:Xj.length≤XB:=k_a_table_succ.h3
  have k_a_table_fingers:SlK M ZE.segs 21 ⟨Xi,Xh,Xd⟩:=ha0.h0.h1
  have s_a_table_fingers:SlM M Xi (Xd.map ZE.segs) 21:=k_a_table_fingers.h1
  have n_a_table_fingers:(Xd.map ZE.segs).length=Xd.length:=List.length_map ..
  have m_a_table_fingers:Xd.length≤9223372036854775807:=k_a_table_fingers.h2
  have c_a_table_fingers:Xd.length≤Xh:=k_a_table_fingers.h3
  have k_a_avoid:SlK M (oneI .i64) 1 ⟨Wx,Ww,Wj⟩:=ha0.h1
  have s_a_avoid:SlM M Wx (Wj.map (oneI .i64)) 1:=k_a_avoid.h1
  have n_a_avoid:(Wj.map (oneI .i64)).length=Wj.length:=List.length_map ..
  have m_a_avoid:Wj.length≤9223372036854775807:=k_a_avoid.h2
  have c_a_avoid:Wj.length≤Ww:=k_a_avoid.h3
  have k_b_table:ZT.ok M ⟨⟨b_table_self_addr,b_table_self_id⟩,⟨b_table_pred_addr,b_table_pred_id⟩,⟨b_table_succ_a,b_table_succ_c,b_table_succ_l⟩,⟨b_table_fingers_a,b_table_fingers_c,b_table_fingers_l⟩⟩:=hb1.h0
  have k_b_table_succ:SlK M ZE.segs 21 ⟨b_table_succ_a,b_table_succ_c,b_table_succ_l⟩:=hb1.h0.h0
  have s_b_table_succ:SlM M b_table_succ_a (b_table_succ_l.map ZE.segs) 21:=k_b_table_succ.h1
  have n_b_table_succ:(b_table_succ_l.map ZE.segs).length=b_table_succ_l.length:=List.length_map ..
  have m_b_table_succ:b_table_succ_l.length≤9223372036854775807:=k_b_table_succ.h2
  have c_b_table_succ:b_table_succ_l.length≤b_table_succ_c:=k_b_table_succ.h3
  have k_b_table_fingers:SlK M ZE.segs 21 ⟨b_table_fingers_a,b_table_fingers_c,b_table_fingers_l⟩:=hb1.h0.h1
  have s_b_table_fingers:SlM M b_table_fingers_a (b_table_fingers_l.map ZE.segs) 21:=k_b_table_fingers.h1
  have n_b_table_fingers:(b_table_fingers_l.map ZE.segs).length=b_table_fingers_l.length:=List.length_map ..
  have m_b_table_fingers:b_table_fingers_l.length≤9223372036854775807:=k_b_table_fingers.h2
  have c_b_table_fingers:b_table_fingers_l.length≤b_table_fingers_c:=k_b_table_fingers.h3
  have k_b_avoid:SlK M (oneI .i64) 1 ⟨b_avoid_a,b_avoid_c,b_avoid_l⟩:=hb1.h1
  have s_b_avoid:SlM M b_avoid_a (b_avoid_l.map (oneI .i64)) 1:=k_b_avoid.h1
  have n_b_avoid:(b_avoid_l.map (oneI .i64)).length=b_avoid_l.length:=List.length_map ..
  have m_b_avoid:b_avoid_l.length≤9223372036854775807:=k_b_avoid.h2
  have c_b_avoid:b_avoid_l.length≤b_avoid_c:=k_b_avoid.h3
  refine Xs Tryz.func14 rfl Tryz.ntmps14 rfl ?_;intro H
  refine ZJ (Zq (l:=[0,1,2]) rfl ?_)
  refine Xk ?_;intro b1
  refine Xk ?_;intro b2
  refine ZC ?_;refine Zx (Zt (Y_pk [4,3,2] ?_));refine ZJ ?_;refine C_cutX (α:=Bool) (fun b:Bool=>[(5,.bool b)]) (fun b:Bool=>(b=true↔Vj=b_copies∧Vf=b_joined∧VO=b_boot∧Vi=b_cursor∧Ub=b_req∧Vz=b_askTo∧WV=b_askReq)) (.cons (k:=4) rfl (.cons (k:=3) rfl (.cons (k:=2) rfl .nil))) ?_ ?_
  ·skip
   refine Zq (l:=[0,1,2,3,4,5,6,7,8,9,10,11,12,13,14,15,16,17,18,19,20,21,22,23,24,25,26,27,28,29,30,31,32,33,34,35,36,37,38,39,40,41,42,43,44,45,46,47]) rfl ?_;refine Zk F.foff32_1 ?_;refine ZI F.lay3 ?_;refine Zk F.foff32_1 ?_;refine ZI F.lay3 ?_;refine YC ?_;refine ZA ?_
   refine Yp 12 rfl (fun hc3=>?_) (fun hc3=>?_)
   ·replace hc3:=dT hc3
    refine Zk F.foff32_2 ?_;refine ZI F.lay4 ?_;refine Zk F.foff32_2 ?_;refine ZI F.lay4 ?_;refine X_eqb rfl rfl rfl rfl rfl Tryz.underlying4 rfl ?_;refine ZS ?_;refine ZA ?_
    refine Yp 19 rfl (fun hc4=>?_) (fun hc4=>?_)
    ·replace hc4:=dT hc4
     refine Zk F.foff32_3 ?_;refine ZI F.lay3 ?_;refine Zk F.foff32_3 ?_;refine ZI F.lay3 ?_;refine YC ?_;refine ZS ?_;refine ZA ?_
     refine Yp 26 rfl (fun hc5=>?_) (fun hc5=>?_)
     ·replace hc5:=dT hc5
      refine Zk F.foff32_4 ?_;refine ZI F.lay3 ?_;refine Zk F.foff32_4 ?_;refine ZI F.lay3 ?_;refine YC ?_;refine ZS ?_;refine ZA ?_
      refine Yp 33 rfl (fun hc6=>?_) (fun hc6=>?_)
      ·replace hc6:=dT hc6
       refine Zk F.foff32_5 ?_;refine ZI F.lay29 ?_;refine Zk F.foff32_5 ?_;refine ZI F.lay29 ?_;refine YC ?_;refine ZS ?_;refine ZA ?_
       refine Yp 40 rfl (fun hc7=>?_) (fun hc7=>?_)
       ·replace hc7:=dT hc7
        refine Zk F.foff32_6 ?_;refine ZI F.lay3 ?_;refine Zk F.foff32_6 ?_;refine ZI F.lay3 ?_;refine YC ?_;refine ZS ?_;refine ZA ?_
        refine Yp 47 rfl (fun hc8=>?_) (fun hc8=>?_)
        ·replace hc8:=dT hc8
         refine Zk F.foff32_7 ?_;refine ZI F.lay29 ?_;refine Zk F.foff32_7 ?_;refine ZI F.lay29 ?_;refine YC ?_;refine ZS ?_;refine ZC ?_;refine Zx ?_
         exact WP (decide (WV=b_askReq)) ((by constructor <;> intro h9 <;> simp_all)) (.cons (k:=5) rfl (.cons (k:=4) rfl (.cons (k:=3) rfl (.cons (k:=2) rfl .nil)))) (fun w hw=>by first|exact hw|exact hw.c)
        ·replace hc8:=dF hc8
         iterate 5 refine Yh ?_
         refine ZS ?_;refine ZC ?_;refine Zx ?_
         exact WP (false) ((by constructor <;> intro h9 <;> simp_all)) (.cons (k:=5) rfl (.cons (k:=4) rfl (.cons (k:=3) rfl (.cons (k:=2) rfl .nil)))) (fun w hw=>by first|exact hw|exact hw.c)
       ·replace hc7:=dF hc7
        iterate 5 refine Yh ?_
        refine ZS ?_;refine ZA ?_
        iterate 5 refine Yh ?_
        refine ZS ?_;refine ZC ?_;refine Zx ?_
        exact WP (false) ((by constructor <;> intro h9 <;> simp_all)) (.cons (k:=5) rfl (.cons (k:=4) rfl (.cons (k:=3) rfl (.cons (k:=2) rfl .nil)))) (fun w hw=>by first|exact hw|exact hw.c)
      ·replace hc6:=dF hc6
       iterate 5 refine Yh ?_
       refine ZS ?_;refine ZA ?_
       iterate 5 refine Yh ?_
       refine ZS ?_;refine ZA ?_
       iterate 5 refine Yh ?_
       refine ZS ?_;refine ZC ?_;refine Zx ?_
       exact WP (false) ((by constructor <;> intro h9 <;> simp_all)) (.cons (k:=5) rfl (.cons (k:=4) rfl (.cons (k:=3) rfl (.cons (k:=2) rfl .nil)))) (fun w hw=>by first|exact hw|exact hw.c)
     ·replace hc5:=dF hc5
      iterate 5 refine Yh ?_
      refine ZS ?_;refine ZA ?_
      iterate 5 refine Yh ?_
      refine ZS ?_;refine ZA ?_
      iterate 5 refine Yh ?_
      refine ZS ?_;refine ZA ?_
      iterate 5 refine Yh ?_
      refine ZS ?_;refine ZC ?_;refine Zx ?_
      exact WP (false) ((by constructor <;> intro h9 <;> simp_all)) (.cons (k:=5) rfl (.cons (k:=4) rfl (.cons (k:=3) rfl (.cons (k:=2) rfl .nil)))) (fun w hw=>by first|exact hw|exact hw.c)
    ·replace hc4:=dF hc4
     iterate 5 refine Yh ?_
     refine ZS ?_;refine ZA ?_
     iterate 5 refine Yh ?_
     refine ZS ?_;refine ZA ?_
     iterate 5 refine Yh ?_
     refine ZS ?_;refine ZA ?_
     iterate 5 refine Yh ?_
     refine ZS ?_;refine ZA ?_
     iterate 5 refine Yh ?_
     refine ZS ?_;refine ZC ?_;refine Zx ?_
     exact WP (false) ((by constructor <;> intro h9 <;> simp_all)) (.cons (k:=5) rfl (.cons (k:=4) rfl (.cons (k:=3) rfl (.cons (k:=2) rfl .nil)))) (fun w hw=>by first|exact hw|exact hw.c)
   ·replace hc3:=dF hc3
    iterate 5 refine Yh ?_
    refine ZS ?_;refine ZA ?_
    iterate 5 refine Yh ?_
    refine ZS ?_;refine ZA ?_
    iterate 5 refine Yh ?_
    refine ZS ?_;refine ZA ?_
    iterate 5 refine Yh ?_
    refine ZS ?_;refine ZA ?_
    iterate 5 refine Yh ?_
    refine ZS ?_;refine ZA ?_
    iterate 5 refine Yh ?_
    refine ZS ?_;refine ZC ?_;refine Zx ?_
    exact WP (false) ((by constructor <;> intro h9 <;> simp_all)) (.cons (k:=5) rfl (.cons (k:=4) rfl (.cons (k:=3) rfl (.cons (k:=2) rfl .nil)))) (fun w hw=>by first|exact hw|exact hw.c)
  ·rintro b5 hb5
   refine ZJ ?_;refine C_cutX (α:=Bool) (fun b:Bool=>[(6,.bool b)]) (fun b:Bool=>(b=true↔Ve=b_pingTo∧WK=b_pingReq∧Vg=b_findTo∧WL=b_findReq∧Vh=b_findID∧VN=b_hops∧VM=b_turn)) (.cons (k:=5) rfl (.cons (k:=4) rfl (.cons (k:=3) rfl (.cons (k:=2) rfl .nil)))) ?_ ?_
   ·skip
    refine Zq (l:=[0,1,2,3,4,5,6,7,8,9,10,11,12,13,14,15,16,17,18,19,20,21,22,23,24,25,26,27,28,29,30,31,32,33,34,35,36,37,38,39,40,41,42,43,44,45,46,47]) rfl ?_;refine Zk F.foff32_8 ?_;refine ZI F.lay3 ?_;refine Zk F.foff32_8 ?_;refine ZI F.lay3 ?_;refine YC ?_;refine ZA ?_
    refine Yp 59 rfl (fun hc9=>?_) (fun hc9=>?_)
    ·replace hc9:=dT hc9
     refine Zk F.foff32_9 ?_;refine ZI F.lay29 ?_;refine Zk F.foff32_9 ?_;refine ZI F.lay29 ?_;refine YC ?_;refine ZS ?_;refine ZA ?_
     refine Yp 66 rfl (fun hc10=>?_) (fun hc10=>?_)
     ·replace hc10:=dT hc10
      refine Zk F.foff32_10 ?_;refine ZI F.lay3 ?_;refine Zk F.foff32_10 ?_;refine ZI F.lay3 ?_;refine YC ?_;refine ZS ?_;refine ZA ?_
      refine Yp 73 rfl (fun hc11=>?_) (fun hc11=>?_)
      ·replace hc11:=dT hc11
       refine Zk F.foff32_11 ?_;refine ZI F.lay29 ?_;refine Zk F.foff32_11 ?_;refine ZI F.lay29 ?_;refine YC ?_;refine ZS ?_;refine ZA ?_
       refine Yp 80 rfl (fun hc12=>?_) (fun hc12=>?_)
       ·replace hc12:=dT hc12
        refine Zk F.foff32_12 ?_;refine ZI F.lay23 ?_;refine Zk F.foff32_12 ?_;refine ZI F.lay23 ?_
        refine WW (m:=20) rfl rfl rfl rfl rfl (by constructor) (by constructor) F.lay23 F.kinds23 rfl F.guard23 (VH Vl) (VH Vl) rfl rfl rfl ?_;intro c13 he14
        replace he14:c13=true↔Segs.cells _=Segs.cells _:=he14
        obtain rfl:=eqD he14 (cells_id1 (x:=_) (y:=_));clear he14
        refine ZS ?_;refine ZA ?_
        refine Yp 87 rfl (fun hc15=>?_) (fun hc15=>?_)
        ·replace hc15:=dT hc15
         refine Zk F.foff32_14 ?_;refine ZI F.lay3 ?_;refine Zk F.foff32_14 ?_;refine ZI F.lay3 ?_;refine YC ?_;refine ZS ?_;refine ZA ?_
         refine Yp 94 rfl (fun hc16=>?_) (fun hc16=>?_)
         ·replace hc16:=dT hc16
          refine Zk F.foff32_15 ?_;refine ZI F.lay3 ?_;refine Zk F.foff32_15 ?_;refine ZI F.lay3 ?_;refine YC ?_;refine ZS ?_;refine ZC ?_;refine Zx ?_
          exact WP (decide (VM=b_turn)) ((by constructor <;> intro h9 <;> simp_all)) (.cons (k:=6) rfl (.cons (k:=5) rfl (.cons (k:=4) rfl (.cons (k:=3) rfl (.cons (k:=2) rfl .nil))))) (fun w hw=>by first|exact hw|exact hw.c)
         ·replace hc16:=dF hc16
          iterate 5 refine Yh ?_
          refine ZS ?_;refine ZC ?_;refine Zx ?_
          exact WP (false) ((by constructor <;> intro h9 <;> simp_all)) (.cons (k:=6) rfl (.cons (k:=5) rfl (.cons (k:=4) rfl (.cons (k:=3) rfl (.cons (k:=2) rfl .nil))))) (fun w hw=>by first|exact hw|exact hw.c)
        ·replace hc15:=dF hc15
         iterate 5 refine Yh ?_
         refine ZS ?_;refine ZA ?_
         iterate 5 refine Yh ?_
         refine ZS ?_;refine ZC ?_;refine Zx ?_
         exact WP (false) ((by constructor <;> intro h9 <;> simp_all)) (.cons (k:=6) rfl (.cons (k:=5) rfl (.cons (k:=4) rfl (.cons (k:=3) rfl (.cons (k:=2) rfl .nil))))) (fun w hw=>by first|exact hw|exact hw.c)
       ·replace hc12:=dF hc12
        iterate 5 refine Yh ?_
        refine ZS ?_;refine ZA ?_
        iterate 5 refine Yh ?_
        refine ZS ?_;refine ZA ?_
        iterate 5 refine Yh ?_
        refine ZS ?_;refine ZC ?_;refine Zx ?_
        exact WP (false) ((by constructor <;> intro h9 <;> simp_all)) (.cons (k:=6) rfl (.cons (k:=5) rfl (.cons (k:=4) rfl (.cons (k:=3) rfl (.cons (k:=2) rfl .nil))))) (fun w hw=>by first|exact hw|exact hw.c)
      ·replace hc11:=dF hc11
       iterate 5 refine Yh ?_
       refine ZS ?_;refine ZA ?_
       iterate 5 refine Yh ?_
       refine ZS ?_;refine ZA ?_
       iterate 5 refine Yh ?_
       refine ZS ?_;refine ZA ?_
       iterate 5 refine Yh ?_
       refine ZS ?_;refine ZC ?_;refine Zx ?_
       exact WP (false) ((by constructor <;> intro h9 <;> simp_all)) (.cons (k:=6) rfl (.cons (k:=5) rfl (.cons (k:=4) rfl (.cons (k:=3) rfl (.cons (k:=2) rfl .nil))))) (fun w hw=>by first|exact hw|exact hw.c)
     ·replace hc10:=dF hc10
      iterate 5 refine Yh ?_
      refine ZS ?_;refine ZA ?_
      iterate 5 refine Yh ?_
      refine ZS ?_;refine ZA ?_
      iterate 5 refine Yh ?_
      refine ZS ?_;refine ZA ?_
      iterate 5 refine Yh ?_
      refine ZS ?_;refine ZA ?_
      iterate 5 refine Yh ?_
      refine ZS ?_;refine ZC ?_;refine Zx ?_
      exact WP (false) ((by constructor <;> intro h9 <;> simp_all)) (.cons (k:=6) rfl (.cons (k:=5) rfl (.cons (k:=4) rfl (.cons (k:=3) rfl (.cons (k:=2) rfl .nil))))) (fun w hw=>by first|exact hw|exact hw.c)
    ·replace hc9:=dF hc9
     iterate 5 refine Yh ?_
     refine ZS ?_;refine ZA ?_
     iterate 5 refine Yh ?_
     refine ZS ?_;refine ZA ?_
     iterate 5 refine Yh ?_
     refine ZS ?_;refine ZA ?_
     iterate 5 refine Yh ?_
     refine ZS ?_;refine ZA ?_
     iterate 5 refine Yh ?_
     refine ZS ?_;refine ZA ?_
     iterate 5 refine Yh ?_
     refine ZS ?_;refine ZC ?_;refine Zx ?_
     exact WP (false) ((by constructor <;> intro h9 <;> simp_all)) (.cons (k:=6) rfl (.cons (k:=5) rfl (.cons (k:=4) rfl (.cons (k:=3) rfl (.cons (k:=2) rfl .nil))))) (fun w hw=>by first|exact hw|exact hw.c)
   ·rintro b6 hb6
    refine ZJ (Zq (l:=[0,1,2,3,4,5,6,7,8,9,10,11,12,13,14,15,16,17,18]) rfl ?_);refine Zk F.foff32_0 ?_;refine ZI F.lay28 ?_;refine Zk F.foff32_0 ?_;refine ZI F.lay28 ?_;refine X_fs rfl rfl F.ok42 rfl (SameT_ok _ ⟨⟨Xo,XH⟩,⟨Xp,XI⟩,⟨XC,XB,Xj⟩,⟨Xi,Xh,Xd⟩⟩ ⟨⟨b_table_self_addr,b_table_self_id⟩,⟨b_table_pred_addr,b_table_pred_id⟩,⟨b_table_succ_a,b_table_succ_c,b_table_succ_l⟩,⟨b_table_fingers_a,b_table_fingers_c,b_table_fingers_l⟩⟩ k_a_table k_b_table) rfl ?_
    rintro _ rfl
    refine ZA ?_
    refine Yp 106 rfl (fun hc17=>?_) (fun hc17=>?_)
    ·replace hc17:=dT hc17
     refine ZA ?_;refine ZS ?_;refine ZA ?_
     refine Yp 109 rfl (fun hc18=>?_) (fun hc18=>?_)
     ·skip
      refine ZA ?_;refine ZS ?_;refine ZA ?_
      refine Yp 112 rfl (fun hc19=>?_) (fun hc19=>?_)
      ·skip
       refine Zk F.foff32_13 ?_;refine ZI F.lay30 ?_;refine Zk F.foff32_13 ?_;refine ZI F.lay30 ?_;refine X_fs rfl rfl F.ok43 rfl (Ints_ok _ ⟨Wx,Ww,Wj⟩ ⟨b_avoid_a,b_avoid_c,b_avoid_l⟩ k_a_avoid k_b_avoid) rfl ?_
       rintro _ rfl
       refine ZS ?_;refine ZC ?_;refine Zx (Zt (Y_pk [4] ?_));refine Yu ?_
       refine Yj (.inr rfl) (.tmp rfl .nil) (fun w hw=>?_)
       refine ⟨_,rfl,(hw.c),?_⟩
       clear hw
       try simp only [List.map_id] at *
       refine congrArg Value.bool ?_
       exact decide_eq_decide.2 ⟨fun h9=>by simp_all [ZP.nd],fun h9=>by simp only [Nd.mk.injEq,ZP.nd] at h9;simp_all⟩
      ·skip
       iterate 5 refine Yh ?_
       refine ZS ?_;refine ZC ?_;refine Zx (Zt (Y_pk [4] ?_));refine Yu ?_
       refine Yj (.inr rfl) (.tmp rfl .nil) (fun w hw=>?_)
       refine ⟨_,rfl,(hw.c),?_⟩
       clear hw
       try simp only [List.map_id] at *
       refine congrArg Value.bool ?_
       exact (decide_eq_false (fun h9=>by simp only [Nd.mk.injEq,ZP.nd] at h9;simp_all)).symm
     ·skip
      refine Yh ?_;refine ZS ?_;refine ZA ?_
      iterate 5 refine Yh ?_
      refine ZS ?_;refine ZC ?_;refine Zx (Zt (Y_pk [4] ?_));refine Yu ?_
      refine Yj (.inr rfl) (.tmp rfl .nil) (fun w hw=>?_)
      refine ⟨_,rfl,(hw.c),?_⟩
      clear hw
      try simp only [List.map_id] at *
      refine congrArg Value.bool ?_
      exact (decide_eq_false (fun h9=>by simp only [Nd.mk.injEq,ZP.nd] at h9;simp_all)).symm
    ·replace hc17:=dF hc17
     refine Yh ?_;refine ZS ?_;refine ZA ?_;refine Yh ?_;refine ZS ?_;refine ZA ?_
     iterate 5 refine Yh ?_
     refine ZS ?_;refine ZC ?_;refine Zx (Zt (Y_pk [4] ?_));refine Yu ?_
     refine Yj (.inr rfl) (.tmp rfl .nil) (fun w hw=>?_)
     refine ⟨_,rfl,(hw.c),?_⟩
     clear hw
     try simp only [List.map_id] at *
     refine congrArg Value.bool ?_
     exact (decide_eq_false (fun h9=>by simp only [Nd.mk.injEq,ZP.nd] at h9;simp_all)).symm
theorem BigL_ok (M:Mem) (l:ZQ) (hl0:ZQ.ok M l):Fs Tryz.prog 16 [l.enc] M (fun v=>∃ b:Bool,v=.bool b∧(b=false→l.avoid.l.length≤60∧l.peers.l.length≤60)):=by
  obtain ⟨ZZ,⟨ZN,Yq⟩,YG,l_id,⟨Yc,Yb,ZO⟩,YB,⟨ZL,ZV⟩,⟨Ya,ZX,ZK⟩⟩:=l
  have Xm:SlK M (oneI .i64) 1 ⟨Yc,Yb,ZO⟩:=hl0.h0
  have s_l_avoid:SlM M Yc (ZO.map (oneI .i64)) 1:=Xm.h1
  have n_l_avoid:(ZO.map (oneI .i64)).length=ZO.length:=List.length_map ..
  have m_l_avoid:ZO.length≤9223372036854775807:=Xm.h2
  have c_l_avoid:ZO.length≤Yb:=Xm.h3
  have YX:SlK M ZE.segs 21 ⟨Ya,ZX,ZK⟩:=hl0.h1
  have XP:SlM M Ya (ZK.map ZE.segs) 21:=YX.h1
  have WI:(ZK.map ZE.segs).length=ZK.length:=List.length_map ..
  have m_l_peers:ZK.length≤9223372036854775807:=YX.h2
  have WJ:ZK.length≤ZX:=YX.h3
  refine Xs Tryz.func16 rfl Tryz.ntmps16 rfl ?_;intro H
  refine ZJ (Zq (l:=[0,1]) rfl ?_)
  refine Xk ?_;intro b1
  refine ZC ?_;refine Zx (Zt (Y_pk [2,1] ?_));refine ZJ (Zq (l:=[0,1,2,3,4,5,6,7,8,9,10]) rfl ?_);refine Zk F.foff44_4 ?_;refine ZI F.lay30 ?_;refine YZ F.elem30 ?_;refine YC ?_;refine ZA ?_
  refine Yp 7 rfl (fun hc2=>?_) (fun hc2=>?_)
  ·replace hc2:=dT hc2
   iterate 4 refine Yh ?_
   refine ZS ?_;refine ZC ?_;refine Zx (Zt (Y_pk [2] ?_));refine Yu ?_
   refine Yj (.inr rfl) (.tmp rfl .nil) (fun w hw=>?_)
   refine ⟨_,rfl,hw.c,_,rfl,?_⟩
   clear hw
   intro h9
   (cases h9;done)
  ·replace hc2:=dF hc2
   refine Zk F.foff44_7 ?_;refine ZI F.lay26 ?_;refine YZ F.elem26 ?_;refine YC ?_;refine ZS ?_;refine ZC ?_;refine Zx (Zt (Y_pk [2] ?_));refine Yu ?_
   refine Yj (.inr rfl) (.tmp rfl .nil) (fun w hw=>?_)
   refine ⟨_,rfl,hw.c,_,rfl,?_⟩
   clear hw
   intro h9
   (have h8:=of_decide_eq_false h9;exact ⟨by show ZO.length≤60;omega,by show ZK.length≤60;omega⟩)
theorem BigN_ok (M:Mem) (n:ZP) (hn0:ZP.ok M n):Fs Tryz.prog 9 [n.enc] M (fun v=>∃ b:Bool,v=.bool b∧(b=false→(n.table.succ.l.length≤40∧n.table.fingers.l.length≤200)∧n.avoid.l.length≤60)):=by
  obtain ⟨⟨⟨Za,Zc⟩,⟨Zf,Zh⟩,⟨Zj,Zi,Zg⟩,⟨Ze,Zd,Zb⟩⟩,Zs,Zr,ZF,Zz,ZM,ZB,Zv,Zu,Zn,Zy,Zm,Zw,⟨Zp,Zo,Zl⟩,ZD,ZG⟩:=n
  have Yk:ZT.ok M ⟨⟨Za,Zc⟩,⟨Zf,Zh⟩,⟨Zj,Zi,Zg⟩,⟨Ze,Zd,Zb⟩⟩:=hn0.h0
  have Xb:SlK M ZE.segs 21 ⟨Zj,Zi,Zg⟩:=hn0.h0.h0
  have s_n_table_succ:SlM M Zj (Zg.map ZE.segs) 21:=Xb.h1
  have n_n_table_succ:(Zg.map ZE.segs).length=Zg.length:=List.length_map ..
  have m_n_table_succ:Zg.length≤9223372036854775807:=Xb.h2
  have c_n_table_succ:Zg.length≤Zi:=Xb.h3
  have YN:SlK M ZE.segs 21 ⟨Ze,Zd,Zb⟩:=hn0.h0.h1
  have s_n_table_fingers:SlM M Ze (Zb.map ZE.segs) 21:=YN.h1
  have n_n_table_fingers:(Zb.map ZE.segs).length=Zb.length:=List.length_map ..
  have m_n_table_fingers:Zb.length≤9223372036854775807:=YN.h2
  have c_n_table_fingers:Zb.length≤Zd:=YN.h3
  have Yr:SlK M (oneI .i64) 1 ⟨Zp,Zo,Zl⟩:=hn0.h1
  have s_n_avoid:SlM M Zp (Zl.map (oneI .i64)) 1:=Yr.h1
  have n_n_avoid:(Zl.map (oneI .i64)).length=Zl.length:=List.length_map ..
  have m_n_avoid:Zl.length≤9223372036854775807:=Yr.h2
  have c_n_avoid:Zl.length≤Zo:=Yr.h3
  refine Xs Tryz.func9 rfl Tryz.ntmps9 rfl ?_;intro H
  refine ZJ (Zq (l:=[0,1]) rfl ?_)
  refine Xk ?_;intro b1
  refine ZC ?_;refine Zx (Zt (Y_pk [2,1] ?_));refine ZJ (Zq (l:=[0,1,2,3,4,5,6,7,8,9]) rfl ?_);refine Zk F.foff32_0 ?_;refine ZI F.lay28 ?_;refine X_fs rfl rfl F.ok31 rfl (BigT_ok _ ⟨⟨Za,Zc⟩,⟨Zf,Zh⟩,⟨Zj,Zi,Zg⟩,⟨Ze,Zd,Zb⟩⟩ Yk) rfl ?_
  rintro _ rfl
  refine ZA ?_
  refine Yp 6 rfl (fun hc2=>?_) (fun hc2=>?_)
  ·replace hc2:=dT hc2
   simp only [ZE.eta,ZT.eta,ZP.eta,ZQ.eta,Yw.eta,ZR.eta,YM.eta,ZY.eta] at hc2
   iterate 4 refine Yh ?_
   refine ZS ?_;refine ZC ?_;refine Zx (Zt (Y_pk [2] ?_));refine Yu ?_
   refine Yj (.inr rfl) (.tmp rfl .nil) (fun w hw=>?_)
   refine ⟨_,rfl,hw.c,_,rfl,?_⟩
   clear hw
   intro h9
   (cases h9;done)
  ·replace hc2:=dF hc2
   simp only [ZE.eta,ZT.eta,ZP.eta,ZQ.eta,Yw.eta,ZR.eta,YM.eta,ZY.eta] at hc2
   refine Zk F.foff32_13 ?_;refine ZI F.lay30 ?_;refine YZ F.elem30 ?_;refine YC ?_;refine ZS ?_;refine ZC ?_;refine Zx (Zt (Y_pk [2] ?_));refine Yu ?_
   refine Yj (.inr rfl) (.tmp rfl .nil) (fun w hw=>?_)
   refine ⟨_,rfl,hw.c,_,rfl,?_⟩
   clear hw
   intro h9
   (have h8:=of_decide_eq_false h9;refine ⟨⟨?_,?_⟩,by show Zl.length≤60;omega⟩ <;> simp_all <;> omega)
end Go.Proofs.YtajmnjefajknoaaGreat
namespace Go.Esp
def VT (l:List Int) (a:Int):List Int:=if a∈l∨16≤l.length then l else l++[a]
theorem shunN_l (n:Nd) (a:Int):shunN n a={ n with avoid:=VT n.avoid a }:=by
  unfold shunN VT
  split <;> rfl
theorem nx_w64 (r:Int):w64 (r+1)=nxR r:=by
  unfold nxR w64
  rfl
theorem stab_alone {n:Nd} {l:List Int} (hj:n.joined=false) (hl:l=if n.findTo≠-1∧n.findTo≠n.boot then VT n.avoid n.findTo else n.avoid):stabN n=seekN { n with findID:=n.table.self.id,hops:=0,avoid:=l } n.boot:=by
  subst hl
  unfold stabN
  rw [if_pos hj]
  by_cases h:n.findTo≠-1∧n.findTo≠n.boot
  · simp only [if_pos h,shunN_l]
  · simp only [if_neg h]
theorem stab_joined {n m m2:Nd} (hj:n.joined=true) (h1:m=if n.askTo≠-1 then { n with table:=Wi n.table n.askTo,askTo:=-1 } else n) (h2:m2=if m.table.succ=[]∧m.table.pred≠Xc then WG m m.table.pred [] else m) :
    stabN n=if m2.table.succ=[] then (m2,[]) else ({ m2 with req:=nxR m2.req,askTo:=(We m2.table).addr,askReq:=nxR m2.req },[⟨(We m2.table).addr,lett m2 3 (nxR m2.req)⟩]):=by
  subst h1 h2
  unfold stabN
  rw [if_neg (by rw [hj];decide)]
theorem fix_eq {n m:Nd} {id:Plc} (hj:n.joined=true) (hm:m=if n.findTo=-1 then { n with avoid:=[] } else { n with avoid:=VT n.avoid n.findTo,table:=Wi n.table n.findTo,findTo:=-1 }) (hid:id=m.table.self.id+powP m.cursor.toNat) :
    fixN n=if (VV m.table id).2 then (VY m (VV m.table id).1,[]) else if (WF m.table id m.avoid).2=false then ({ m with cursor:=0 },[]) else seekN { m with findID:=id,hops:=0 } (WF m.table id m.avoid).1.addr:=by
  subst hid hm
  unfold fixN
  rw [if_neg (by rw [hj];decide)]
  by_cases h:n.findTo=-1
  · simp only [if_pos h]
  · simp only [if_neg h,shunN_l]
theorem forget_big {t9 t:Tb} {a:Int} (h:t9=Wi t a) (hb:t.succ.length≤40∧t.fingers.length≤200):t9.succ.length≤40∧t9.fingers.length≤200:=by
  subst h
  unfold Wi
  refine ⟨Nat.le_trans (List.length_filter_le _ _) hb.1,?_⟩
  simp only [List.length_map]
  exact hb.2
theorem check_nil {n m:Nd} (hm:m=if n.pingTo≠-1 then { n with table:=Wi n.table n.pingTo,pingTo:=-1 } else n) (hl:knownT m.table=[]):checkN n=(m,[]):=by
  subst hm
  unfold checkN
  simp only
  rw [hl]
theorem check_cons {n m:Nd} {l:List ZE} {k:Nat} {a:Int} (hm:m=if n.pingTo≠-1 then { n with table:=Wi n.table n.pingTo,pingTo:=-1 } else n) (hl:knownT m.table=l) (hk:k<l.length) (he:m.turn.toNat % l.length=k) (ha:a=l[k].addr) :
    checkN n=({ m with req:=nxR m.req,pingTo:=a,pingReq:=nxR m.req,turn:=(m.turn+1) % 1000000 },[⟨a,lett m 6 (nxR m.req)⟩]):=by
  subst hm
  unfold checkN
  simp only
  rw [hl]
  match l,hk,he,ha with
  | p::l,hk,he,ha =>
    have h:(((p::l)[(if n.pingTo≠-1 then { n with table:=Wi n.table n.pingTo,pingTo:=-1 } else n).turn.toNat % (l.length+1)]?).getD Xc).addr=a:=by
      rw [show l.length+1=(p::l).length from rfl,he,List.getElem?_eq_getElem hk,ha]
      rfl
    simp only [h]
theorem tick_yes {n:Nd} {k:Int} {r:Nd×List Snd} (h:IsNd n) (h1:1≤k∧k≤3) (hr:r=if k=1 then stabN n else if k=2 then fixN n else checkN n):VX n k=(r.1,r.2,0):=by
  subst hr
  unfold VX
  rw [if_pos ⟨h,h1.1,h1.2⟩]
theorem tick_no {n:Nd} {k:Int} (h:¬(IsNd n∧1≤k∧k≤3)):VX n k=(Nd.zero,[],1):=by
  unfold VX
  rw [if_neg h]
def SnE (M:Mem) (v:Value) (X:List Snd):Prop:=∃ o9:Sl Yw,v=o9.val∧sndl o9.l=X∧SlK M Yw.segs 68 o9∧∀ y∈o9.l,Yw.ok M y
def NE (M:Mem) (v:Value) (X:Nd):Prop:=∃ n9:ZP,v=n9.enc∧n9.nd=X∧ZP.ok M n9
def NsE (M:Mem) (v:Value) (X:Nd×List Snd):Prop:=∃ (n9:ZP) (o9:Sl Yw),v=.tuple #[n9.enc,o9.val]∧n9.nd=X.1∧sndl o9.l=X.2∧ZP.ok M n9∧SlK M Yw.segs 68 o9∧∀ y∈o9.l,Yw.ok M y
def NtE (M:Mem) (v:Value) (X:Nd×List Snd×Int):Prop:=∃ (n9:ZP) (o9:Sl Yw),v=.tuple #[n9.enc,o9.val,.int .i64 X.2.2]∧n9.nd=X.1∧sndl o9.l=X.2.1∧ZP.ok M n9∧SlK M Yw.segs 68 o9∧∀ y∈o9.l,Yw.ok M y
end Go.Esp
namespace Go.Proofs.YtajmnjefajknoaaGreat
open Go.Esp
theorem F.bld44:Bld Tryz.prog 44 [[.one (.int .i64 0)],[.one (.int .i64 0),Yn 0],[.one (.int .u64 0)],[Yn 0],[.one (.slice none 0 0)],[.one (.bool false)],[.one (.int .i64 0),Yn 0],[.one (.slice none 0 0)]]:=by rw [VQ];exact ⟨by kernel_rfl,by kernel_rfl⟩
theorem F.bld49:Bld Tryz.prog 49 [[.one (.int .i64 0)],[.one (.int .i64 0),.one (.int .i64 0),Yn 0,.one (.int .u64 0),Yn 0,.one (.slice none 0 0),.one (.bool false),.one (.int .i64 0),Yn 0,.one (.slice none 0 0)]]:=by rw [VQ];exact ⟨by kernel_rfl,by kernel_rfl⟩
theorem F.zero32:Wh Tryz.prog 32=some (aggV [.one (.int .i64 0),Yn 0,.one (.int .i64 0),Yn 0,.one (.slice none 0 0),.one (.slice none 0 0),.one (.int .i64 0),.one (.bool false),.one (.int .i64 0),.one (.int .i64 0),.one (.int .u64 0),.one (.int .i64 0),.one (.int .u64 0),.one (.int .i64 0),.one (.int .u64 0),.one (.int .i64 0),.one (.int .u64 0),Yn 0,.one (.slice none 0 0),.one (.int .i64 0),.one (.int .i64 0)]):=by rw [VQ];kernel_rfl
theorem F.zero44:Wh Tryz.prog 44=some (aggV [.one (.int .i64 0),.one (.int .i64 0),Yn 0,.one (.int .u64 0),Yn 0,.one (.slice none 0 0),.one (.bool false),.one (.int .i64 0),Yn 0,.one (.slice none 0 0)]):=by rw [VQ];kernel_rfl
theorem F.zero49:Wh Tryz.prog 49=some (aggV [.one (.int .i64 0),.one (.int .i64 0),.one (.int .i64 0),Yn 0,.one (.int .u64 0),Yn 0,.one (.slice none 0 0),.one (.bool false),.one (.int .i64 0),Yn 0,.one (.slice none 0 0)]):=by rw [VQ];kernel_rfl
end Go.Proofs.YtajmnjefajknoaaGreat
namespace Go.Proofs.YtajmnjefajknoaaGreat
open Go.Esp
end Go.Proofs.YtajmnjefajknoaaGreat
namespace Go.Proofs.YtajmnjefajknoaaGreat
open Go.Esp
end Go.Proofs.YtajmnjefajknoaaGreat
namespace Go.Proofs.YtajmnjefajknoaaGreat
open Go.Esp
end Go.Proofs.YtajmnjefajknoaaGreat
namespace Go.Proofs.YtajmnjefajknoaaGreat
open Go.Esp
end Go.Proofs.YtajmnjefajknoaaGreat
namespace Go.Proofs.YtajmnjefajknoaaGreat
open Go.Esp
theorem F.bld32:Bld Tryz.prog 32 [[.one (.int .i64 0),Yn 0,.one (.int .i64 0),Yn 0,.one (.slice none 0 0),.one (.slice none 0 0)],[.one (.int .i64 0)],[.one (.bool false)],[.one (.int .i64 0)],[.one (.int .i64 0)],[.one (.int .u64 0)],[.one (.int .i64 0)],[.one (.int .u64 0)],[.one (.int .i64 0)],[.one (.int .u64 0)],[.one (.int .i64 0)],[.one (.int .u64 0)],[Yn 0],[.one (.slice none 0 0)],[.one (.int .i64 0)],[.one (.int .i64 0)]]:=by rw [VQ];exact ⟨by kernel_rfl,by kernel_rfl⟩
end Go.Proofs.YtajmnjefajknoaaGreat
namespace Go.Proofs.YtajmnjefajknoaaGreat
open Go.Esp
end Go.Proofs.YtajmnjefajknoaaGreat
namespace Go.Esp
theorem found_no {n:Nd} {l:Lt} (h:n.findTo≠l.frm.addr∨n.findReq≠l.req):foundN n l=(n,[]):=if_pos h
theorem found_in {n:Nd} {l:Lt} (h1:n.findTo=l.frm.addr) (h2:n.findReq=l.req):foundN n l =
    if l.done then (if n.joined=true∧(Xr n.table.self l.peer∨l.peer=n.table.self) then (VY { n with findTo:=-1 } l.peer,[]) else if n.joined=false∧Xr n.table.self l.peer then ({ WG { n with findTo:=-1 } l.peer [] with joined:=true,cursor:=0,avoid:=[] },[]) else ({ n with findTo:=-1 },[]))
    else if ¬Xr n.table.self l.peer∨l.peer.addr∈n.avoid∨l.peer.addr=l.frm.addr∨32≤n.hops then ({ n with findTo:=-1 },[])
    else seekN { n with hops:=n.hops+1 } l.peer.addr:=by
  unfold foundN
  rw [if_neg (by rintro (h|h);exact h h1;exact h h2)]
theorem found_drop {n:Nd} {l:Lt} (h1:n.findTo=l.frm.addr) (h2:n.findReq=l.req) (h3:l.done=false) (h4:¬Xr n.table.self l.peer∨l.peer.addr∈n.avoid∨l.peer.addr=l.frm.addr∨32≤n.hops):foundN n l=({ n with findTo:=-1 },[]):=by
  rw [found_in h1 h2,if_neg (by rw [h3];decide),if_pos h4]
theorem found_seek {n:Nd} {l:Lt} (h1:n.findTo=l.frm.addr) (h2:n.findReq=l.req) (h3:l.done=false) (h4:Xr n.table.self l.peer) (h5:l.peer.addr∉n.avoid) (h6:l.peer.addr≠l.frm.addr) (h7:¬32≤n.hops):foundN n l=seekN { n with hops:=n.hops+1 } l.peer.addr:=by
  rw [found_in h1 h2,if_neg (by rw [h3];decide),if_neg (by rintro (q|q|q|q);exact q h4;exact h5 q;exact h6 q;exact h7 q)]
theorem told_no {n:Nd} {l:Lt} (h:n.askTo≠l.frm.addr∨n.askReq≠l.req):toldN n l=(n,[]):=if_pos h
theorem told_yes {n m q:Nd} {l:Lt} (h1:n.askTo=l.frm.addr) (h2:n.askReq=l.req) (hm:m=WG { n with askTo:=-1 } l.frm l.peers) (h3:CloserT m.table l.peer) (hq:q=WG m l.peer (l.frm::l.peers)):toldN n l=(q,[⟨(We q.table).addr,lett q 5 0⟩]):=by
  subst hm hq
  unfold toldN
  rw [if_neg (by rintro (h|h);exact h h1;exact h h2)]
  simp only [if_pos h3]
theorem told_not {n m:Nd} {l:Lt} (h1:n.askTo=l.frm.addr) (h2:n.askReq=l.req) (hm:m=WG { n with askTo:=-1 } l.frm l.peers) (h3:¬CloserT m.table l.peer):toldN n l=(m,[⟨(We m.table).addr,lett m 5 0⟩]):=by
  subst hm
  unfold toldN
  rw [if_neg (by rintro (h|h);exact h h1;exact h h2)]
  simp only [if_neg h3]
theorem adopt_not {n:Nd} {p:ZE} {l:List ZE} (h:¬Xr n.table.self p):WG n p l=n:=by
  have h2:VI n.table p l n.copies=(Tb.zero,1):=if_neg (by rintro ⟨_,q,_⟩;exact h q)
  unfold WG
  rw [h2]
  exact if_neg (by decide)
def byeT (n:Nd) (l:Lt):Tb:=if n.table.pred.addr=l.frm.addr then VK (Wi n.table l.frm.addr) l.peer else Wi n.table l.frm.addr
theorem bye_yes {n m:Nd} {l:Lt} (hm:m={ n with table:=byeT n l }) (h1:(We n.table).addr=l.frm.addr) (h2:0<l.peers.length):byeN n l=WG m l.peers[0] (l.peers.drop 1):=by
  subst hm
  unfold byeN byeT
  match hl:l.peers,h2 with
  | p::ps,_=>simp only [if_pos h1,List.getElem_cons_zero,List.drop_succ_cons,List.drop_zero]
theorem bye_no {n m:Nd} {l:Lt} (hm:m={ n with table:=byeT n l }) (h:(We n.table).addr=l.frm.addr→∀ h:0<l.peers.length,¬Xr m.table.self l.peers[0]):byeN n l=m:=by
  by_cases h1:(We n.table).addr=l.frm.addr
  · by_cases h2:0<l.peers.length
    · rw [bye_yes hm h1 h2]
      exact adopt_not (h h1 h2)
    · have h3:l.peers=[]:=List.eq_nil_of_length_eq_zero (by omega)
      subst hm
      unfold byeN byeT
      rw [h3]
  · subst hm
    unfold byeN byeT
    match hl:l.peers with
    | []=>rfl
    | p::ps=>simp only [if_neg h1]
theorem WZ {n:Nd} {l:Lt} (h:¬(IsNd n∧IsLt l)):VP n l=(Nd.zero,[],1):=if_neg h
theorem take_not {n:Nd} {l:Lt} (h1:IsNd n) (h2:IsLt l) (h:¬Xr n.table.self l.frm):VP n l=(n,[],0):=by
  unfold VP
  rw [if_pos ⟨h1,h2⟩,if_pos h]
def XS (n:Nd) (l:Lt):Nd×List Snd :=
  if l.kind=1 then (n,findN n l)
  else if l.kind=2 then foundN n l
  else if l.kind=3 then (n,if n.joined then [⟨l.frm.addr,{ lett n 4 l.req with peer:=n.table.pred,peers:=n.table.succ }⟩] else [])
  else if l.kind=4 then toldN n l
  else if l.kind=5 then ({ n with table:=VK n.table l.frm },[])
  else if l.kind=6 then (n,[⟨l.frm.addr,lett n 7 l.req⟩])
  else if l.kind=7 then (if n.pingTo=l.frm.addr∧n.pingReq=l.req then { n with pingTo:=-1 } else n,[])
  else (byeN n l,[])
theorem take_does {n:Nd} {l:Lt} (h1:IsNd n) (h2:IsLt l) (h:Xr n.table.self l.frm):VP n l=((XS n l).1,(XS n l).2,0):=by
  unfold VP XS
  rw [if_pos ⟨h1,h2⟩,if_neg (fun q=>q h)]
  split
  · rfl
  split
  · rfl
  split
  · rfl
  split
  · rfl
  split
  · rfl
  split
  · rfl
  split <;> rfl
def LvE (M:Mem) (v:Value) (X:List Snd×Int):Prop:=∃ o9:Sl Yw,v=.tuple #[o9.val,.int .i64 X.2]∧sndl o9.l=X.1∧SlK M Yw.segs 68 o9∧∀ y∈o9.l,Yw.ok M y
def NeE (M:Mem) (v:Value) (X:Nd×Int):Prop:=∃ n9:ZP,v=.tuple #[n9.enc,.int .i64 X.2]∧n9.nd=X.1∧ZP.ok M n9
theorem alone_no {s:ZE} {r:Int} (h:¬(YQ s.addr∧1≤r∧r≤8)):VZ s r=(Nd.zero,1):=if_neg h
theorem alone_is {s:ZE} {r:Int} (h:YQ s.addr∧1≤r∧r≤8):VZ s r=(⟨(newT s).1,r,true,-1,0,0,-1,0,-1,0,-1,0,0,[],0,0⟩,0):=if_pos h
theorem new_ok {s:ZE}:(newT s).2=0↔YQ s.addr:=by
  unfold newT
  split <;> simp_all
theorem joining_no {s:ZE} {r b:Int} (h:¬((VZ s r).2=0∧YQ b∧b≠s.addr)):joiningN s r b=(Nd.zero,1):=if_neg h
theorem joining_is {s:ZE} {r b:Int} (h:(VZ s r).2=0∧YQ b∧b≠s.addr):joiningN s r b=({ (VZ s r).1 with joined:=false,boot:=b },0):=if_pos h
theorem does1 {n:Nd} {l:Lt} (h:l.kind=1):XS n l=(n,findN n l):=if_pos h
theorem does2 {n:Nd} {l:Lt} (h:l.kind=2):XS n l=foundN n l:=by
  unfold XS
  rw [if_neg (by rw [h];decide),if_pos h]
theorem does3 {n:Nd} {l:Lt} (h:l.kind=3):XS n l=(n,if n.joined then [⟨l.frm.addr,{ lett n 4 l.req with peer:=n.table.pred,peers:=n.table.succ }⟩] else []):=by
  unfold XS
  rw [if_neg (by rw [h];decide),if_neg (by rw [h];decide),if_pos h]
theorem does3n {n:Nd} {l:Lt} (h:l.kind=3) (hj:n.joined=false):XS n l=(n,[]):=by
  rw [does3 h,hj]
  rfl
theorem does3y {n:Nd} {l:Lt} (h:l.kind=3) (hj:n.joined=true):XS n l=(n,[⟨l.frm.addr,{ lett n 4 l.req with peer:=n.table.pred,peers:=n.table.succ }⟩]):=by
  rw [does3 h,hj]
  rfl
theorem does4 {n:Nd} {l:Lt} (h:l.kind=4):XS n l=toldN n l:=by
  unfold XS
  rw [if_neg (by rw [h];decide),if_neg (by rw [h];decide),if_neg (by rw [h];decide),if_pos h]
theorem does5 {n:Nd} {l:Lt} {T:Tb} (h:l.kind=5) (hT:T=VK n.table l.frm):XS n l=({ n with table:=T },[]):=by
  subst hT
  unfold XS
  rw [if_neg (by rw [h];decide),if_neg (by rw [h];decide),if_neg (by rw [h];decide),if_neg (by rw [h];decide),if_pos h]
theorem does6 {n:Nd} {l:Lt} (h:l.kind=6):XS n l=(n,[⟨l.frm.addr,lett n 7 l.req⟩]):=by
  unfold XS
  rw [if_neg (by rw [h];decide),if_neg (by rw [h];decide),if_neg (by rw [h];decide),if_neg (by rw [h];decide),if_neg (by rw [h];decide),if_pos h]
theorem does7 {n:Nd} {l:Lt} (h:l.kind=7):XS n l=(if n.pingTo=l.frm.addr∧n.pingReq=l.req then { n with pingTo:=-1 } else n,[]):=by
  unfold XS
  rw [if_neg (by rw [h];decide),if_neg (by rw [h];decide),if_neg (by rw [h];decide),if_neg (by rw [h];decide),if_neg (by rw [h];decide),if_neg (by rw [h];decide),if_pos h]
theorem does7y {n:Nd} {l:Lt} (h:l.kind=7) (h1:n.pingTo=l.frm.addr∧n.pingReq=l.req):XS n l=({ n with pingTo:=-1 },[]):=by
  rw [does7 h,if_pos h1]
theorem does7n {n:Nd} {l:Lt} (h:l.kind=7) (h1:¬(n.pingTo=l.frm.addr∧n.pingReq=l.req)):XS n l=(n,[]):=by
  rw [does7 h,if_neg h1]
theorem does8 {n:Nd} {l:Lt} (h:l.kind=8):XS n l=(byeN n l,[]):=by
  unfold XS
  rw [if_neg (by rw [h];decide),if_neg (by rw [h];decide),if_neg (by rw [h];decide),if_neg (by rw [h];decide),if_neg (by rw [h];decide),if_neg (by rw [h];decide),if_neg (by rw [h];decide)]
end Go.Esp
namespace Go.Proofs.YtajmnjefajknoaaGreat
open Go.Esp
end Go.Proofs.YtajmnjefajknoaaGreat
namespace Go.Proofs.YtajmnjefajknoaaGreat
open Go.Esp
theorem F.fld25_0:fld Tryz.prog 25 0=some (0,3):=by kernel_rfl
end Go.Proofs.YtajmnjefajknoaaGreat
namespace Go.Proofs.YtajmnjefajknoaaGreat
open Go.Esp
end Go.Proofs.YtajmnjefajknoaaGreat
namespace Go.Proofs.YtajmnjefajknoaaGreat
open Go.Esp
end Go.Proofs.YtajmnjefajknoaaGreat
namespace Go.Proofs.YtajmnjefajknoaaGreat
open Go.Esp
end Go.Proofs.YtajmnjefajknoaaGreat
namespace Go.Esp
abbrev IntV:=Int
theorem IntV.flat (x:Int):Esp.flat (oneI .i64 x):=YE rfl XV
def WkF (bw tw:Nat) (M:Mem) (Hout:Hp) (X:Nd×List Snd):Prop :=
  ∃ (n9:ZP) (o9:Sl Yw),Hout=[(bw,rowO (ZR.segs ⟨n9,o9⟩) tw)]∧n9.nd=X.1∧sndl o9.l=X.2∧ZP.ok M n9∧SlK M Yw.segs 68 o9∧∀ y∈o9.l,Yw.ok M y
theorem fh_frz {P:Program} {f:FuncId} {vs:List Value} {M:Mem} {Hin:Hp} {R R':Mem→Value→Hp→Prop} (h:Fh P f vs M Hin R) (hr:∀ M' v Hout H w,R M' v Hout→St M' (Hout++H) w→∃ M'' Hout',M'.le M''∧St M'' (Hout'++H) w∧R' M'' v Hout'):Fh P f vs M Hin R':=fun H w hw =>
  (h H w hw).mono fun _ w' ⟨v,M',Ho,he,hm,hs,h9⟩=>let ⟨M2,Ho2,h1,h2,h3⟩:=hr M' v Ho H w' h9 hs;⟨v,M2,Ho2,he,hm.trans h1,h2,h3⟩
def VJ (t:Tb) (a:Int):Tb×Int:=if a≠-1 then (Wi t a,-1) else (t,a)
theorem lost_big {t9 t:Tb} {a:Int} (h:t9=(VJ t a).1) (hb:t.succ.length≤40∧t.fingers.length≤200):t9.succ.length≤40∧t9.fingers.length≤200:=by
  unfold VJ at h
  split at h
  · exact forget_big h hb
  · subst h;exact hb
theorem lost_ask {n:Nd} {t:Tb} {a:Int} (h:(t,a)=VJ n.table n.askTo):{ n with table:=t,askTo:=a }=if n.askTo≠-1 then { n with table:=Wi n.table n.askTo,askTo:=-1 } else n:=by
  unfold VJ at h
  by_cases h1:n.askTo≠-1
  · rw [if_pos h1] at h ⊢
    cases h;rfl
  · rw [if_neg h1] at h ⊢
    cases h;rfl
theorem lost_ping {n:Nd} {t:Tb} {a:Int} (h:(t,a)=VJ n.table n.pingTo):{ n with table:=t,pingTo:=a }=if n.pingTo≠-1 then { n with table:=Wi n.table n.pingTo,pingTo:=-1 } else n:=by
  unfold VJ at h
  by_cases h1:n.pingTo≠-1
  · rw [if_pos h1] at h ⊢
    cases h;rfl
  · rw [if_neg h1] at h ⊢
    cases h;rfl
theorem fix_nil {n:Nd} {t:Tb} {a:Int} (h:(t,a)=VJ n.table n.findTo) (h1:n.findTo=-1):{ n with table:=t,avoid:=[],findTo:=a }=if n.findTo=-1 then { n with avoid:=[] } else { n with avoid:=VT n.avoid n.findTo,table:=Wi n.table n.findTo,findTo:=-1 }:=by
  unfold VJ at h
  rw [if_neg (fun q=>q h1)] at h
  rw [if_pos h1]
  cases h;rfl
theorem fix_shun {n:Nd} {t:Tb} {a:Int} {l:List Int} (h:(t,a)=VJ n.table n.findTo) (h1:n.findTo≠-1) (hl:l=VT n.avoid n.findTo):{ n with table:=t,avoid:=l,findTo:=a }=if n.findTo=-1 then { n with avoid:=[] } else { n with avoid:=VT n.avoid n.findTo,table:=Wi n.table n.findTo,findTo:=-1 }:=by
  unfold VJ at h
  rw [if_pos h1] at h
  rw [if_neg h1]
  cases h;subst hl;rfl
theorem shun_len {l l9:List Int} {a:Int} {n:Nat} (h:l9=VT l a) (hl:l.length≤n):l9.length≤n+1:=by
  subst h
  unfold VT
  split
  · omega
  · rw [List.length_append]
    simp only [List.length_cons,List.length_nil]
    omega
theorem fix_out {n:Nd} (h:n.joined=false):fixN n=(n,[]):=if_pos h
def endN (n:Nd) (p:ZE):Nd :=
  if n.joined=true∧(Xr n.table.self p∨p=n.table.self) then VY n p
  else if n.joined=false∧Xr n.table.self p then { WG n p [] with joined:=true,cursor:=0,avoid:=[] }
  else n
theorem end_point {n:Nd} {p:ZE} (h:n.joined=true) (h1:Xr n.table.self p∨p=n.table.self):endN n p=VY n p:=if_pos ⟨h,h1⟩
theorem end_adopt {n m:Nd} {p:ZE} (h:n.joined=false) (h1:Xr n.table.self p) (hm:m=WG n p []):endN n p={ m with joined:=true,cursor:=0,avoid:=[] }:=by
  subst hm
  unfold endN
  rw [if_neg (by rw [h];simp),if_pos ⟨h,h1⟩]
theorem end_not {n:Nd} {p:ZE} (h:n.joined=true→¬Xr n.table.self p∧p≠n.table.self) (h1:n.joined=false→¬Xr n.table.self p):endN n p=n:=by
  unfold endN
  rw [if_neg (by rintro ⟨q1,q2|q2⟩;exact (h q1).1 q2;exact (h q1).2 q2),if_neg (by rintro ⟨q1,q2⟩;exact h1 q1 q2)]
theorem found_end {n:Nd} {l:Lt} (h1:n.findTo=l.frm.addr) (h2:n.findReq=l.req) (h3:l.done=true):foundN n l=(endN { n with findTo:=-1 } l.peer,[]):=by
  rw [found_in h1 h2,if_pos h3]
  unfold endN
  by_cases h:n.joined=true∧(Xr n.table.self l.peer∨l.peer=n.table.self)
  · rw [if_pos h,if_pos h]
  · rw [if_neg h,if_neg h]
    by_cases h:n.joined=false∧Xr n.table.self l.peer
    · rw [if_pos h,if_pos h]
    · rw [if_neg h,if_neg h]
theorem find_no {n:Nd} {l:Lt} (h:n.joined=false):findN n l=[]:=if_pos h
theorem find_yes {n:Nd} {l:Lt} {d q:ZE×Bool} (h:n.joined=true) (hd:VV n.table l.id=d) (hq:WF n.table l.id l.avoid=q):findN n l=[⟨l.frm.addr,{ lett n 2 l.req with done:=d.2 || !q.2,peer:=if d.2 || !q.2 then d.1 else q.1 }⟩]:=by
  subst hd hq
  exact if_neg (by rw [h];decide)
def tickL (a b c:Nat):IM:=Vv (Vv (Vv [] 1 (.func (.func a) #[] #[])) 2 (.func (.func b) #[] #[])) 3 (.func (.func c) #[] #[])
theorem tickL1 {a b c:Nat}:(WH (tickL a b c) 1).getD .nilFunc=.func (.func a) #[] #[]:=rfl
theorem tickL2 {a b c:Nat}:(WH (tickL a b c) 2).getD .nilFunc=.func (.func b) #[] #[]:=rfl
theorem tickL3 {a b c:Nat}:(WH (tickL a b c) 3).getD .nilFunc=.func (.func c) #[] #[]:=rfl
theorem tickL0 {a b c:Nat} {k:Int} (h:¬(1≤k∧k≤3)):(WH (tickL a b c) k).getD .nilFunc=.nilFunc:=by
  show (WH [(1,Value.func (.func a) #[] #[]),(2,.func (.func b) #[] #[]),(3,.func (.func c) #[] #[])] k).getD .nilFunc=.nilFunc
  simp only [WH]
  rw [if_neg (by omega),if_neg (by omega),if_neg (by omega)]
  rfl
theorem setParts_first {z r:Segs} {zs:List Segs} (h:Segs.len z=Segs.len r):Va (z::zs) [(0,r)]=some (r::zs):=by
  have h1:=setPart_at [] z r zs h
  simp only [List.nil_append,List.length_nil] at h1
  unfold Va
  rw [h1]
  rfl
theorem fh_thaw {α:Type} {T sz k cp:Nat} {f:α→Segs} {l:List α} {ad:Option Addr} {hs Hin:Hp} {P:Program} {g:FuncId} {vs:List Value} {M:Mem} {R:Mem→Value→Hp→Prop} (ho:OSl T sz (.slice ad k cp) hs (l.map f)) (h:∀ M',M.le M'→SlK M' f sz ⟨ad,cp,l⟩→Fh P g vs M' Hin R):Fh P g vs M (Hin++hs) R:=fun H w hw=>by
  obtain ⟨M',h1,h2,h3⟩:=ho.frz (H:=Hin++H) (hw.cnt (by intro zz;simp only [cnt_app];omega))
  exact (h M' h1 h3 H w h2).mono fun e w' ⟨v,M2,Ho,he,hm,hs,hr⟩=>⟨v,M2,Ho,he,h1.trans hm,hs,hr⟩
end Go.Esp
namespace Go.Proofs.YtajmnjefajknoaaGreat
open Go.Esp
theorem F.foff68_0:foff Tryz.prog 68 0=some 0:=by kernel_rfl
theorem F.foff68_1:foff Tryz.prog 68 1=some 78:=by kernel_rfl
theorem F.lay35:lay Tryz.prog 35=some (false,1):=by kernel_rfl
theorem F.ok65:okFn Tryz.prog 65=true:=by kernel_rfl
theorem F.ok83:okFn Tryz.prog 83=true:=by kernel_rfl
theorem F.ok91:okFn Tryz.prog 91=true:=by kernel_rfl
theorem CloneI_nil (M:Mem) (c:Nat) (l:List IntV) (k:SlK M (oneI .i64) 1 ⟨none,c,l⟩) (hb:l.length≤1000000):Fh Tryz.prog 91 [.slice none l.length c] M [] (fun M' v Hout=>M'=M∧OSl 3 1 v Hout (l.map (oneI .i64))):=by
  have hl0:l=[]:=SlM.none_nil k.h1
  subst hl0
  have hl0:([]:List IntV).map (oneI .i64)=[]:=rfl
  refine fh_enter Tryz.func91 rfl Tryz.ntmps91 rfl ?_;intro H
  refine ZJ (Zq (l:=[0]) rfl ?_);refine ZC ?_;refine Zx (Zt ?_)
  iterate 2 refine ZJ ?_
  refine Zq (l:=[0,1]) rfl ?_;refine ZA ?_;refine Y_nil Tryz.underlying30 ?_;refine Zx (Zt (Y_pk [4,2,0] ?_))
  refine YA rfl (fun hc1=>?_) (fun hc1=>?_)
  ·skip
   refine ZJ (Zq (l:=[0]) rfl ?_);refine ZC ?_;refine Zx (Zt (Y_pk [2,0] ?_));refine Yu (YY ?_)
   refine Yj (.inr rfl) (.tmp rfl .nil) (fun w hw=>?_)
   exact ⟨_,M,[],rfl,Mem.le.refl M,hw.c,rfl,by rw [hl0];exact OSl.nil⟩
  ·skip
   (exfalso;simp [eqX] at hc1;done)
theorem CloneI_some (M:Mem) (ad:Addr) (c:Nat) (l:List IntV) (k:SlK M (oneI .i64) 1 ⟨some ad,c,l⟩) (hb:l.length≤1000000):Fh Tryz.prog 91 [.slice (some ad) l.length c] M [] (fun M' v Hout=>M'=M∧OSl 3 1 v Hout (l.map (oneI .i64))):=by
  have hml:l.length=(l.map (oneI .i64)).length:=(List.length_map ..).symm
  refine fh_enter Tryz.func91 rfl Tryz.ntmps91 rfl ?_;intro H
  refine ZJ (Zq (l:=[0]) rfl ?_);refine ZC ?_;refine Zx (Zt ?_)
  iterate 2 refine ZJ ?_
  refine Zq (l:=[0,1]) rfl ?_;refine ZA ?_;refine Y_nil Tryz.underlying30 ?_;refine Zx (Zt (Y_pk [4,2,0] ?_))
  refine YA rfl (fun hc1=>?_) (fun hc1=>?_)
  ·skip
   (exfalso;simp [eqX] at hc1;done)
  ·skip
   refine Yz (Zt (Y_pk [2,0] ?_));refine ZJ (Zq (l:=[0,1,2,3]) rfl ?_)
   refine XZ rfl rfl F.elem30 F.zero3 rfl rfl (.nil) rfl rfl (by simp only [List.map_cons,List.map_nil] <;> rfl) rfl ?_;intro b2 hob3
   refine ZA ?_
   refine X_append (m:=1000000) rfl rfl rfl rfl rfl F.elem30 F.zero3 (by rfl) rfl (by assumption) (by repeat first|exact Rem.here _|exact Rem.two|apply Rem.skip|apply Rem.over) (SlM.src k.h1 (rows_one IntV.flat _) hml) (by (simp;omega)) (by decide) rfl ?_;intro v6 hs5 ho4;obtain ⟨adv6,cpv6,rfl⟩:=ho4.val
   refine ZC ?_;refine Zx (Zt (Y_pk [2] ?_));refine Yu ?_
   refine Yj (.inr rfl) (.tmp rfl .nil) (fun w hw=>?_)
   exact ⟨_,M,_,rfl,Mem.le.refl M,hw.c,rfl,by assumption⟩
theorem CloneI_ok (M:Mem) (a:Option Addr) (c:Nat) (l:List IntV) (k:SlK M (oneI .i64) 1 ⟨a,c,l⟩) (hb:l.length≤1000000):Fh Tryz.prog 91 [.slice a l.length c] M [] (fun M' v Hout=>M'=M∧OSl 3 1 v Hout (l.map (oneI .i64))):=by
  cases a with
  |none=>exact CloneI_nil M c l k hb
  |some ad=>exact CloneI_some M ad c l k hb
theorem send_ok (M:Mem) (bw:Nat) (Za:Int) (Zc:Plc) (Zf:Int) (Zh:Plc) (Zj Ze Zp:Option Addr) (Zi Zd Zo:Nat) (Zg Zb:List ZE) (Zl:List Int) (Zs:Int) (Zr:Bool) (ZF Zz ZM ZB Zv Zu Zn Zy Zm:Int) (Zw:Plc) (ZD ZG:Int) (o_a:Option Addr) (o_c:Nat) (o_l:List Yw) (ho:Hp) (hO:OSl 49 68 (.slice o_a o_l.length o_c) ho (o_l.map Yw.segs)) (hL:o_l.length≤1000) (to:Int) (l:ZQ):Fh Tryz.prog 65 [.pointer (some ⟨bw,0,none⟩),.int .i64 to,l.enc] M ((bw,rowO (ZR.segs ⟨⟨⟨⟨Za,Zc⟩,⟨Zf,Zh⟩,⟨Zj,Zi,Zg⟩,⟨Ze,Zd,Zb⟩⟩,Zs,Zr,ZF,Zz,ZM,ZB,Zv,Zu,Zn,Zy,Zm,Zw,⟨Zp,Zo,Zl⟩,ZD,ZG⟩,⟨o_a,o_c,o_l⟩⟩) 68)::ho) (fun M' v Hout=>M'=M∧v=.tuple #[]∧∃ (o9:Sl Yw) (ho9:Hp),Hout=(bw,rowO (ZR.segs ⟨⟨⟨⟨Za,Zc⟩,⟨Zf,Zh⟩,⟨Zj,Zi,Zg⟩,⟨Ze,Zd,Zb⟩⟩,Zs,Zr,ZF,Zz,ZM,ZB,Zv,Zu,Zn,Zy,Zm,Zw,⟨Zp,Zo,Zl⟩,ZD,ZG⟩,o9⟩) 68)::ho9∧OSl 49 68 o9.val ho9 (o9.l.map Yw.segs)∧o9.l=o_l++[⟨to,{ l with frm:=⟨Za,Zc⟩ }⟩]):=by
  obtain ⟨ZZ,⟨ZN,Yq⟩,YG,l_id,⟨Yc,Yb,ZO⟩,YB,⟨ZL,ZV⟩,⟨Ya,ZX,ZK⟩⟩:=l
  refine XQ (fun H=>(bw,rowO (ZR.segs ⟨⟨⟨⟨Za,Zc⟩,⟨Zf,Zh⟩,⟨Zj,Zi,Zg⟩,⟨Ze,Zd,Zb⟩⟩,Zs,Zr,ZF,Zz,ZM,ZB,Zv,Zu,Zn,Zy,Zm,Zw,⟨Zp,Zo,Zl⟩,ZD,ZG⟩,⟨o_a,o_c,o_l⟩⟩) 68)::(ho++H)) (fun _=>by simp only [List.append_assoc,List.cons_append,List.nil_append]) Tryz.func65 rfl Tryz.ntmps65 rfl ?_;intro H
  refine ZJ (Zq (l:=[0]) rfl ?_)
  refine Xk ?_;intro b1
  refine Zx (Zt (Y_pk [5,0,1] ?_));refine ZJ (Zq (l:=[0,1,2,3,4,5,6,7]) rfl ?_);refine ZA ?_;refine ZU ?_;refine Zk F.foff68_0 ?_;refine Zk F.foff32_0 ?_;refine Zk F.foff28_0 ?_;refine ZI F.lay25 ?_;refine Zk F.foff44_1 ?_;refine Yi F.lay25 ?_;refine Zx (Zt (Y_pk [5,0,1] ?_));refine YF (l:=[0,1,2,3,4,5,6,7,8,9,10,11,12]) #[0,0,2,6,14,0,0,96,224,510,1023,2047,4095] _ rfl (by kernel_rfl) (by kernel_rfl) St.drawn (fun _ h=>h) ?_
  iterate 2 refine ZA ?_
  refine ZU ?_;refine Zk F.foff68_1 ?_;refine ZI F.lay35 ?_;refine ZA ?_;refine ZI F.lay44 ?_;refine Xq rfl rfl F.bld49 (.cons rfl (by constructor) (.cons rfl (by constructor) .nil)) rfl rfl ?_
  refine XZ rfl rfl F.elem35 F.zero49 rfl rfl (.cons rfl (by constructor) .nil) rfl rfl (by simp only [List.map_cons,List.map_nil] <;> rfl) rfl ?_;intro b2 hob3
  refine X_append (m:=1000000) rfl rfl rfl rfl rfl F.elem35 F.zero49 (by exact agg_size rfl) rfl (by assumption) (by repeat first|exact Rem.here _|exact Rem.two|apply Rem.skip|apply Rem.over) (Src.own hob3.lens (by (refine rows_one1 ?_;(repeat (first|exact XV|refine XU ?_|(refine YE ?_ ?_;rfl)));done)) rfl (by repeat first|exact List.Mem.head _|refine List.Mem.tail _ ?_|refine List.mem_append_right _ ?_)) (by (simp;omega)) (by decide) rfl ?_;intro v6 hs5 ho4;obtain ⟨adv6,cpv6,rfl⟩:=ho4.valAt (n:=o_l.length+1) (by (simp;done))
  refine ZU ?_;refine Zk F.foff68_1 ?_;refine Yi F.lay35 ?_;refine Zx ?_
  refine Yj (.inl rfl) (.nil) (fun w hw=>?_)
  have h9:=ho4
  have hln:o_l.length+1=(o_l++[(⟨to,(⟨ZZ,⟨Za,Zc⟩,YG,l_id,⟨Yc,Yb,ZO⟩,YB,⟨ZL,ZV⟩,⟨Ya,ZX,ZK⟩⟩:ZQ)⟩:Yw)]).length:=by rw [List.length_append];rfl
  rw [hln] at hw h9
  refine ⟨_,M,(bw,rowO (ZR.segs ⟨⟨⟨⟨Za,Zc⟩,⟨Zf,Zh⟩,⟨Zj,Zi,Zg⟩,⟨Ze,Zd,Zb⟩⟩,Zs,Zr,ZF,Zz,ZM,ZB,Zv,Zu,Zn,Zy,Zm,Zw,⟨Zp,Zo,Zl⟩,ZD,ZG⟩,(⟨adv6,cpv6,o_l++[(⟨to,(⟨ZZ,⟨Za,Zc⟩,YG,l_id,⟨Yc,Yb,ZO⟩,YB,⟨ZL,ZV⟩,⟨Ya,ZX,ZK⟩⟩:ZQ)⟩:Yw)]⟩:Sl Yw)⟩) 68)::hs5,rfl,Mem.le.refl M,?_,rfl,rfl,(⟨adv6,cpv6,o_l++[(⟨to,(⟨ZZ,⟨Za,Zc⟩,YG,l_id,⟨Yc,Yb,ZO⟩,YB,⟨ZL,ZV⟩,⟨Ya,ZX,ZK⟩⟩:ZQ)⟩:Yw)]⟩:Sl Yw),hs5,rfl,?_,rfl⟩
  ·simp only [ZR.segs,Sl.val,List.length_nil] at hw ⊢
   exact hw.c
  ·exact OSl.as9 h9 (by rw [List.map_append];rfl)
theorem sendF_ok (M:Mem) (bw:Nat) (Za:Int) (Zc:Plc) (Zf:Int) (Zh:Plc) (Zj Ze Zp:Option Addr) (Zi Zd Zo:Nat) (Zg Zb:List ZE) (Zl:List Int) (Zs:Int) (Zr:Bool) (ZF Zz ZM ZB Zv Zu Zn Zy Zm:Int) (Zw:Plc) (ZD ZG:Int) (to:Int) (l:ZQ):Fh Tryz.prog 65 [.pointer (some ⟨bw,0,none⟩),.int .i64 to,l.enc] M [(bw,rowO (ZR.segs ⟨⟨⟨⟨Za,Zc⟩,⟨Zf,Zh⟩,⟨Zj,Zi,Zg⟩,⟨Ze,Zd,Zb⟩⟩,Zs,Zr,ZF,Zz,ZM,ZB,Zv,Zu,Zn,Zy,Zm,Zw,⟨Zp,Zo,Zl⟩,ZD,ZG⟩,⟨none,0,[]⟩⟩) 68)] (fun M' v Hout=>v=.tuple #[]∧∃ (o9:Sl Yw),Hout=[(bw,rowO (ZR.segs ⟨⟨⟨⟨Za,Zc⟩,⟨Zf,Zh⟩,⟨Zj,Zi,Zg⟩,⟨Ze,Zd,Zb⟩⟩,Zs,Zr,ZF,Zz,ZM,ZB,Zv,Zu,Zn,Zy,Zm,Zw,⟨Zp,Zo,Zl⟩,ZD,ZG⟩,o9⟩) 68)]∧SlK M' Yw.segs 68 o9∧o9.l=[⟨to,{ l with frm:=⟨Za,Zc⟩ }⟩]):=by
  refine fh_frz (send_ok M bw _ _ _ _ _ _ _ _ _ _ _ _ _ _ _ _ _ _ _ _ _ _ _ _ _ _ _ none 0 [] [] OSl.nil (by simp) to l) ?_
  rintro M' v _ H w ⟨rfl,rfl,⟨o9a,o9c,o9l⟩,ho9,rfl,hO9,hl9⟩ hs
  simp only at hl9 hO9
  simp only [Sl.val] at hO9
  obtain ⟨M2,j1,j2,j3⟩:=OSl.frz (H:=(bw,rowO (ZR.segs ⟨⟨⟨⟨Za,Zc⟩,⟨Zf,Zh⟩,⟨Zj,Zi,Zg⟩,⟨Ze,Zd,Zb⟩⟩,Zs,Zr,ZF,Zz,ZM,ZB,Zv,Zu,Zn,Zy,Zm,Zw,⟨Zp,Zo,Zl⟩,ZD,ZG⟩,⟨o9a,o9c,o9l⟩⟩) 68)::H) hO9 (hs.c)
  exact ⟨M2,_,j1,j2,rfl,⟨o9a,o9c,o9l⟩,rfl,j3,hl9⟩
theorem request_ok (M:Mem) (bw:Nat) (Za:Int) (Zc:Plc) (Zf:Int) (Zh:Plc) (Zj Ze Zp:Option Addr) (Zi Zd Zo:Nat) (Zg Zb:List ZE) (Zl:List Int) (Zs:Int) (Zr:Bool) (ZF Zz ZM ZB Zv Zu Zn Zy Zm:Int) (Zw:Plc) (ZD ZG:Int) (to:Int) (l:ZQ):Fh Tryz.prog 83 [.pointer (some ⟨bw,0,none⟩),.int .i64 to,l.enc] M [(bw,rowO (ZR.segs ⟨⟨⟨⟨Za,Zc⟩,⟨Zf,Zh⟩,⟨Zj,Zi,Zg⟩,⟨Ze,Zd,Zb⟩⟩,Zs,Zr,ZF,Zz,ZM,ZB,Zv,Zu,Zn,Zy,Zm,Zw,⟨Zp,Zo,Zl⟩,ZD,ZG⟩,⟨none,0,[]⟩⟩) 68)] (fun M' v Hout=>v=.int .u64 (nxR ZM)∧∃ (o9:Sl Yw),Hout=[(bw,rowO (ZR.segs ⟨⟨⟨⟨Za,Zc⟩,⟨Zf,Zh⟩,⟨Zj,Zi,Zg⟩,⟨Ze,Zd,Zb⟩⟩,Zs,Zr,ZF,Zz,(nxR ZM),ZB,Zv,Zu,Zn,Zy,Zm,Zw,⟨Zp,Zo,Zl⟩,ZD,ZG⟩,o9⟩) 68)]∧SlK M' Yw.segs 68 o9∧o9.l=[⟨to,{ l with frm:=⟨Za,Zc⟩,req:=nxR ZM,peer:=Xc }⟩]):=by
  obtain ⟨ZZ,⟨ZN,Yq⟩,YG,l_id,⟨Yc,Yb,ZO⟩,YB,⟨ZL,ZV⟩,⟨Ya,ZX,ZK⟩⟩:=l
  refine XQ (fun H=>(bw,rowO (ZR.segs ⟨⟨⟨⟨Za,Zc⟩,⟨Zf,Zh⟩,⟨Zj,Zi,Zg⟩,⟨Ze,Zd,Zb⟩⟩,Zs,Zr,ZF,Zz,ZM,ZB,Zv,Zu,Zn,Zy,Zm,Zw,⟨Zp,Zo,Zl⟩,ZD,ZG⟩,⟨none,0,[]⟩⟩) 68)::H) (fun _=>by simp only [List.append_assoc,List.cons_append,List.nil_append]) Tryz.func83 rfl Tryz.ntmps83 rfl ?_;intro H
  refine ZJ (Zq (l:=[0,1]) rfl ?_)
  refine Xk ?_;intro b1
  refine ZC ?_;refine Zx (Zt (Y_pk [6,5,0,1] ?_));refine ZJ (Zq (l:=[0,1,2,3,4,5,6,7,8,9]) rfl ?_);refine ZA ?_;refine ZU ?_;refine Zk F.foff68_0 ?_;refine Zk F.foff32_5 ?_;refine ZI F.lay29 ?_;refine XY rfl rfl rfl rfl rfl (by exact wrap_u64 _) rfl ?_
  obtain ⟨r9,hr9⟩:∃ v,nxR ZM=v:=⟨_,rfl⟩
  refine VF 12 rfl (show _=Value.int .u64 r9 from by rw [← hr9];exact congrArg (Value.int .u64) (nx_w64 ZM)) ?_;refine ZU ?_;refine Zk F.foff68_0 ?_;refine Zk F.foff32_5 ?_;refine Yi F.lay29 ?_;refine Zx (Zt (Y_pk [6,5,0,1] ?_));refine ZJ (YF (l:=[0,1,2,3,4,5,6,7,8,9]) #[0,1,3,7,15,0,31,127,255,511] _ rfl (by kernel_rfl) (by kernel_rfl) St.drawn (fun _ h=>h) ?_);refine ZA ?_;refine ZU ?_;refine Zk F.foff68_0 ?_;refine Zk F.foff32_5 ?_;refine ZI F.lay29 ?_;refine X_fs rfl rfl F.ok66 rfl (WY _) rfl ?_
  rintro _ rfl
  refine VF 21 rfl (show _=aggV [.one (.int .i64 (-1)),Yn 0] from rfl) ?_;refine Zk F.foff44_2 ?_;refine Yi F.lay29 ?_;refine Zk F.foff44_6 ?_;refine Yi F.lay25 ?_;refine Zx (Zt (Y_pk [6,5,0,1] ?_));refine ZJ (Xn (l:=[0,1,2,3]) [3] rfl ?_)
  iterate 2 refine ZA ?_
  refine ZI F.lay44 ?_;refine WA rfl rfl rfl F.ok65 rfl (sendF_ok M bw _ _ _ _ _ _ _ _ _ _ _ _ _ _ _ _ _ _ _ _ _ _ _ _ _ _ _ to ⟨ZZ,⟨ZN,Yq⟩,r9,l_id,⟨Yc,Yb,ZO⟩,YB,⟨-1,0⟩,⟨Ya,ZX,ZK⟩⟩) (by repeat first|exact Rem.here _|exact Rem.two|apply Rem.skip|apply Rem.over) (Yv rfl) ?_
  rintro _ M1 hs1 hm1 ⟨rfl,⟨o9a,o9c,o9l⟩,rfl,k9,hl9⟩
  simp only at hl9
  simp only [List.append_assoc,List.cons_append,List.nil_append]
  refine Zx (Wl ?_);refine Zt (Y_pk [6,0] ?_);refine ZJ (Zq (l:=[0,1,2,3,4,5]) rfl ?_);refine ZA ?_;refine ZU ?_;refine Zk F.foff68_0 ?_;refine Zk F.foff32_5 ?_;refine ZI F.lay29 ?_;refine ZC ?_;refine Zx (Zt (Y_pk [6] ?_));refine Yu ?_
  refine Yj (.inr rfl) (.tmp rfl .nil) (fun w hw=>?_)
  refine ⟨_,M1,[(bw,rowO (ZR.segs ⟨⟨⟨⟨Za,Zc⟩,⟨Zf,Zh⟩,⟨Zj,Zi,Zg⟩,⟨Ze,Zd,Zb⟩⟩,Zs,Zr,ZF,Zz,r9,ZB,Zv,Zu,Zn,Zy,Zm,Zw,⟨Zp,Zo,Zl⟩,ZD,ZG⟩,⟨o9a,o9c,o9l⟩⟩) 68)],rfl,hm1,hw.c,?_,⟨o9a,o9c,o9l⟩,?_,k9,?_⟩
  ·rw [hr9];rfl
  ·rw [hr9]
  ·rw [hr9];exact hl9
theorem seek_ok (M:Mem) (bw:Nat) (Za:Int) (Zc:Plc) (Zf:Int) (Zh:Plc) (Zj Ze Zp:Option Addr) (Zi Zd Zo:Nat) (Zg Zb:List ZE) (Zl:List Int) (Zs:Int) (Zr:Bool) (ZF Zz ZM ZB Zv Zu Zn Zy Zm:Int) (Zw:Plc) (ZD ZG:Int) (Yk:ZT.ok M ⟨⟨Za,Zc⟩,⟨Zf,Zh⟩,⟨Zj,Zi,Zg⟩,⟨Ze,Zd,Zb⟩⟩) (Yr:SlK M (oneI .i64) 1 ⟨Zp,Zo,Zl⟩) (hLa:Zl.length≤1000) (to:Int):Fh Tryz.prog 89 [.pointer (some ⟨bw,0,none⟩),.int .i64 to] M [(bw,rowO (ZR.segs ⟨⟨⟨⟨Za,Zc⟩,⟨Zf,Zh⟩,⟨Zj,Zi,Zg⟩,⟨Ze,Zd,Zb⟩⟩,Zs,Zr,ZF,Zz,ZM,ZB,Zv,Zu,Zn,Zy,Zm,Zw,⟨Zp,Zo,Zl⟩,ZD,ZG⟩,⟨none,0,[]⟩⟩) 68)] (fun M' v Hout=>v=.tuple #[]∧WkF bw 68 M' Hout (seekN (ZP.nd ⟨⟨⟨Za,Zc⟩,⟨Zf,Zh⟩,⟨Zj,Zi,Zg⟩,⟨Ze,Zd,Zb⟩⟩,Zs,Zr,ZF,Zz,ZM,ZB,Zv,Zu,Zn,Zy,Zm,Zw,⟨Zp,Zo,Zl⟩,ZD,ZG⟩) to)):=by
  refine XQ (fun H=>(bw,rowO (ZR.segs ⟨⟨⟨⟨Za,Zc⟩,⟨Zf,Zh⟩,⟨Zj,Zi,Zg⟩,⟨Ze,Zd,Zb⟩⟩,Zs,Zr,ZF,Zz,ZM,ZB,Zv,Zu,Zn,Zy,Zm,Zw,⟨Zp,Zo,Zl⟩,ZD,ZG⟩,⟨none,0,[]⟩⟩) 68)::H) (fun _=>by simp only [List.append_assoc,List.cons_append,List.nil_append]) Tryz.func89 rfl Tryz.ntmps89 rfl ?_;intro H
  refine ZJ (Zq (l:=[0,1,2,3,4,5]) rfl ?_)
  iterate 2 refine ZA ?_
  refine ZU ?_;refine Zk F.foff68_0 ?_;refine Zk F.foff32_10 ?_;refine Yi F.lay3 ?_;refine Zx (Zt (Y_pk [0,1] ?_));refine C_region_anyW (l:=[0,1,2,3,4,5,6,7,8,9,10,11,12,13,14,15,16,17,18,19]) [15] #[0,0,0,0,8,24,56,120,0,256,768,1792,3840,7936,16376,32766,65535,131071,262143,524287] (_) rfl (by kernel_rfl) (by kernel_rfl) St.drawn (fun _ h=>h) ?_
  iterate 4 refine ZA ?_
  refine ZU ?_;refine Zk F.foff68_0 ?_;refine Zk F.foff32_12 ?_;refine ZI F.lay23 ?_;refine ZA ?_;refine ZU ?_;refine Zk F.foff68_0 ?_;refine Zk F.foff32_13 ?_;refine ZI F.lay30 ?_;refine Uc rfl rfl F.ok91 rfl (CloneI_ok M Zp Zo Zl Yr (by omega)) (by repeat first|exact Rem.here _|exact Rem.two|apply Rem.skip|apply Rem.over) (fun _ _ _ hm hw=>(hw.lower (by exact hm)).c) (Yv rfl) ?_
  rintro v0 M1 hs0 hm1 ⟨hM1,ho0⟩;subst M1
  obtain ⟨ad0,cp0,rfl⟩:=ho0.valL
  refine Xq rfl rfl F.bld44 (.cons rfl (by constructor) (.cons rfl (by constructor) (.cons rfl (by constructor) .nil))) rfl rfl ?_;refine WA rfl rfl rfl F.ok83 rfl (request_ok M bw _ _ _ _ _ _ _ _ _ _ _ _ _ _ _ _ _ _ _ _ _ _ _ _ _ _ _ to ⟨1,⟨0,0⟩,0,Zw,⟨ad0,cp0,Zl⟩,false,⟨0,0⟩,⟨none,0,[]⟩⟩) (by repeat first|exact Rem.here _|exact Rem.two|apply Rem.skip|apply Rem.over) (Yv rfl) ?_
  rintro _ M2 hs2 hm2 ⟨rfl,⟨o9a,o9c,o9l⟩,rfl,k9,hl9⟩
  simp only at hl9
  simp only [List.append_assoc,List.cons_append,List.nil_append]
  refine ZU ?_;refine Zk F.foff68_0 ?_;refine Zk F.foff32_11 ?_;refine Yi F.lay29 ?_;refine Zx (Wl ?_)
  refine Yj (.inl rfl) (.nil) (fun w hw=>?_)
  obtain ⟨M9,j1,j2,j3⟩:=OSl.frz (H:=(bw,rowO (ZR.segs ⟨⟨⟨⟨Za,Zc⟩,⟨Zf,Zh⟩,⟨Zj,Zi,Zg⟩,⟨Ze,Zd,Zb⟩⟩,Zs,Zr,ZF,Zz,(nxR ZM),ZB,Zv,Zu,Zn,to,(nxR ZM),Zw,⟨Zp,Zo,Zl⟩,ZD,ZG⟩,⟨o9a,o9c,o9l⟩⟩) 68)::H) (show OSl _ _ (.slice ad0 Zl.length cp0) hs0 (Zl.map (oneI .i64)) from ho0) (hw.c)
  refine ⟨_,M9,_,rfl,hm2.trans j1,j2,rfl,⟨⟨⟨Za,Zc⟩,⟨Zf,Zh⟩,⟨Zj,Zi,Zg⟩,⟨Ze,Zd,Zb⟩⟩,Zs,Zr,ZF,Zz,(nxR ZM),ZB,Zv,Zu,Zn,to,(nxR ZM),Zw,⟨Zp,Zo,Zl⟩,ZD,ZG⟩,⟨o9a,o9c,o9l⟩,rfl,rfl,?_,⟨(Yk.mono hm2).mono j1,(Yr.mono hm2).mono j1⟩,k9.mono j1,fun y hy=>?_⟩
  ·show sndl o9l=_
   rw [hl9];rfl
  ·simp only at hy
   rw [hl9] at hy
   obtain rfl:=List.mem_singleton.1 hy
   exact ⟨⟨j3,SlK.nil⟩⟩
end Go.Proofs.YtajmnjefajknoaaGreat
namespace Go.Proofs.YtajmnjefajknoaaGreat
open Go.Esp
theorem F.ok108:okFn Tryz.prog 108=true:=by kernel_rfl
theorem shun_ok (M:Mem) (bw:Nat) (Za:Int) (Zc:Plc) (Zf:Int) (Zh:Plc) (Zj Ze Zp:Option Addr) (Zi Zd Zo:Nat) (Zg Zb:List ZE) (Zl:List Int) (Zs:Int) (Zr:Bool) (ZF Zz ZM ZB Zv Zu Zn Zy Zm:Int) (Zw:Plc) (ZD ZG:Int) (hav:Hp) (hA:OSl 3 1 (.slice Zp Zl.length Zo) hav (Zl.map (oneI .i64))) (hLa:Zl.length≤900) (a:Int):Fh Tryz.prog 84 [.pointer (some ⟨bw,0,none⟩),.int .i64 a] M ((bw,rowO (ZR.segs ⟨⟨⟨⟨Za,Zc⟩,⟨Zf,Zh⟩,⟨Zj,Zi,Zg⟩,⟨Ze,Zd,Zb⟩⟩,Zs,Zr,ZF,Zz,ZM,ZB,Zv,Zu,Zn,Zy,Zm,Zw,⟨Zp,Zo,Zl⟩,ZD,ZG⟩,⟨none,0,[]⟩⟩) 68)::hav) (fun M' v Hout=>M'=M∧v=.tuple #[]∧∃ (s9:Sl Int) (hs9:Hp),Hout=(bw,rowO (ZR.segs ⟨⟨⟨⟨Za,Zc⟩,⟨Zf,Zh⟩,⟨Zj,Zi,Zg⟩,⟨Ze,Zd,Zb⟩⟩,Zs,Zr,ZF,Zz,ZM,ZB,Zv,Zu,Zn,Zy,Zm,Zw,s9,ZD,ZG⟩,⟨none,0,[]⟩⟩) 68)::hs9∧OSl 3 1 s9.val hs9 (s9.l.map (oneI .i64))∧s9.l=VT Zl a):=by
  refine XQ (fun H=>(bw,rowO (ZR.segs ⟨⟨⟨⟨Za,Zc⟩,⟨Zf,Zh⟩,⟨Zj,Zi,Zg⟩,⟨Ze,Zd,Zb⟩⟩,Zs,Zr,ZF,Zz,ZM,ZB,Zv,Zu,Zn,Zy,Zm,Zw,⟨Zp,Zo,Zl⟩,ZD,ZG⟩,⟨none,0,[]⟩⟩) 68)::(hav++H)) (fun _=>by simp only [List.append_assoc,List.cons_append,List.nil_append]) Tryz.func84 rfl Tryz.ntmps84 rfl ?_;intro H
  refine ZJ (Zq (l:=[0,1,2,3,4,5,6,7,8,9,10,11,12,13,14,15,16]) rfl ?_);refine ZA ?_;refine ZU ?_;refine Zk F.foff68_0 ?_;refine Zk F.foff32_13 ?_;refine ZI F.lay30 ?_;refine ZA ?_;refine X_fo rfl rfl F.ok103 rfl (ContainsI_rd M hav ⟨Zp,Zo,Zl⟩ a (OSl.rd hA _) (by show Zl.length≤9223372036854775807;omega)) (by repeat first|exact Rem.here _|exact Rem.two|apply Rem.skip|apply Rem.over) (Yv rfl) ?_
  rintro _ M1 _ ⟨hM1,rfl⟩;subst M1
  refine XA ?_;refine ZA ?_
  refine Yp 12 rfl (fun hc1=>?_) (fun hc1=>?_)
  ·replace hc1:=nT hc1
   simp only [ZE.eta,ZT.eta,ZP.eta,ZQ.eta,Yw.eta,ZR.eta,YM.eta,ZY.eta] at hc1
   refine ZA ?_;refine ZU ?_;refine Zk F.foff68_0 ?_;refine Zk F.foff32_13 ?_;refine ZI F.lay30 ?_;refine YZ F.elem30 ?_;refine YC ?_;refine ZS ?_;refine Zx (Zt (Y_pk [20,0,1] ?_))
   refine YA rfl (fun hc2=>?_) (fun hc2=>?_)
   ·replace hc2:=dT hc2
    refine Zq (l:=[0,1,2,3,4,5,6,7,8,9,10,11,12]) rfl ?_
    iterate 2 refine ZA ?_
    refine ZU ?_;refine Zk F.foff68_0 ?_;refine Zk F.foff32_13 ?_;refine ZI F.lay30 ?_;refine ZA ?_
    refine XZ rfl rfl F.elem30 F.zero3 rfl rfl (.cons rfl (by constructor) .nil) rfl rfl (by simp only [List.map_cons,List.map_nil] <;> rfl) rfl ?_;intro b3 hob4
    have hAm:=hA
    rw [show Zl.length=(Zl.map (oneI .i64)).length from (List.length_map ..).symm] at hAm
    refine X_append (m:=1000000) rfl rfl rfl rfl rfl F.elem30 F.zero3 (by rfl) rfl (by assumption) (by repeat first|exact Rem.here _|exact Rem.two|apply Rem.skip|apply Rem.over) (Src.own hob4.lens (by (refine rows_one1 ?_;(repeat (first|exact XV|refine XU ?_|(refine YE ?_ ?_;rfl)));done)) rfl (by repeat first|exact List.Mem.head _|refine List.Mem.tail _ ?_|refine List.mem_append_right _ ?_)) (by (simp;omega)) (by decide) rfl ?_;intro v7 hs6 ho5;obtain ⟨adv7,cpv7,rfl⟩:=ho5.valAt (n:=Zl.length+1) (by (simp;done))
    refine ZU ?_;refine Zk F.foff68_0 ?_;refine Zk F.foff32_13 ?_;refine Yi F.lay30 ?_;refine Zx ?_
    refine Yj (.inl rfl) (.nil) (fun w hw=>?_)
    have hln:Zl.length+1=(Zl++[a]).length:=by rw [List.length_append];rfl
    have h9:=ho5
    rw [hln] at hw h9
    refine ⟨_,M,(bw,rowO (ZR.segs ⟨⟨⟨⟨Za,Zc⟩,⟨Zf,Zh⟩,⟨Zj,Zi,Zg⟩,⟨Ze,Zd,Zb⟩⟩,Zs,Zr,ZF,Zz,ZM,ZB,Zv,Zu,Zn,Zy,Zm,Zw,⟨adv7,cpv7,Zl++[a]⟩,ZD,ZG⟩,⟨none,0,[]⟩⟩) 68)::hs6,rfl,Mem.le.refl M,?_,rfl,rfl,⟨adv7,cpv7,Zl++[a]⟩,hs6,rfl,?_,?_⟩
    ·simp only [ZR.segs,Sl.val,List.length_nil] at hw ⊢
     exact hw.c
    ·exact OSl.as9 h9 (by rw [List.map_append];rfl)
    ·show Zl++[a]=VT Zl a
     unfold VT
     rw [if_neg (by rintro (q1|q1) <;> first|contradiction|omega)]
   ·replace hc2:=dF hc2
    refine Yz ?_
    refine Yj (.inl rfl) (.nil) (fun w hw=>?_)
    refine ⟨_,M,(bw,rowO (ZR.segs ⟨⟨⟨⟨Za,Zc⟩,⟨Zf,Zh⟩,⟨Zj,Zi,Zg⟩,⟨Ze,Zd,Zb⟩⟩,Zs,Zr,ZF,Zz,ZM,ZB,Zv,Zu,Zn,Zy,Zm,Zw,⟨Zp,Zo,Zl⟩,ZD,ZG⟩,⟨none,0,[]⟩⟩) 68)::hav,rfl,Mem.le.refl M,hw.c,rfl,rfl,⟨Zp,Zo,Zl⟩,hav,rfl,hA,?_⟩
    show Zl=VT Zl a
    unfold VT
    rw [if_pos (by exact .inr (by omega))]
  ·replace hc1:=nF hc1
   simp only [ZE.eta,ZT.eta,ZP.eta,ZQ.eta,Yw.eta,ZR.eta,YM.eta,ZY.eta] at hc1
   iterate 7 refine Yh ?_
   refine ZS ?_;refine Zx (Zt (Y_pk [20,0,1] ?_));refine Wq rfl ?_;refine Yz ?_
   refine Yj (.inl rfl) (.nil) (fun w hw=>?_)
   refine ⟨_,M,(bw,rowO (ZR.segs ⟨⟨⟨⟨Za,Zc⟩,⟨Zf,Zh⟩,⟨Zj,Zi,Zg⟩,⟨Ze,Zd,Zb⟩⟩,Zs,Zr,ZF,Zz,ZM,ZB,Zv,Zu,Zn,Zy,Zm,Zw,⟨Zp,Zo,Zl⟩,ZD,ZG⟩,⟨none,0,[]⟩⟩) 68)::hav,rfl,Mem.le.refl M,hw.c,rfl,rfl,⟨Zp,Zo,Zl⟩,hav,rfl,hA,?_⟩
   show Zl=VT Zl a
   unfold VT
   rw [if_pos (by exact .inl (by assumption))]
theorem lostA_ok (M:Mem) (bw:Nat) (Za:Int) (Zc:Plc) (Zf:Int) (Zh:Plc) (Zj Ze Zp:Option Addr) (Zi Zd Zo:Nat) (Zg Zb:List ZE) (Zl:List Int) (Zs:Int) (Zr:Bool) (ZF Zz ZM ZB Zv Zu Zn Zy Zm:Int) (Zw:Plc) (ZD ZG:Int) (Yk:ZT.ok M ⟨⟨Za,Zc⟩,⟨Zf,Zh⟩,⟨Zj,Zi,Zg⟩,⟨Ze,Zd,Zb⟩⟩) (hbig:Zg.length≤40∧Zb.length≤200):Fh Tryz.prog 81 [.pointer (some ⟨bw,0,none⟩),.pointer (some ⟨bw,49,none⟩)] M [(bw,rowO (ZR.segs ⟨⟨⟨⟨Za,Zc⟩,⟨Zf,Zh⟩,⟨Zj,Zi,Zg⟩,⟨Ze,Zd,Zb⟩⟩,Zs,Zr,ZF,Zz,ZM,ZB,Zv,Zu,Zn,Zy,Zm,Zw,⟨Zp,Zo,Zl⟩,ZD,ZG⟩,⟨none,0,[]⟩⟩) 68)] (fun M' v Hout=>v=.tuple #[]∧∃ (t9:ZT) (a9:Int),Hout=[(bw,rowO (ZR.segs ⟨⟨t9,Zs,Zr,ZF,Zz,ZM,a9,Zv,Zu,Zn,Zy,Zm,Zw,⟨Zp,Zo,Zl⟩,ZD,ZG⟩,⟨none,0,[]⟩⟩) 68)]∧ZT.ok M' t9∧(t9.tb,a9)=VJ (ZT.tb ⟨⟨Za,Zc⟩,⟨Zf,Zh⟩,⟨Zj,Zi,Zg⟩,⟨Ze,Zd,Zb⟩⟩) ZB):=by
  refine XQ (fun H=>(bw,rowO (ZR.segs ⟨⟨⟨⟨Za,Zc⟩,⟨Zf,Zh⟩,⟨Zj,Zi,Zg⟩,⟨Ze,Zd,Zb⟩⟩,Zs,Zr,ZF,Zz,ZM,ZB,Zv,Zu,Zn,Zy,Zm,Zw,⟨Zp,Zo,Zl⟩,ZD,ZG⟩,⟨none,0,[]⟩⟩) 68)::H) (fun _=>by simp only [List.append_assoc,List.cons_append,List.nil_append]) Tryz.func81 rfl Tryz.ntmps81 rfl ?_;intro H
  refine ZJ (Zq (l:=[0,1,2,3]) rfl ?_);refine ZA ?_;refine ZU ?_;refine ZI F.lay3 ?_;refine YC ?_;refine Zx (Zt (Y_pk [7,0,1] ?_))
  refine YA rfl (fun hc1=>?_) (fun hc1=>?_)
  ·replace hc1:=nT hc1
   refine ZJ (YF (l:=[0,1,2,3,4,5,6,7,8,9,10,11,12,13]) #[0,0,2,6,14,30,0,64,192,510,1023,2047,4095,8191] _ rfl (by kernel_rfl) (by kernel_rfl) St.drawn (fun _ h=>h) ?_)
   iterate 2 refine ZA ?_
   refine ZU ?_;refine Zk F.foff68_0 ?_;refine Zk F.foff32_0 ?_;refine ZI F.lay28 ?_;refine ZA ?_;refine ZU ?_;refine ZI F.lay3 ?_;refine X_fn rfl rfl F.ok108 rfl (Forget_ok _ ⟨⟨Za,Zc⟩,⟨Zf,Zh⟩,⟨Zj,Zi,Zg⟩,⟨Ze,Zd,Zb⟩⟩ ZB Yk hbig) rfl ?_
   rintro _ M1 hm1 ⟨⟨⟨oa,oi⟩,⟨oq,oj⟩,⟨o1a,o1c,o1l⟩,⟨o2a,o2c,o2l⟩⟩,rfl,hot,okt⟩
   refine ZU ?_;refine Zk F.foff68_0 ?_;refine Zk F.foff32_0 ?_;refine Yi F.lay28 ?_;refine Zx (Zt (Y_pk [1] ?_));refine Zq (l:=[0,1,2]) rfl ?_;refine ZA ?_;refine ZU ?_;refine Yi F.lay3 ?_;refine Zx ?_
   refine Yj (.inl rfl) (.nil) (fun w hw=>?_)
   refine ⟨_,M1,[(bw,rowO (ZR.segs ⟨⟨⟨⟨oa,oi⟩,⟨oq,oj⟩,⟨o1a,o1c,o1l⟩,⟨o2a,o2c,o2l⟩⟩,Zs,Zr,ZF,Zz,ZM,(-1),Zv,Zu,Zn,Zy,Zm,Zw,⟨Zp,Zo,Zl⟩,ZD,ZG⟩,⟨none,0,[]⟩⟩) 68)],rfl,hm1,hw.c,rfl,⟨⟨oa,oi⟩,⟨oq,oj⟩,⟨o1a,o1c,o1l⟩,⟨o2a,o2c,o2l⟩⟩,-1,rfl,okt,?_⟩
   unfold VJ
   rw [if_pos (by omega),hot]
  ·replace hc1:=nF hc1
   refine Yz ?_
   refine Yj (.inl rfl) (.nil) (fun w hw=>?_)
   refine ⟨_,M,[(bw,rowO (ZR.segs ⟨⟨⟨⟨Za,Zc⟩,⟨Zf,Zh⟩,⟨Zj,Zi,Zg⟩,⟨Ze,Zd,Zb⟩⟩,Zs,Zr,ZF,Zz,ZM,ZB,Zv,Zu,Zn,Zy,Zm,Zw,⟨Zp,Zo,Zl⟩,ZD,ZG⟩,⟨none,0,[]⟩⟩) 68)],rfl,Mem.le.refl M,hw.c,rfl,⟨⟨Za,Zc⟩,⟨Zf,Zh⟩,⟨Zj,Zi,Zg⟩,⟨Ze,Zd,Zb⟩⟩,ZB,rfl,Yk,?_⟩
   unfold VJ
   rw [if_neg (by omega)]
theorem lostP_ok (M:Mem) (bw:Nat) (Za:Int) (Zc:Plc) (Zf:Int) (Zh:Plc) (Zj Ze Zp:Option Addr) (Zi Zd Zo:Nat) (Zg Zb:List ZE) (Zl:List Int) (Zs:Int) (Zr:Bool) (ZF Zz ZM ZB Zv Zu Zn Zy Zm:Int) (Zw:Plc) (ZD ZG:Int) (Yk:ZT.ok M ⟨⟨Za,Zc⟩,⟨Zf,Zh⟩,⟨Zj,Zi,Zg⟩,⟨Ze,Zd,Zb⟩⟩) (hbig:Zg.length≤40∧Zb.length≤200):Fh Tryz.prog 81 [.pointer (some ⟨bw,0,none⟩),.pointer (some ⟨bw,51,none⟩)] M [(bw,rowO (ZR.segs ⟨⟨⟨⟨Za,Zc⟩,⟨Zf,Zh⟩,⟨Zj,Zi,Zg⟩,⟨Ze,Zd,Zb⟩⟩,Zs,Zr,ZF,Zz,ZM,ZB,Zv,Zu,Zn,Zy,Zm,Zw,⟨Zp,Zo,Zl⟩,ZD,ZG⟩,⟨none,0,[]⟩⟩) 68)] (fun M' v Hout=>v=.tuple #[]∧∃ (t9:ZT) (a9:Int),Hout=[(bw,rowO (ZR.segs ⟨⟨t9,Zs,Zr,ZF,Zz,ZM,ZB,Zv,a9,Zn,Zy,Zm,Zw,⟨Zp,Zo,Zl⟩,ZD,ZG⟩,⟨none,0,[]⟩⟩) 68)]∧ZT.ok M' t9∧(t9.tb,a9)=VJ (ZT.tb ⟨⟨Za,Zc⟩,⟨Zf,Zh⟩,⟨Zj,Zi,Zg⟩,⟨Ze,Zd,Zb⟩⟩) Zu):=by
  refine XQ (fun H=>(bw,rowO (ZR.segs ⟨⟨⟨⟨Za,Zc⟩,⟨Zf,Zh⟩,⟨Zj,Zi,Zg⟩,⟨Ze,Zd,Zb⟩⟩,Zs,Zr,ZF,Zz,ZM,ZB,Zv,Zu,Zn,Zy,Zm,Zw,⟨Zp,Zo,Zl⟩,ZD,ZG⟩,⟨none,0,[]⟩⟩) 68)::H) (fun _=>by simp only [List.append_assoc,List.cons_append,List.nil_append]) Tryz.func81 rfl Tryz.ntmps81 rfl ?_;intro H
  refine ZJ (Zq (l:=[0,1,2,3]) rfl ?_);refine ZA ?_;refine ZU ?_;refine ZI F.lay3 ?_;refine YC ?_;refine Zx (Zt (Y_pk [7,0,1] ?_))
  refine YA rfl (fun hc1=>?_) (fun hc1=>?_)
  ·replace hc1:=nT hc1
   refine ZJ (YF (l:=[0,1,2,3,4,5,6,7,8,9,10,11,12,13]) #[0,0,2,6,14,30,0,64,192,510,1023,2047,4095,8191] _ rfl (by kernel_rfl) (by kernel_rfl) St.drawn (fun _ h=>h) ?_)
   iterate 2 refine ZA ?_
   refine ZU ?_;refine Zk F.foff68_0 ?_;refine Zk F.foff32_0 ?_;refine ZI F.lay28 ?_;refine ZA ?_;refine ZU ?_;refine ZI F.lay3 ?_;refine X_fn rfl rfl F.ok108 rfl (Forget_ok _ ⟨⟨Za,Zc⟩,⟨Zf,Zh⟩,⟨Zj,Zi,Zg⟩,⟨Ze,Zd,Zb⟩⟩ Zu Yk hbig) rfl ?_
   rintro _ M1 hm1 ⟨⟨⟨oa,oi⟩,⟨oq,oj⟩,⟨o1a,o1c,o1l⟩,⟨o2a,o2c,o2l⟩⟩,rfl,hot,okt⟩
   refine ZU ?_;refine Zk F.foff68_0 ?_;refine Zk F.foff32_0 ?_;refine Yi F.lay28 ?_;refine Zx (Zt (Y_pk [1] ?_));refine Zq (l:=[0,1,2]) rfl ?_;refine ZA ?_;refine ZU ?_;refine Yi F.lay3 ?_;refine Zx ?_
   refine Yj (.inl rfl) (.nil) (fun w hw=>?_)
   refine ⟨_,M1,[(bw,rowO (ZR.segs ⟨⟨⟨⟨oa,oi⟩,⟨oq,oj⟩,⟨o1a,o1c,o1l⟩,⟨o2a,o2c,o2l⟩⟩,Zs,Zr,ZF,Zz,ZM,ZB,Zv,(-1),Zn,Zy,Zm,Zw,⟨Zp,Zo,Zl⟩,ZD,ZG⟩,⟨none,0,[]⟩⟩) 68)],rfl,hm1,hw.c,rfl,⟨⟨oa,oi⟩,⟨oq,oj⟩,⟨o1a,o1c,o1l⟩,⟨o2a,o2c,o2l⟩⟩,-1,rfl,okt,?_⟩
   unfold VJ
   rw [if_pos (by omega),hot]
  ·replace hc1:=nF hc1
   refine Yz ?_
   refine Yj (.inl rfl) (.nil) (fun w hw=>?_)
   refine ⟨_,M,[(bw,rowO (ZR.segs ⟨⟨⟨⟨Za,Zc⟩,⟨Zf,Zh⟩,⟨Zj,Zi,Zg⟩,⟨Ze,Zd,Zb⟩⟩,Zs,Zr,ZF,Zz,ZM,ZB,Zv,Zu,Zn,Zy,Zm,Zw,⟨Zp,Zo,Zl⟩,ZD,ZG⟩,⟨none,0,[]⟩⟩) 68)],rfl,Mem.le.refl M,hw.c,rfl,⟨⟨Za,Zc⟩,⟨Zf,Zh⟩,⟨Zj,Zi,Zg⟩,⟨Ze,Zd,Zb⟩⟩,Zu,rfl,Yk,?_⟩
   unfold VJ
   rw [if_neg (by omega)]
theorem lostF_ok (M:Mem) (bw:Nat) (Za:Int) (Zc:Plc) (Zf:Int) (Zh:Plc) (Zj Ze Zp:Option Addr) (Zi Zd Zo:Nat) (Zg Zb:List ZE) (Zl:List Int) (Zs:Int) (Zr:Bool) (ZF Zz ZM ZB Zv Zu Zn Zy Zm:Int) (Zw:Plc) (ZD ZG:Int) (Yk:ZT.ok M ⟨⟨Za,Zc⟩,⟨Zf,Zh⟩,⟨Zj,Zi,Zg⟩,⟨Ze,Zd,Zb⟩⟩) (hbig:Zg.length≤40∧Zb.length≤200):Fh Tryz.prog 81 [.pointer (some ⟨bw,0,none⟩),.pointer (some ⟨bw,53,none⟩)] M [(bw,rowO (ZR.segs ⟨⟨⟨⟨Za,Zc⟩,⟨Zf,Zh⟩,⟨Zj,Zi,Zg⟩,⟨Ze,Zd,Zb⟩⟩,Zs,Zr,ZF,Zz,ZM,ZB,Zv,Zu,Zn,Zy,Zm,Zw,⟨Zp,Zo,Zl⟩,ZD,ZG⟩,⟨none,0,[]⟩⟩) 68)] (fun M' v Hout=>v=.tuple #[]∧∃ (t9:ZT) (a9:Int),Hout=[(bw,rowO (ZR.segs ⟨⟨t9,Zs,Zr,ZF,Zz,ZM,ZB,Zv,Zu,Zn,a9,Zm,Zw,⟨Zp,Zo,Zl⟩,ZD,ZG⟩,⟨none,0,[]⟩⟩) 68)]∧ZT.ok M' t9∧(t9.tb,a9)=VJ (ZT.tb ⟨⟨Za,Zc⟩,⟨Zf,Zh⟩,⟨Zj,Zi,Zg⟩,⟨Ze,Zd,Zb⟩⟩) Zy):=by
  refine XQ (fun H=>(bw,rowO (ZR.segs ⟨⟨⟨⟨Za,Zc⟩,⟨Zf,Zh⟩,⟨Zj,Zi,Zg⟩,⟨Ze,Zd,Zb⟩⟩,Zs,Zr,ZF,Zz,ZM,ZB,Zv,Zu,Zn,Zy,Zm,Zw,⟨Zp,Zo,Zl⟩,ZD,ZG⟩,⟨none,0,[]⟩⟩) 68)::H) (fun _=>by simp only [List.append_assoc,List.cons_append,List.nil_append]) Tryz.func81 rfl Tryz.ntmps81 rfl ?_;intro H
  refine ZJ (Zq (l:=[0,1,2,3]) rfl ?_);refine ZA ?_;refine ZU ?_;refine ZI F.lay3 ?_;refine YC ?_;refine Zx (Zt (Y_pk [7,0,1] ?_))
  refine YA rfl (fun hc1=>?_) (fun hc1=>?_)
  ·replace hc1:=nT hc1
   refine ZJ (YF (l:=[0,1,2,3,4,5,6,7,8,9,10,11,12,13]) #[0,0,2,6,14,30,0,64,192,510,1023,2047,4095,8191] _ rfl (by kernel_rfl) (by kernel_rfl) St.drawn (fun _ h=>h) ?_)
   iterate 2 refine ZA ?_
   refine ZU ?_;refine Zk F.foff68_0 ?_;refine Zk F.foff32_0 ?_;refine ZI F.lay28 ?_;refine ZA ?_;refine ZU ?_;refine ZI F.lay3 ?_;refine X_fn rfl rfl F.ok108 rfl (Forget_ok _ ⟨⟨Za,Zc⟩,⟨Zf,Zh⟩,⟨Zj,Zi,Zg⟩,⟨Ze,Zd,Zb⟩⟩ Zy Yk hbig) rfl ?_
   rintro _ M1 hm1 ⟨⟨⟨oa,oi⟩,⟨oq,oj⟩,⟨o1a,o1c,o1l⟩,⟨o2a,o2c,o2l⟩⟩,rfl,hot,okt⟩
   refine ZU ?_;refine Zk F.foff68_0 ?_;refine Zk F.foff32_0 ?_;refine Yi F.lay28 ?_;refine Zx (Zt (Y_pk [1] ?_));refine Zq (l:=[0,1,2]) rfl ?_;refine ZA ?_;refine ZU ?_;refine Yi F.lay3 ?_;refine Zx ?_
   refine Yj (.inl rfl) (.nil) (fun w hw=>?_)
   refine ⟨_,M1,[(bw,rowO (ZR.segs ⟨⟨⟨⟨oa,oi⟩,⟨oq,oj⟩,⟨o1a,o1c,o1l⟩,⟨o2a,o2c,o2l⟩⟩,Zs,Zr,ZF,Zz,ZM,ZB,Zv,Zu,Zn,(-1),Zm,Zw,⟨Zp,Zo,Zl⟩,ZD,ZG⟩,⟨none,0,[]⟩⟩) 68)],rfl,hm1,hw.c,rfl,⟨⟨oa,oi⟩,⟨oq,oj⟩,⟨o1a,o1c,o1l⟩,⟨o2a,o2c,o2l⟩⟩,-1,rfl,okt,?_⟩
   unfold VJ
   rw [if_pos (by omega),hot]
  ·replace hc1:=nF hc1
   refine Yz ?_
   refine Yj (.inl rfl) (.nil) (fun w hw=>?_)
   refine ⟨_,M,[(bw,rowO (ZR.segs ⟨⟨⟨⟨Za,Zc⟩,⟨Zf,Zh⟩,⟨Zj,Zi,Zg⟩,⟨Ze,Zd,Zb⟩⟩,Zs,Zr,ZF,Zz,ZM,ZB,Zv,Zu,Zn,Zy,Zm,Zw,⟨Zp,Zo,Zl⟩,ZD,ZG⟩,⟨none,0,[]⟩⟩) 68)],rfl,Mem.le.refl M,hw.c,rfl,⟨⟨Za,Zc⟩,⟨Zf,Zh⟩,⟨Zj,Zi,Zg⟩,⟨Ze,Zd,Zb⟩⟩,Zy,rfl,Yk,?_⟩
   unfold VJ
   rw [if_neg (by omega)]
end Go.Proofs.YtajmnjefajknoaaGreat
namespace Go.Proofs.YtajmnjefajknoaaGreat
open Go.Esp
theorem F.ok124:okFn Tryz.prog 124=true:=by kernel_rfl
theorem F.ok125:okFn Tryz.prog 125=true:=by kernel_rfl
theorem adopt_ok (M:Mem) (bw:Nat) (Za:Int) (Zc:Plc) (Zf:Int) (Zh:Plc) (Zj Ze Zp:Option Addr) (Zi Zd Zo:Nat) (Zg Zb:List ZE) (Zl:List Int) (Zs:Int) (Zr:Bool) (ZF Zz ZM ZB Zv Zu Zn Zy Zm:Int) (Zw:Plc) (ZD ZG:Int) (Yk:ZT.ok M ⟨⟨Za,Zc⟩,⟨Zf,Zh⟩,⟨Zj,Zi,Zg⟩,⟨Ze,Zd,Zb⟩⟩) (p:ZE) (q:Sl ZE) (k_q:SlK M ZE.segs 21 q):Fh Tryz.prog 82 [.pointer (some ⟨bw,0,none⟩),p.enc,q.val] M [(bw,rowO (ZR.segs ⟨⟨⟨⟨Za,Zc⟩,⟨Zf,Zh⟩,⟨Zj,Zi,Zg⟩,⟨Ze,Zd,Zb⟩⟩,Zs,Zr,ZF,Zz,ZM,ZB,Zv,Zu,Zn,Zy,Zm,Zw,⟨Zp,Zo,Zl⟩,ZD,ZG⟩,⟨none,0,[]⟩⟩) 68)] (fun M' v Hout=>v=.tuple #[]∧∃ (t9:ZT),Hout=[(bw,rowO (ZR.segs ⟨⟨t9,Zs,Zr,ZF,Zz,ZM,ZB,Zv,Zu,Zn,Zy,Zm,Zw,⟨Zp,Zo,Zl⟩,ZD,ZG⟩,⟨none,0,[]⟩⟩) 68)]∧ZT.ok M' t9∧ZP.nd ⟨t9,Zs,Zr,ZF,Zz,ZM,ZB,Zv,Zu,Zn,Zy,Zm,Zw,⟨Zp,Zo,Zl⟩,ZD,ZG⟩=WG (ZP.nd ⟨⟨⟨Za,Zc⟩,⟨Zf,Zh⟩,⟨Zj,Zi,Zg⟩,⟨Ze,Zd,Zb⟩⟩,Zs,Zr,ZF,Zz,ZM,ZB,Zv,Zu,Zn,Zy,Zm,Zw,⟨Zp,Zo,Zl⟩,ZD,ZG⟩) p q.l):=by
  obtain ⟨YU,p_id⟩:=p
  obtain ⟨q_a,q_c,q_l⟩:=q
  refine XQ (fun H=>(bw,rowO (ZR.segs ⟨⟨⟨⟨Za,Zc⟩,⟨Zf,Zh⟩,⟨Zj,Zi,Zg⟩,⟨Ze,Zd,Zb⟩⟩,Zs,Zr,ZF,Zz,ZM,ZB,Zv,Zu,Zn,Zy,Zm,Zw,⟨Zp,Zo,Zl⟩,ZD,ZG⟩,⟨none,0,[]⟩⟩) 68)::H) (fun _=>by simp only [List.append_assoc,List.cons_append,List.nil_append]) Tryz.func82 rfl Tryz.ntmps82 rfl ?_;intro H
  refine ZJ (Zq (l:=[0]) rfl ?_)
  refine Xk ?_;intro b1
  refine Zx (Zt (Y_pk [4,0,2] ?_));refine ZJ (YF (l:=[0,1,2,3,4,5,6,7,8,9,10,11,12,13,14,15,16,17,18]) #[0,1,3,7,15,0,0,0,128,384,896,1920,4095,8191,16383,16383,0,98303,262143] _ rfl (by kernel_rfl) (by kernel_rfl) St.drawn (fun _ h=>h) ?_);refine ZA ?_;refine ZU ?_;refine Zk F.foff68_0 ?_;refine Zk F.foff32_0 ?_;refine ZI F.lay28 ?_;refine ZI F.lay25 ?_
  iterate 2 refine ZA ?_
  refine ZU ?_;refine Zk F.foff68_0 ?_;refine Zk F.foff32_1 ?_;refine ZI F.lay3 ?_;refine X_fn rfl rfl F.ok124 rfl (Adopt_ok _ ⟨⟨Za,Zc⟩,⟨Zf,Zh⟩,⟨Zj,Zi,Zg⟩,⟨Ze,Zd,Zb⟩⟩ ⟨YU,p_id⟩ ⟨q_a,q_c,q_l⟩ Zs Yk k_q) rfl ?_
  rintro _ M1 hm1 hv
  replace hv:TabE _ _ (VI (ZT.tb ⟨⟨Za,Zc⟩,⟨Zf,Zh⟩,⟨Zj,Zi,Zg⟩,⟨Ze,Zd,Zb⟩⟩) ⟨YU,p_id⟩ q_l Zs):=hv
  obtain ⟨⟨A1,A2⟩,hA⟩:∃ x,VI (ZT.tb ⟨⟨Za,Zc⟩,⟨Zf,Zh⟩,⟨Zj,Zi,Zg⟩,⟨Ze,Zd,Zb⟩⟩) ⟨YU,p_id⟩ q_l Zs=x:=⟨_,rfl⟩
  rw [hA] at hv
  obtain ⟨_,rfl,⟨⟨oa,oi⟩,⟨oq,oj⟩,⟨o1a,o1c,o1l⟩,⟨o2a,o2c,o2l⟩⟩,rfl,hot,oko⟩:=hv
  simp only at hot
  refine ZA ?_
  iterate 2 refine XF ?_
  refine YW F.zero28 ?_;intro b2
  refine Yi F.lay28 ?_;refine ZC ?_;refine Zx (Zt (Y_pk [7,6,0] ?_));refine ZJ (Zq (l:=[0,1]) rfl ?_);refine ZA ?_;refine YC ?_;refine Zx (Zt (Y_pk [25,6,0] ?_))
  refine YA rfl (fun hc3=>?_) (fun hc3=>?_)
  ·replace hc3:=dT hc3
   simp only [ZE.eta,ZT.eta,ZP.eta,ZQ.eta,Yw.eta,ZR.eta,YM.eta,ZY.eta] at hc3
   refine Zq (l:=[0,1,2,3,4,5]) rfl ?_;refine ZA ?_;refine ZI F.lay28 ?_;refine ZU ?_;refine Zk F.foff68_0 ?_;refine Zk F.foff32_0 ?_;refine Yi F.lay28 ?_;refine Zx ?_
   refine Yj (.inl rfl) (.nil) (fun w hw=>?_)
   refine ⟨_,M1,[(bw,rowO (ZR.segs ⟨⟨⟨⟨oa,oi⟩,⟨oq,oj⟩,⟨o1a,o1c,o1l⟩,⟨o2a,o2c,o2l⟩⟩,Zs,Zr,ZF,Zz,ZM,ZB,Zv,Zu,Zn,Zy,Zm,Zw,⟨Zp,Zo,Zl⟩,ZD,ZG⟩,⟨none,0,[]⟩⟩) 68)],rfl,hm1,hw.c,rfl,⟨⟨oa,oi⟩,⟨oq,oj⟩,⟨o1a,o1c,o1l⟩,⟨o2a,o2c,o2l⟩⟩,rfl,oko,?_⟩
   show _=WG (ZP.nd ⟨⟨⟨Za,Zc⟩,⟨Zf,Zh⟩,⟨Zj,Zi,Zg⟩,⟨Ze,Zd,Zb⟩⟩,Zs,Zr,ZF,Zz,ZM,ZB,Zv,Zu,Zn,Zy,Zm,Zw,⟨Zp,Zo,Zl⟩,ZD,ZG⟩) ⟨YU,p_id⟩ q_l
   unfold WG
   rw [show VI (ZP.nd ⟨⟨⟨Za,Zc⟩,⟨Zf,Zh⟩,⟨Zj,Zi,Zg⟩,⟨Ze,Zd,Zb⟩⟩,Zs,Zr,ZF,Zz,ZM,ZB,Zv,Zu,Zn,Zy,Zm,Zw,⟨Zp,Zo,Zl⟩,ZD,ZG⟩).table ⟨YU,p_id⟩ q_l (ZP.nd ⟨⟨⟨Za,Zc⟩,⟨Zf,Zh⟩,⟨Zj,Zi,Zg⟩,⟨Ze,Zd,Zb⟩⟩,Zs,Zr,ZF,Zz,ZM,ZB,Zv,Zu,Zn,Zy,Zm,Zw,⟨Zp,Zo,Zl⟩,ZD,ZG⟩).copies=_ from hA]
   rw [if_pos (by show A2=0;omega),← hot];rfl
  ·replace hc3:=dF hc3
   simp only [ZE.eta,ZT.eta,ZP.eta,ZQ.eta,Yw.eta,ZR.eta,YM.eta,ZY.eta] at hc3
   refine Yz ?_
   refine Yj (.inl rfl) (.nil) (fun w hw=>?_)
   refine ⟨_,M1,[(bw,rowO (ZR.segs ⟨⟨⟨⟨Za,Zc⟩,⟨Zf,Zh⟩,⟨Zj,Zi,Zg⟩,⟨Ze,Zd,Zb⟩⟩,Zs,Zr,ZF,Zz,ZM,ZB,Zv,Zu,Zn,Zy,Zm,Zw,⟨Zp,Zo,Zl⟩,ZD,ZG⟩,⟨none,0,[]⟩⟩) 68)],rfl,hm1,hw.c,rfl,⟨⟨Za,Zc⟩,⟨Zf,Zh⟩,⟨Zj,Zi,Zg⟩,⟨Ze,Zd,Zb⟩⟩,rfl,Yk.mono hm1,?_⟩
   show _=WG (ZP.nd ⟨⟨⟨Za,Zc⟩,⟨Zf,Zh⟩,⟨Zj,Zi,Zg⟩,⟨Ze,Zd,Zb⟩⟩,Zs,Zr,ZF,Zz,ZM,ZB,Zv,Zu,Zn,Zy,Zm,Zw,⟨Zp,Zo,Zl⟩,ZD,ZG⟩) ⟨YU,p_id⟩ q_l
   unfold WG
   rw [show VI (ZP.nd ⟨⟨⟨Za,Zc⟩,⟨Zf,Zh⟩,⟨Zj,Zi,Zg⟩,⟨Ze,Zd,Zb⟩⟩,Zs,Zr,ZF,Zz,ZM,ZB,Zv,Zu,Zn,Zy,Zm,Zw,⟨Zp,Zo,Zl⟩,ZD,ZG⟩).table ⟨YU,p_id⟩ q_l (ZP.nd ⟨⟨⟨Za,Zc⟩,⟨Zf,Zh⟩,⟨Zj,Zi,Zg⟩,⟨Ze,Zd,Zb⟩⟩,Zs,Zr,ZF,Zz,ZM,ZB,Zv,Zu,Zn,Zy,Zm,Zw,⟨Zp,Zo,Zl⟩,ZD,ZG⟩).copies=_ from hA]
   rw [if_neg (by show ¬A2=0;omega)]
theorem point_ok (M:Mem) (bw:Nat) (Za:Int) (Zc:Plc) (Zf:Int) (Zh:Plc) (Zj Ze Zp:Option Addr) (Zi Zd Zo:Nat) (Zg Zb:List ZE) (Zl:List Int) (Zs:Int) (Zr:Bool) (ZF Zz ZM ZB Zv Zu Zn Zy Zm:Int) (Zw:Plc) (ZD ZG:Int) (Yk:ZT.ok M ⟨⟨Za,Zc⟩,⟨Zf,Zh⟩,⟨Zj,Zi,Zg⟩,⟨Ze,Zd,Zb⟩⟩) (p:ZE):Fh Tryz.prog 87 [.pointer (some ⟨bw,0,none⟩),p.enc] M [(bw,rowO (ZR.segs ⟨⟨⟨⟨Za,Zc⟩,⟨Zf,Zh⟩,⟨Zj,Zi,Zg⟩,⟨Ze,Zd,Zb⟩⟩,Zs,Zr,ZF,Zz,ZM,ZB,Zv,Zu,Zn,Zy,Zm,Zw,⟨Zp,Zo,Zl⟩,ZD,ZG⟩,⟨none,0,[]⟩⟩) 68)] (fun M' v Hout=>v=.tuple #[]∧∃ (t9:ZT) (c9:Int),Hout=[(bw,rowO (ZR.segs ⟨⟨t9,Zs,Zr,ZF,c9,ZM,ZB,Zv,Zu,Zn,Zy,Zm,Zw,⟨Zp,Zo,Zl⟩,ZD,ZG⟩,⟨none,0,[]⟩⟩) 68)]∧ZT.ok M' t9∧ZP.nd ⟨t9,Zs,Zr,ZF,c9,ZM,ZB,Zv,Zu,Zn,Zy,Zm,Zw,⟨Zp,Zo,Zl⟩,ZD,ZG⟩=VY (ZP.nd ⟨⟨⟨Za,Zc⟩,⟨Zf,Zh⟩,⟨Zj,Zi,Zg⟩,⟨Ze,Zd,Zb⟩⟩,Zs,Zr,ZF,Zz,ZM,ZB,Zv,Zu,Zn,Zy,Zm,Zw,⟨Zp,Zo,Zl⟩,ZD,ZG⟩) p):=by
  obtain ⟨YU,p_id⟩:=p
  refine XQ (fun H=>(bw,rowO (ZR.segs ⟨⟨⟨⟨Za,Zc⟩,⟨Zf,Zh⟩,⟨Zj,Zi,Zg⟩,⟨Ze,Zd,Zb⟩⟩,Zs,Zr,ZF,Zz,ZM,ZB,Zv,Zu,Zn,Zy,Zm,Zw,⟨Zp,Zo,Zl⟩,ZD,ZG⟩,⟨none,0,[]⟩⟩) 68)::H) (fun _=>by simp only [List.append_assoc,List.cons_append,List.nil_append]) Tryz.func87 rfl Tryz.ntmps87 rfl ?_;intro H
  refine ZJ (Zq (l:=[0]) rfl ?_)
  refine Xk ?_;intro b1
  refine Zx (Zt (Y_pk [3,0] ?_));refine ZJ (YF (l:=[0,1,2,3,4,5,6,7,8,9,10,11,12,13,14,15,16,17,18,19]) #[0,1,3,7,15,0,32,96,224,480,0,2047,4095,8191,8191,8191,0,81919,229375,524287] _ rfl (by kernel_rfl) (by kernel_rfl) St.drawn (fun _ h=>h) ?_);refine ZA ?_;refine ZU ?_;refine Zk F.foff68_0 ?_;refine Zk F.foff32_0 ?_;refine ZI F.lay28 ?_;refine ZA ?_;refine ZU ?_;refine Zk F.foff68_0 ?_;refine Zk F.foff32_4 ?_;refine ZI F.lay3 ?_;refine ZI F.lay25 ?_;refine X_fn rfl rfl F.ok125 rfl (Point_ok _ ⟨⟨Za,Zc⟩,⟨Zf,Zh⟩,⟨Zj,Zi,Zg⟩,⟨Ze,Zd,Zb⟩⟩ Zz ⟨YU,p_id⟩ Yk) rfl ?_
  rintro _ M1 hm1 hv
  replace hv:TabPE _ _ (Vb (ZT.tb ⟨⟨Za,Zc⟩,⟨Zf,Zh⟩,⟨Zj,Zi,Zg⟩,⟨Ze,Zd,Zb⟩⟩) Zz ⟨YU,p_id⟩):=hv
  obtain ⟨⟨A1,A2,A3⟩,hA⟩:∃ x,Vb (ZT.tb ⟨⟨Za,Zc⟩,⟨Zf,Zh⟩,⟨Zj,Zi,Zg⟩,⟨Ze,Zd,Zb⟩⟩) Zz ⟨YU,p_id⟩=x:=⟨_,rfl⟩
  rw [hA] at hv
  obtain ⟨_,rfl,⟨⟨oa,oi⟩,⟨oq,oj⟩,⟨o1a,o1c,o1l⟩,⟨o2a,o2c,o2l⟩⟩,rfl,hot,oko⟩:=hv
  simp only at hot
  refine ZA ?_
  iterate 3 refine XF ?_
  refine YW F.zero28 ?_;intro b2
  refine Yi F.lay28 ?_
  iterate 2 refine ZC ?_
  refine Zx (Zt (Y_pk [6,5,4,0] ?_));refine ZJ (Zq (l:=[0,1]) rfl ?_);refine ZA ?_;refine YC ?_;refine Zx (Zt (Y_pk [24,5,4,0] ?_))
  refine YA rfl (fun hc3=>?_) (fun hc3=>?_)
  ·replace hc3:=dT hc3
   simp only [ZE.eta,ZT.eta,ZP.eta,ZQ.eta,Yw.eta,ZR.eta,YM.eta,ZY.eta] at hc3
   refine Zq (l:=[0,1,2,3,4,5,6,7,8,9,10,11]) rfl ?_
   iterate 2 refine ZA ?_
   refine ZI F.lay28 ?_;refine ZA ?_;refine ZU ?_;refine Zk F.foff68_0 ?_;refine Zk F.foff32_0 ?_;refine Yi F.lay28 ?_;refine ZU ?_;refine Zk F.foff68_0 ?_;refine Zk F.foff32_4 ?_;refine Yi F.lay3 ?_;refine Zx ?_
   refine Yj (.inl rfl) (.nil) (fun w hw=>?_)
   refine ⟨_,M1,[(bw,rowO (ZR.segs ⟨⟨⟨⟨oa,oi⟩,⟨oq,oj⟩,⟨o1a,o1c,o1l⟩,⟨o2a,o2c,o2l⟩⟩,Zs,Zr,ZF,A2,ZM,ZB,Zv,Zu,Zn,Zy,Zm,Zw,⟨Zp,Zo,Zl⟩,ZD,ZG⟩,⟨none,0,[]⟩⟩) 68)],rfl,hm1,hw.c,rfl,⟨⟨oa,oi⟩,⟨oq,oj⟩,⟨o1a,o1c,o1l⟩,⟨o2a,o2c,o2l⟩⟩,A2,rfl,oko,?_⟩
   show _=VY (ZP.nd ⟨⟨⟨Za,Zc⟩,⟨Zf,Zh⟩,⟨Zj,Zi,Zg⟩,⟨Ze,Zd,Zb⟩⟩,Zs,Zr,ZF,Zz,ZM,ZB,Zv,Zu,Zn,Zy,Zm,Zw,⟨Zp,Zo,Zl⟩,ZD,ZG⟩) ⟨YU,p_id⟩
   unfold VY
   rw [show Vb (ZP.nd ⟨⟨⟨Za,Zc⟩,⟨Zf,Zh⟩,⟨Zj,Zi,Zg⟩,⟨Ze,Zd,Zb⟩⟩,Zs,Zr,ZF,Zz,ZM,ZB,Zv,Zu,Zn,Zy,Zm,Zw,⟨Zp,Zo,Zl⟩,ZD,ZG⟩).table (ZP.nd ⟨⟨⟨Za,Zc⟩,⟨Zf,Zh⟩,⟨Zj,Zi,Zg⟩,⟨Ze,Zd,Zb⟩⟩,Zs,Zr,ZF,Zz,ZM,ZB,Zv,Zu,Zn,Zy,Zm,Zw,⟨Zp,Zo,Zl⟩,ZD,ZG⟩).cursor ⟨YU,p_id⟩=_ from hA]
   rw [if_pos (by show A3=0;omega),← hot];rfl
  ·replace hc3:=dF hc3
   simp only [ZE.eta,ZT.eta,ZP.eta,ZQ.eta,Yw.eta,ZR.eta,YM.eta,ZY.eta] at hc3
   refine Yz ?_
   refine Yj (.inl rfl) (.nil) (fun w hw=>?_)
   refine ⟨_,M1,[(bw,rowO (ZR.segs ⟨⟨⟨⟨Za,Zc⟩,⟨Zf,Zh⟩,⟨Zj,Zi,Zg⟩,⟨Ze,Zd,Zb⟩⟩,Zs,Zr,ZF,Zz,ZM,ZB,Zv,Zu,Zn,Zy,Zm,Zw,⟨Zp,Zo,Zl⟩,ZD,ZG⟩,⟨none,0,[]⟩⟩) 68)],rfl,hm1,hw.c,rfl,⟨⟨Za,Zc⟩,⟨Zf,Zh⟩,⟨Zj,Zi,Zg⟩,⟨Ze,Zd,Zb⟩⟩,Zz,rfl,Yk.mono hm1,?_⟩
   show _=VY (ZP.nd ⟨⟨⟨Za,Zc⟩,⟨Zf,Zh⟩,⟨Zj,Zi,Zg⟩,⟨Ze,Zd,Zb⟩⟩,Zs,Zr,ZF,Zz,ZM,ZB,Zv,Zu,Zn,Zy,Zm,Zw,⟨Zp,Zo,Zl⟩,ZD,ZG⟩) ⟨YU,p_id⟩
   unfold VY
   rw [show Vb (ZP.nd ⟨⟨⟨Za,Zc⟩,⟨Zf,Zh⟩,⟨Zj,Zi,Zg⟩,⟨Ze,Zd,Zb⟩⟩,Zs,Zr,ZF,Zz,ZM,ZB,Zv,Zu,Zn,Zy,Zm,Zw,⟨Zp,Zo,Zl⟩,ZD,ZG⟩).table (ZP.nd ⟨⟨⟨Za,Zc⟩,⟨Zf,Zh⟩,⟨Zj,Zi,Zg⟩,⟨Ze,Zd,Zb⟩⟩,Zs,Zr,ZF,Zz,ZM,ZB,Zv,Zu,Zn,Zy,Zm,Zw,⟨Zp,Zo,Zl⟩,ZD,ZG⟩).cursor ⟨YU,p_id⟩=_ from hA]
   rw [if_neg (by show ¬A3=0;omega)]
theorem wother_ok (M:Mem) (bw:Nat) (Za:Int) (Zc:Plc) (Zf:Int) (Zh:Plc) (Zj Ze Zp:Option Addr) (Zi Zd Zo:Nat) (Zg Zb:List ZE) (Zl:List Int) (Zs:Int) (Zr:Bool) (ZF Zz ZM ZB Zv Zu Zn Zy Zm:Int) (Zw:Plc) (ZD ZG:Int) (p:ZE):Fo Tryz.prog 53 [.pointer (some ⟨bw,0,none⟩),p.enc] M [(bw,rowO (ZR.segs ⟨⟨⟨⟨Za,Zc⟩,⟨Zf,Zh⟩,⟨Zj,Zi,Zg⟩,⟨Ze,Zd,Zb⟩⟩,Zs,Zr,ZF,Zz,ZM,ZB,Zv,Zu,Zn,Zy,Zm,Zw,⟨Zp,Zo,Zl⟩,ZD,ZG⟩,⟨none,0,[]⟩⟩) 68)] (fun M' v=>M'=M∧v=.bool (decide (Xr ⟨Za,Zc⟩ p))):=by
  obtain ⟨YU,p_id⟩:=p
  refine Vd Tryz.func53 rfl Tryz.ntmps53 rfl ?_;intro H
  refine ZJ (Zq (l:=[0,1]) rfl ?_)
  refine Xk ?_;intro b1
  refine ZC ?_;refine Zx (Zt (Y_pk [4,3,0] ?_));refine ZJ (Zq (l:=[0,1,2,3,4,5,6,7]) rfl ?_);refine ZA ?_;refine ZU ?_;refine Zk F.foff68_0 ?_;refine Zk F.foff32_0 ?_;refine Zk F.foff28_0 ?_;refine ZI F.lay25 ?_
  refine YW F.zero25 ?_;intro b2
  refine Yi F.lay25 ?_;refine Zx (Zt (Y_pk [5,4,3] ?_));refine ZJ (Zq (l:=[0,1,2,3,4,5,6,7,8,9,10,11,12,13,14,15,16,17,18,19,20,21,22]) rfl ?_);refine Zk F.foff25_0 ?_;refine ZI F.lay3 ?_;refine YC ?_;refine ZA ?_
  refine Yp 15 rfl (fun hc3=>?_) (fun hc3=>?_)
  ·replace hc3:=dT hc3
   refine Zk F.foff25_0 ?_;refine ZI F.lay3 ?_;refine YC ?_;refine ZS ?_;refine ZA ?_
   refine Yp 20 rfl (fun hc4=>?_) (fun hc4=>?_)
   ·replace hc4:=dT hc4
    refine Zk F.foff25_0 ?_;refine ZI F.lay3 ?_;refine Zk F.foff25_0 ?_;refine ZI F.lay3 ?_;refine YC ?_;refine ZS ?_;refine ZA ?_
    refine Yp 27 rfl (fun hc5=>?_) (fun hc5=>?_)
    ·replace hc5:=nT hc5
     refine Zk F.foff25_1 ?_;refine ZI F.lay23 ?_;refine Zk F.foff25_1 ?_;refine ZI F.lay23 ?_
     refine WW (m:=20) rfl rfl rfl rfl rfl (by constructor) (by constructor) F.lay23 F.kinds23 rfl F.guard23 (VH Vl) (VH Vl) rfl rfl rfl ?_;intro c6 he7
     replace he7:c6=true↔¬(Segs.cells _=Segs.cells _):=he7
     obtain rfl:=neD he7 (cells_id1 (x:=_) (y:=_));clear he7
     refine ZS ?_;refine ZC ?_;refine Zx (Zt (Y_pk [4] ?_));refine Yu ?_
     refine Yj (.inr rfl) (.tmp rfl .nil) (fun w hw=>?_)
     refine ⟨_,M,rfl,Mem.le.refl M,hw.c,rfl,?_⟩
     clear hw
     refine congrArg Value.bool ?_
     (simp_all [Xr,YQ];done)
    ·replace hc5:=nF hc5
     iterate 5 refine Yh ?_
     refine ZS ?_;refine ZC ?_;refine Zx (Zt (Y_pk [4] ?_));refine Yu ?_
     refine Yj (.inr rfl) (.tmp rfl .nil) (fun w hw=>?_)
     refine ⟨_,M,rfl,Mem.le.refl M,hw.c,rfl,?_⟩
     clear hw
     refine congrArg Value.bool ?_
     exact (decide_eq_false (fun h9=>by obtain ⟨⟨h1,h2⟩,h3,h4⟩:=h9;simp only at h1 h2 h3 h4;first|omega|contradiction)).symm
   ·replace hc4:=dF hc4
    iterate 5 refine Yh ?_
    refine ZS ?_;refine ZA ?_
    iterate 5 refine Yh ?_
    refine ZS ?_;refine ZC ?_;refine Zx (Zt (Y_pk [4] ?_));refine Yu ?_
    refine Yj (.inr rfl) (.tmp rfl .nil) (fun w hw=>?_)
    refine ⟨_,M,rfl,Mem.le.refl M,hw.c,rfl,?_⟩
    clear hw
    refine congrArg Value.bool ?_
    exact (decide_eq_false (fun h9=>by obtain ⟨⟨h1,h2⟩,h3,h4⟩:=h9;simp only at h1 h2 h3 h4;first|omega|contradiction)).symm
  ·replace hc3:=dF hc3
   iterate 3 refine Yh ?_
   refine ZS ?_;refine ZA ?_
   iterate 5 refine Yh ?_
   refine ZS ?_;refine ZA ?_
   iterate 5 refine Yh ?_
   refine ZS ?_;refine ZC ?_;refine Zx (Zt (Y_pk [4] ?_));refine Yu ?_
   refine Yj (.inr rfl) (.tmp rfl .nil) (fun w hw=>?_)
   refine ⟨_,M,rfl,Mem.le.refl M,hw.c,rfl,?_⟩
   clear hw
   refine congrArg Value.bool ?_
   exact (decide_eq_false (fun h9=>by obtain ⟨⟨h1,h2⟩,h3,h4⟩:=h9;simp only at h1 h2 h3 h4;first|omega|contradiction)).symm
end Go.Proofs.YtajmnjefajknoaaGreat
namespace Go.Proofs.YtajmnjefajknoaaGreat
open Go.Esp
theorem F.ok80:okFn Tryz.prog 80=true:=by kernel_rfl
theorem F.ok81:okFn Tryz.prog 81=true:=by kernel_rfl
theorem F.ok82:okFn Tryz.prog 82=true:=by kernel_rfl
theorem F.ok84:okFn Tryz.prog 84=true:=by kernel_rfl
theorem F.ok89:okFn Tryz.prog 89=true:=by kernel_rfl
theorem join_ok (M:Mem) (bw:Nat) (Za:Int) (Zc:Plc) (Zf:Int) (Zh:Plc) (Zj Ze Zp:Option Addr) (Zi Zd Zo:Nat) (Zg Zb:List ZE) (Zl:List Int) (Zs:Int) (Zr:Bool) (ZF Zz ZM ZB Zv Zu Zn Zy Zm:Int) (Zw:Plc) (ZD ZG:Int) (Yk:ZT.ok M ⟨⟨Za,Zc⟩,⟨Zf,Zh⟩,⟨Zj,Zi,Zg⟩,⟨Ze,Zd,Zb⟩⟩) (hav:Hp) (hA:OSl 3 1 (.slice Zp Zl.length Zo) hav (Zl.map (oneI .i64))) (hLa:Zl.length≤900) (hj:Zr=false):Fh Tryz.prog 80 [.pointer (some ⟨bw,0,none⟩)] M ((bw,rowO (ZR.segs ⟨⟨⟨⟨Za,Zc⟩,⟨Zf,Zh⟩,⟨Zj,Zi,Zg⟩,⟨Ze,Zd,Zb⟩⟩,Zs,Zr,ZF,Zz,ZM,ZB,Zv,Zu,Zn,Zy,Zm,Zw,⟨Zp,Zo,Zl⟩,ZD,ZG⟩,⟨none,0,[]⟩⟩) 68)::hav) (fun M' v Hout=>v=.tuple #[]∧WkF bw 68 M' Hout (stabN (ZP.nd ⟨⟨⟨Za,Zc⟩,⟨Zf,Zh⟩,⟨Zj,Zi,Zg⟩,⟨Ze,Zd,Zb⟩⟩,Zs,Zr,ZF,Zz,ZM,ZB,Zv,Zu,Zn,Zy,Zm,Zw,⟨Zp,Zo,Zl⟩,ZD,ZG⟩))):=by
  refine XQ (fun H=>(bw,rowO (ZR.segs ⟨⟨⟨⟨Za,Zc⟩,⟨Zf,Zh⟩,⟨Zj,Zi,Zg⟩,⟨Ze,Zd,Zb⟩⟩,Zs,Zr,ZF,Zz,ZM,ZB,Zv,Zu,Zn,Zy,Zm,Zw,⟨Zp,Zo,Zl⟩,ZD,ZG⟩,⟨none,0,[]⟩⟩) 68)::(hav++H)) (fun _=>by simp only [List.append_assoc,List.cons_append,List.nil_append]) Tryz.func80 rfl Tryz.ntmps80 rfl ?_;intro H
  iterate 2 refine ZJ ?_
  refine YF (l:=[0,1,2,3,4,5,6,7,8,9,10,11,12,13,14,15,16,17,18]) #[0,1,3,7,15,31,63,127,255,511,1023,2047,127,4223,12415,28799,61567,131071,262143] _ rfl (by kernel_rfl) (by kernel_rfl) St.drawn (fun _ h=>h) ?_;refine ZA ?_;refine ZU ?_;refine Zk F.foff68_0 ?_;refine Zk F.foff32_10 ?_;refine ZI F.lay3 ?_;refine YC ?_;refine ZA ?_
  refine Yp 8 rfl (fun hc1=>?_) (fun hc1=>?_)
  ·replace hc1:=nT hc1
   refine ZA ?_;refine ZU ?_;refine Zk F.foff68_0 ?_;refine Zk F.foff32_10 ?_;refine ZI F.lay3 ?_;refine ZA ?_;refine ZU ?_;refine Zk F.foff68_0 ?_;refine Zk F.foff32_3 ?_;refine ZI F.lay3 ?_;refine YC ?_;refine ZS ?_;refine Zx (Zt (Y_pk [20,0] ?_))
   refine YA rfl (fun hc2=>?_) (fun hc2=>?_)
   ·replace hc2:=nT hc2
    refine Xn (l:=[0,1,2,3,4,5,6]) [6] rfl ?_
    iterate 2 refine ZA ?_
    refine ZU ?_;refine Zk F.foff68_0 ?_;refine Zk F.foff32_10 ?_;refine ZI F.lay3 ?_;refine WA rfl rfl rfl F.ok84 rfl (shun_ok M bw _ _ _ _ _ _ _ _ _ _ _ _ _ _ _ _ _ _ _ _ _ _ _ _ _ _ _ hav hA (by omega) Zy) (by repeat first|exact Rem.here _|exact Rem.two|apply Rem.skip|apply Rem.over) (Yv rfl) ?_
    rintro _ M1 hs1 hm1 ⟨hM1,rfl,⟨s_a,s_c,s_l⟩,hs9,rfl,ho9,hl9⟩
    subst M1
    simp only [Sl.val] at ho9
    simp only at hl9
    have hLs:s_l.length≤901:=shun_len hl9 hLa
    simp only [List.append_assoc,List.cons_append,List.nil_append]
    refine Zx (Wl ?_);refine Zt (Y_pk [0] ?_);refine ZJ ?_
    refine C_frz ho9 (by repeat first|exact Rem.here _|exact Rem.two|apply Rem.skip|apply Rem.over) (fun M2 hM2 k9=>?_)
    refine Zq (l:=[0,1,2,3,4,5,6,7,8,9,10,11,12,13,14,15,16]) rfl ?_
    iterate 3 refine ZA ?_
    refine ZU ?_;refine Zk F.foff68_0 ?_;refine Zk F.foff32_0 ?_;refine Zk F.foff28_0 ?_;refine Zk F.foff25_1 ?_;refine ZI F.lay23 ?_;refine ZU ?_;refine Zk F.foff68_0 ?_;refine Zk F.foff32_12 ?_;refine Yi F.lay23 ?_;refine ZU ?_;refine Zk F.foff68_0 ?_;refine Zk F.foff32_14 ?_;refine Yi F.lay3 ?_;refine Zx (Zt (Y_pk [0] ?_));refine Xn (l:=[0,1,2,3,4,5,6]) [6] rfl ?_
    iterate 2 refine ZA ?_
    refine ZU ?_;refine Zk F.foff68_0 ?_;refine Zk F.foff32_3 ?_;refine ZI F.lay3 ?_;refine WA rfl rfl rfl F.ok89 rfl (seek_ok M2 bw _ _ _ _ _ _ _ _ _ _ _ _ _ _ _ _ _ _ _ _ _ _ _ _ _ _ _ (Yk.mono hM2) k9 (by omega) ZF) (by repeat first|exact Rem.here _|exact Rem.two|apply Rem.skip|apply Rem.over) (Yv rfl) ?_
    rintro _ M3 hs3 hm3 ⟨rfl,⟨⟨⟨YH,YO⟩,⟨YI,YP⟩,⟨YT,YS,YR⟩,⟨YL,YK,YJ⟩⟩,XN,XR,Wp,XM,WS,Wd,XO,XJ,Xt,XK,Xu,XL,⟨Xx,Xw,Xv⟩,Wo,Wn⟩,⟨o_a,o_c,o_l⟩,rfl,hv1,hv2,okv,oko,okq⟩
    simp only [List.append_assoc,List.cons_append,List.nil_append]
    refine Zx (Wl ?_)
    refine Yj (.inl rfl) (.nil) (fun w hw=>?_)
    have h3:=stab_alone (n:=ZP.nd ⟨⟨⟨Za,Zc⟩,⟨Zf,Zh⟩,⟨Zj,Zi,Zg⟩,⟨Ze,Zd,Zb⟩⟩,Zs,Zr,ZF,Zz,ZM,ZB,Zv,Zu,Zn,Zy,Zm,Zw,⟨Zp,Zo,Zl⟩,ZD,ZG⟩) (l:=s_l) (show Zr=false from hj) (by rw [if_pos (show (ZP.nd ⟨⟨⟨Za,Zc⟩,⟨Zf,Zh⟩,⟨Zj,Zi,Zg⟩,⟨Ze,Zd,Zb⟩⟩,Zs,Zr,ZF,Zz,ZM,ZB,Zv,Zu,Zn,Zy,Zm,Zw,⟨Zp,Zo,Zl⟩,ZD,ZG⟩).findTo≠-1∧(ZP.nd ⟨⟨⟨Za,Zc⟩,⟨Zf,Zh⟩,⟨Zj,Zi,Zg⟩,⟨Ze,Zd,Zb⟩⟩,Zs,Zr,ZF,Zz,ZM,ZB,Zv,Zu,Zn,Zy,Zm,Zw,⟨Zp,Zo,Zl⟩,ZD,ZG⟩).findTo≠(ZP.nd ⟨⟨⟨Za,Zc⟩,⟨Zf,Zh⟩,⟨Zj,Zi,Zg⟩,⟨Ze,Zd,Zb⟩⟩,Zs,Zr,ZF,Zz,ZM,ZB,Zv,Zu,Zn,Zy,Zm,Zw,⟨Zp,Zo,Zl⟩,ZD,ZG⟩).boot from (show Zy≠-1∧Zy≠ZF by constructor <;> first|assumption|omega))];exact hl9)
    exact ⟨_,M3,[(bw,rowO (ZR.segs ⟨⟨⟨⟨YH,YO⟩,⟨YI,YP⟩,⟨YT,YS,YR⟩,⟨YL,YK,YJ⟩⟩,XN,XR,Wp,XM,WS,Wd,XO,XJ,Xt,XK,Xu,XL,⟨Xx,Xw,Xv⟩,Wo,Wn⟩,⟨o_a,o_c,o_l⟩⟩) 68)],rfl,(hM2.trans hm3),hw.c,rfl,⟨⟨⟨YH,YO⟩,⟨YI,YP⟩,⟨YT,YS,YR⟩,⟨YL,YK,YJ⟩⟩,XN,XR,Wp,XM,WS,Wd,XO,XJ,Xt,XK,Xu,XL,⟨Xx,Xw,Xv⟩,Wo,Wn⟩,⟨o_a,o_c,o_l⟩,rfl,by rw [h3];exact hv1,by rw [h3];exact hv2,okv,oko,okq⟩
   ·replace hc2:=nF hc2
    refine Yz (Zt (Y_pk [0] ?_));refine ZJ ?_
    refine C_frz hA (by repeat first|exact Rem.here _|exact Rem.two|apply Rem.skip|apply Rem.over) (fun M2 hM2 k9=>?_)
    refine Zq (l:=[0,1,2,3,4,5,6,7,8,9,10,11,12,13,14,15,16]) rfl ?_
    iterate 3 refine ZA ?_
    refine ZU ?_;refine Zk F.foff68_0 ?_;refine Zk F.foff32_0 ?_;refine Zk F.foff28_0 ?_;refine Zk F.foff25_1 ?_;refine ZI F.lay23 ?_;refine ZU ?_;refine Zk F.foff68_0 ?_;refine Zk F.foff32_12 ?_;refine Yi F.lay23 ?_;refine ZU ?_;refine Zk F.foff68_0 ?_;refine Zk F.foff32_14 ?_;refine Yi F.lay3 ?_;refine Zx (Zt (Y_pk [0] ?_));refine Xn (l:=[0,1,2,3,4,5,6]) [6] rfl ?_
    iterate 2 refine ZA ?_
    refine ZU ?_;refine Zk F.foff68_0 ?_;refine Zk F.foff32_3 ?_;refine ZI F.lay3 ?_;refine WA rfl rfl rfl F.ok89 rfl (seek_ok M2 bw _ _ _ _ _ _ _ _ _ _ _ _ _ _ _ _ _ _ _ _ _ _ _ _ _ _ _ (Yk.mono hM2) k9 (by omega) ZF) (by repeat first|exact Rem.here _|exact Rem.two|apply Rem.skip|apply Rem.over) (Yv rfl) ?_
    rintro _ M3 hs3 hm3 ⟨rfl,⟨⟨⟨YH,YO⟩,⟨YI,YP⟩,⟨YT,YS,YR⟩,⟨YL,YK,YJ⟩⟩,XN,XR,Wp,XM,WS,Wd,XO,XJ,Xt,XK,Xu,XL,⟨Xx,Xw,Xv⟩,Wo,Wn⟩,⟨o_a,o_c,o_l⟩,rfl,hv1,hv2,okv,oko,okq⟩
    simp only [List.append_assoc,List.cons_append,List.nil_append]
    refine Zx (Wl ?_)
    refine Yj (.inl rfl) (.nil) (fun w hw=>?_)
    have h3:=stab_alone (n:=ZP.nd ⟨⟨⟨Za,Zc⟩,⟨Zf,Zh⟩,⟨Zj,Zi,Zg⟩,⟨Ze,Zd,Zb⟩⟩,Zs,Zr,ZF,Zz,ZM,ZB,Zv,Zu,Zn,Zy,Zm,Zw,⟨Zp,Zo,Zl⟩,ZD,ZG⟩) (l:=Zl) (show Zr=false from hj) (by rw [if_neg (show ¬((ZP.nd ⟨⟨⟨Za,Zc⟩,⟨Zf,Zh⟩,⟨Zj,Zi,Zg⟩,⟨Ze,Zd,Zb⟩⟩,Zs,Zr,ZF,Zz,ZM,ZB,Zv,Zu,Zn,Zy,Zm,Zw,⟨Zp,Zo,Zl⟩,ZD,ZG⟩).findTo≠-1∧(ZP.nd ⟨⟨⟨Za,Zc⟩,⟨Zf,Zh⟩,⟨Zj,Zi,Zg⟩,⟨Ze,Zd,Zb⟩⟩,Zs,Zr,ZF,Zz,ZM,ZB,Zv,Zu,Zn,Zy,Zm,Zw,⟨Zp,Zo,Zl⟩,ZD,ZG⟩).findTo≠(ZP.nd ⟨⟨⟨Za,Zc⟩,⟨Zf,Zh⟩,⟨Zj,Zi,Zg⟩,⟨Ze,Zd,Zb⟩⟩,Zs,Zr,ZF,Zz,ZM,ZB,Zv,Zu,Zn,Zy,Zm,Zw,⟨Zp,Zo,Zl⟩,ZD,ZG⟩).boot) from (show ¬(Zy≠-1∧Zy≠ZF) by first|assumption|omega))];rfl)
    exact ⟨_,M3,[(bw,rowO (ZR.segs ⟨⟨⟨⟨YH,YO⟩,⟨YI,YP⟩,⟨YT,YS,YR⟩,⟨YL,YK,YJ⟩⟩,XN,XR,Wp,XM,WS,Wd,XO,XJ,Xt,XK,Xu,XL,⟨Xx,Xw,Xv⟩,Wo,Wn⟩,⟨o_a,o_c,o_l⟩⟩) 68)],rfl,(hM2.trans hm3),hw.c,rfl,⟨⟨⟨YH,YO⟩,⟨YI,YP⟩,⟨YT,YS,YR⟩,⟨YL,YK,YJ⟩⟩,XN,XR,Wp,XM,WS,Wd,XO,XJ,Xt,XK,Xu,XL,⟨Xx,Xw,Xv⟩,Wo,Wn⟩,⟨o_a,o_c,o_l⟩,rfl,by rw [h3];exact hv1,by rw [h3];exact hv2,okv,oko,okq⟩
  ·replace hc1:=nF hc1
   iterate 11 refine Yh ?_
   refine ZS ?_;refine Zx (Zt (Y_pk [20,0] ?_));refine Wq rfl ?_;refine Yz (Zt (Y_pk [0] ?_));refine ZJ ?_
   refine C_frz hA (by repeat first|exact Rem.here _|exact Rem.two|apply Rem.skip|apply Rem.over) (fun M2 hM2 k9=>?_)
   refine Zq (l:=[0,1,2,3,4,5,6,7,8,9,10,11,12,13,14,15,16]) rfl ?_
   iterate 3 refine ZA ?_
   refine ZU ?_;refine Zk F.foff68_0 ?_;refine Zk F.foff32_0 ?_;refine Zk F.foff28_0 ?_;refine Zk F.foff25_1 ?_;refine ZI F.lay23 ?_;refine ZU ?_;refine Zk F.foff68_0 ?_;refine Zk F.foff32_12 ?_;refine Yi F.lay23 ?_;refine ZU ?_;refine Zk F.foff68_0 ?_;refine Zk F.foff32_14 ?_;refine Yi F.lay3 ?_;refine Zx (Zt (Y_pk [0] ?_));refine Xn (l:=[0,1,2,3,4,5,6]) [6] rfl ?_
   iterate 2 refine ZA ?_
   refine ZU ?_;refine Zk F.foff68_0 ?_;refine Zk F.foff32_3 ?_;refine ZI F.lay3 ?_;refine WA rfl rfl rfl F.ok89 rfl (seek_ok M2 bw _ _ _ _ _ _ _ _ _ _ _ _ _ _ _ _ _ _ _ _ _ _ _ _ _ _ _ (Yk.mono hM2) k9 (by omega) ZF) (by repeat first|exact Rem.here _|exact Rem.two|apply Rem.skip|apply Rem.over) (Yv rfl) ?_
   rintro _ M3 hs3 hm3 ⟨rfl,⟨⟨⟨YH,YO⟩,⟨YI,YP⟩,⟨YT,YS,YR⟩,⟨YL,YK,YJ⟩⟩,XN,XR,Wp,XM,WS,Wd,XO,XJ,Xt,XK,Xu,XL,⟨Xx,Xw,Xv⟩,Wo,Wn⟩,⟨o_a,o_c,o_l⟩,rfl,hv1,hv2,okv,oko,okq⟩
   simp only [List.append_assoc,List.cons_append,List.nil_append]
   refine Zx (Wl ?_)
   refine Yj (.inl rfl) (.nil) (fun w hw=>?_)
   have h3:=stab_alone (n:=ZP.nd ⟨⟨⟨Za,Zc⟩,⟨Zf,Zh⟩,⟨Zj,Zi,Zg⟩,⟨Ze,Zd,Zb⟩⟩,Zs,Zr,ZF,Zz,ZM,ZB,Zv,Zu,Zn,Zy,Zm,Zw,⟨Zp,Zo,Zl⟩,ZD,ZG⟩) (l:=Zl) (show Zr=false from hj) (by rw [if_neg (show ¬((ZP.nd ⟨⟨⟨Za,Zc⟩,⟨Zf,Zh⟩,⟨Zj,Zi,Zg⟩,⟨Ze,Zd,Zb⟩⟩,Zs,Zr,ZF,Zz,ZM,ZB,Zv,Zu,Zn,Zy,Zm,Zw,⟨Zp,Zo,Zl⟩,ZD,ZG⟩).findTo≠-1∧(ZP.nd ⟨⟨⟨Za,Zc⟩,⟨Zf,Zh⟩,⟨Zj,Zi,Zg⟩,⟨Ze,Zd,Zb⟩⟩,Zs,Zr,ZF,Zz,ZM,ZB,Zv,Zu,Zn,Zy,Zm,Zw,⟨Zp,Zo,Zl⟩,ZD,ZG⟩).findTo≠(ZP.nd ⟨⟨⟨Za,Zc⟩,⟨Zf,Zh⟩,⟨Zj,Zi,Zg⟩,⟨Ze,Zd,Zb⟩⟩,Zs,Zr,ZF,Zz,ZM,ZB,Zv,Zu,Zn,Zy,Zm,Zw,⟨Zp,Zo,Zl⟩,ZD,ZG⟩).boot) from (show ¬(Zy≠-1∧Zy≠ZF) by first|assumption|omega))];rfl)
   exact ⟨_,M3,[(bw,rowO (ZR.segs ⟨⟨⟨⟨YH,YO⟩,⟨YI,YP⟩,⟨YT,YS,YR⟩,⟨YL,YK,YJ⟩⟩,XN,XR,Wp,XM,WS,Wd,XO,XJ,Xt,XK,Xu,XL,⟨Xx,Xw,Xv⟩,Wo,Wn⟩,⟨o_a,o_c,o_l⟩⟩) 68)],rfl,(hM2.trans hm3),hw.c,rfl,⟨⟨⟨YH,YO⟩,⟨YI,YP⟩,⟨YT,YS,YR⟩,⟨YL,YK,YJ⟩⟩,XN,XR,Wp,XM,WS,Wd,XO,XJ,Xt,XK,Xu,XL,⟨Xx,Xw,Xv⟩,Wo,Wn⟩,⟨o_a,o_c,o_l⟩,rfl,by rw [h3];exact hv1,by rw [h3];exact hv2,okv,oko,okq⟩
theorem stab_ok (M:Mem) (bw:Nat) (Za:Int) (Zc:Plc) (Zf:Int) (Zh:Plc) (Zj Ze Zp:Option Addr) (Zi Zd Zo:Nat) (Zg Zb:List ZE) (Zl:List Int) (Zs:Int) (Zr:Bool) (ZF Zz ZM ZB Zv Zu Zn Zy Zm:Int) (Zw:Plc) (ZD ZG:Int) (Yk:ZT.ok M ⟨⟨Za,Zc⟩,⟨Zf,Zh⟩,⟨Zj,Zi,Zg⟩,⟨Ze,Zd,Zb⟩⟩) (hbig:Zg.length≤40∧Zb.length≤200) (hav:Hp) (hA:OSl 3 1 (.slice Zp Zl.length Zo) hav (Zl.map (oneI .i64))) (hLa:Zl.length≤900):Fh Tryz.prog 33 [.pointer (some ⟨bw,0,none⟩)] M ((bw,rowO (ZR.segs ⟨⟨⟨⟨Za,Zc⟩,⟨Zf,Zh⟩,⟨Zj,Zi,Zg⟩,⟨Ze,Zd,Zb⟩⟩,Zs,Zr,ZF,Zz,ZM,ZB,Zv,Zu,Zn,Zy,Zm,Zw,⟨Zp,Zo,Zl⟩,ZD,ZG⟩,⟨none,0,[]⟩⟩) 68)::hav) (fun M' v Hout=>v=.tuple #[]∧WkF bw 68 M' Hout (stabN (ZP.nd ⟨⟨⟨Za,Zc⟩,⟨Zf,Zh⟩,⟨Zj,Zi,Zg⟩,⟨Ze,Zd,Zb⟩⟩,Zs,Zr,ZF,Zz,ZM,ZB,Zv,Zu,Zn,Zy,Zm,Zw,⟨Zp,Zo,Zl⟩,ZD,ZG⟩))):=by
  refine XQ (fun H=>(bw,rowO (ZR.segs ⟨⟨⟨⟨Za,Zc⟩,⟨Zf,Zh⟩,⟨Zj,Zi,Zg⟩,⟨Ze,Zd,Zb⟩⟩,Zs,Zr,ZF,Zz,ZM,ZB,Zv,Zu,Zn,Zy,Zm,Zw,⟨Zp,Zo,Zl⟩,ZD,ZG⟩,⟨none,0,[]⟩⟩) 68)::(hav++H)) (fun _=>by simp only [List.append_assoc,List.cons_append,List.nil_append]) Tryz.func33 rfl Tryz.ntmps33 rfl ?_;intro H
  iterate 2 refine ZJ ?_
  refine Zq (l:=[0,1,2,3,4,5]) rfl ?_;refine ZA ?_;refine ZU ?_;refine Zk F.foff68_0 ?_;refine Zk F.foff32_2 ?_;refine ZI F.lay4 ?_;refine XA ?_;refine Zx (Zt (Y_pk [7,0] ?_))
  refine YA rfl (fun hc1=>?_) (fun hc1=>?_)
  ·skip
   refine ZJ (Xn (l:=[0,1]) [1] rfl ?_);refine ZA ?_;refine WA rfl rfl rfl F.ok80 rfl (join_ok M bw Za Zc Zf Zh Zj Ze Zp Zi Zd Zo Zg Zb Zl Zs Zr ZF Zz ZM ZB Zv Zu Zn Zy Zm Zw ZD ZG Yk hav hA hLa (by (simp_all;done))) (by repeat first|exact Rem.here _|exact Rem.two|apply Rem.skip|apply Rem.over) (Yv rfl) ?_
   rintro _ M1 hs1 hm1 ⟨rfl,⟨⟨⟨YH,YO⟩,⟨YI,YP⟩,⟨YT,YS,YR⟩,⟨YL,YK,YJ⟩⟩,XN,XR,Wp,XM,WS,Wd,XO,XJ,Xt,XK,Xu,XL,⟨Xx,Xw,Xv⟩,Wo,Wn⟩,⟨o_a,o_c,o_l⟩,rfl,hv1,hv2,okv,oko,okq⟩
   simp only [List.append_assoc,List.cons_append,List.nil_append]
   refine Zx (Wl ?_);refine Zt (Y_pk [0] ?_);refine Yu (YY ?_)
   refine Yj (.inr rfl) (.nil) (fun w hw=>?_)
   exact ⟨_,M1,[(bw,rowO (ZR.segs ⟨⟨⟨⟨YH,YO⟩,⟨YI,YP⟩,⟨YT,YS,YR⟩,⟨YL,YK,YJ⟩⟩,XN,XR,Wp,XM,WS,Wd,XO,XJ,Xt,XK,Xu,XL,⟨Xx,Xw,Xv⟩,Wo,Wn⟩,⟨o_a,o_c,o_l⟩⟩) 68)],rfl,hm1,hw.c,rfl,⟨⟨⟨YH,YO⟩,⟨YI,YP⟩,⟨YT,YS,YR⟩,⟨YL,YK,YJ⟩⟩,XN,XR,Wp,XM,WS,Wd,XO,XJ,Xt,XK,Xu,XL,⟨Xx,Xw,Xv⟩,Wo,Wn⟩,⟨o_a,o_c,o_l⟩,rfl,by exact hv1,by exact hv2,okv,oko,okq⟩
  ·skip
   refine Yz (Zt (Y_pk [0] ?_));refine ZJ ?_
   refine C_frz hA (by repeat first|exact Rem.here _|exact Rem.two|apply Rem.skip|apply Rem.over) (fun M2 hM2 k9=>?_)
   refine Xn (l:=[0,1,2,3,4,5]) [5] rfl ?_
   iterate 2 refine ZA ?_
   refine ZU ?_;refine Zk F.foff68_0 ?_;refine Zk F.foff32_6 ?_;refine WA rfl rfl rfl F.ok81 rfl (lostA_ok M2 bw _ _ _ _ _ _ _ _ _ _ _ _ _ _ _ _ _ _ _ _ _ _ _ _ _ _ _ (Yk.mono hM2) hbig) (by repeat first|exact Rem.here _|exact Rem.two|apply Rem.skip|apply Rem.over) (Yv rfl) ?_
   rintro _ M3 hs3 hm3 ⟨rfl,⟨⟨oa,oi⟩,⟨oq,oj⟩,⟨o1a,o1c,o1l⟩,⟨o2a,o2c,o2l⟩⟩,a9,rfl,okt,hlo⟩
   have h1:=lost_ask (n:=ZP.nd ⟨⟨⟨Za,Zc⟩,⟨Zf,Zh⟩,⟨Zj,Zi,Zg⟩,⟨Ze,Zd,Zb⟩⟩,Zs,Zr,ZF,Zz,ZM,ZB,Zv,Zu,Zn,Zy,Zm,Zw,⟨Zp,Zo,Zl⟩,ZD,ZG⟩) hlo
   simp only [List.append_assoc,List.cons_append,List.nil_append]
   refine Zx (Wl ?_);refine Zt (Y_pk [0] ?_)
   iterate 2 refine ZJ ?_
   refine YF (l:=[0,1,2,3,4,5,6,7,8,9,10,11,12,13,14,15,16,17]) #[0,1,3,7,15,31,63,127,255,511,1023,2047,4095,8191,16383,511,65535,131071] _ rfl (by kernel_rfl) (by kernel_rfl) St.drawn (fun _ h=>h) ?_;refine ZA ?_;refine ZU ?_;refine Zk F.foff68_0 ?_;refine Zk F.foff32_0 ?_;refine Zk F.foff28_2 ?_;refine ZI F.lay26 ?_;refine YZ F.elem26 ?_;refine YC ?_;refine ZA ?_
   refine Yp 24 rfl (fun hc2=>?_) (fun hc2=>?_)
   ·replace hc2:=dT hc2
    refine ZA ?_;refine ZU ?_;refine Zk F.foff68_0 ?_;refine Zk F.foff32_0 ?_;refine Zk F.foff28_1 ?_;refine ZI F.lay25 ?_;refine X_fs rfl rfl F.ok66 rfl (WY _) rfl ?_
    rintro _ rfl
    refine VF 31 rfl (show _=aggV [.one (.int .i64 (-1)),Yn 0] from rfl) ?_
    refine WW (m:=20) rfl rfl rfl rfl rfl (by constructor) (by constructor) F.lay25 F.kinds25 rfl F.guard25 (by exact XT (⟨_,_⟩)) (by exact XT (⟨_,_⟩)) rfl rfl rfl ?_;intro c3 he4
    replace he4:c3=true↔¬(Segs.cells _=Segs.cells _):=he4
    obtain rfl:=neD he4 (ZE.inj (x:=⟨_,_⟩) (y:=⟨_,_⟩));clear he4
    refine ZS ?_;refine Zx (Zt (Y_pk [33,0] ?_))
    refine YA rfl (fun hc5=>?_) (fun hc5=>?_)
    ·replace hc5:=nT hc5
     refine Xn (l:=[0,1,2,3,4,5,6,7]) [7] rfl ?_
     iterate 2 refine ZA ?_
     refine ZU ?_;refine Zk F.foff68_0 ?_;refine Zk F.foff32_0 ?_;refine Zk F.foff28_1 ?_;refine ZI F.lay25 ?_;refine WA rfl rfl rfl F.ok82 rfl (adopt_ok M3 bw _ _ _ _ _ _ _ _ _ _ _ _ _ _ _ _ _ _ _ _ _ _ _ _ _ _ _ okt ⟨oq,oj⟩ ⟨none,0,[]⟩ SlK.nil) (by repeat first|exact Rem.here _|exact Rem.two|apply Rem.skip|apply Rem.over) (Yv rfl) ?_
     rintro _ M4 hs4 hm4 ⟨rfl,⟨⟨wa,wi⟩,⟨wq,wj⟩,⟨w1a,w1c,w1l⟩,⟨w2a,w2c,w2l⟩⟩,rfl,okl,hv1⟩
     simp only [List.append_assoc,List.cons_append,List.nil_append]
     refine Zx (Wl ?_);refine Zt (Y_pk [0] ?_);refine ZJ (Zq (l:=[0,1,2,3,4,5,6,7]) rfl ?_);refine ZA ?_;refine ZU ?_;refine Zk F.foff68_0 ?_;refine Zk F.foff32_0 ?_;refine Zk F.foff28_2 ?_;refine ZI F.lay26 ?_;refine YZ F.elem26 ?_;refine YC ?_;refine Zx (Zt (Y_pk [49,0] ?_))
     refine YA rfl (fun hc6=>?_) (fun hc6=>?_)
     ·replace hc6:=dT hc6
      refine ZJ (Zq (l:=[0,1,2,3,4,5,6,7,8,9,10,11]) rfl ?_)
      iterate 2 refine ZA ?_
      refine ZU ?_;refine Zk F.foff68_0 ?_;refine Zk F.foff32_0 ?_;refine ZI F.lay28 ?_;refine X_fs rfl rfl F.ok41 rfl (First_ok _ ⟨⟨wa,wi⟩,⟨wq,wj⟩,⟨w1a,w1c,w1l⟩,⟨w2a,w2c,w2l⟩⟩ okl) rfl ?_
      rintro _ rfl
      obtain ⟨⟨fa,fi⟩,hfi⟩:∃ x,We (ZT.tb ⟨⟨wa,wi⟩,⟨wq,wj⟩,⟨w1a,w1c,w1l⟩,⟨w2a,w2c,w2l⟩⟩)=x:=⟨_,rfl⟩
      rw [hfi]
      refine Y_field F.fld25_0 F.lay3 ?_;refine ZU ?_;refine Zk F.foff68_0 ?_;refine Zk F.foff32_6 ?_;refine Yi F.lay3 ?_;refine Zx (Zt (Y_pk [0] ?_));refine Xn (l:=[0,1,2,3,4,5,6,7,8,9,10,11,12]) [8] rfl ?_
      iterate 3 refine ZA ?_
      refine ZU ?_;refine Zk F.foff68_0 ?_;refine Zk F.foff32_6 ?_;refine ZI F.lay3 ?_;refine Xq rfl rfl F.bld44 (.cons rfl (by constructor) .nil) rfl rfl ?_;refine WA rfl rfl rfl F.ok83 rfl (request_ok M4 bw _ _ _ _ _ _ _ _ _ _ _ _ _ _ _ _ _ _ _ _ _ _ _ _ _ _ _ fa ⟨3,⟨0,0⟩,0,0,⟨none,0,[]⟩,false,⟨0,0⟩,⟨none,0,[]⟩⟩) (by repeat first|exact Rem.here _|exact Rem.two|apply Rem.skip|apply Rem.over) (Yv rfl) ?_
      rintro _ M5 hs5 hm5 ⟨rfl,⟨o9a,o9c,o9l⟩,rfl,k9o,hl9⟩
      simp only at hl9
      simp only [List.append_assoc,List.cons_append,List.nil_append]
      refine ZU ?_;refine Zk F.foff68_0 ?_;refine Zk F.foff32_7 ?_;refine Yi F.lay29 ?_;refine Zx (Wl ?_)
      refine Yj (.inl rfl) (.nil) (fun w hw=>?_)
      have h2:ZP.nd ⟨⟨⟨wa,wi⟩,⟨wq,wj⟩,⟨w1a,w1c,w1l⟩,⟨w2a,w2c,w2l⟩⟩,Zs,Zr,ZF,Zz,ZM,a9,Zv,Zu,Zn,Zy,Zm,Zw,⟨Zp,Zo,Zl⟩,ZD,ZG⟩=if (ZP.nd ⟨⟨⟨oa,oi⟩,⟨oq,oj⟩,⟨o1a,o1c,o1l⟩,⟨o2a,o2c,o2l⟩⟩,Zs,Zr,ZF,Zz,ZM,a9,Zv,Zu,Zn,Zy,Zm,Zw,⟨Zp,Zo,Zl⟩,ZD,ZG⟩).table.succ=[]∧(ZP.nd ⟨⟨⟨oa,oi⟩,⟨oq,oj⟩,⟨o1a,o1c,o1l⟩,⟨o2a,o2c,o2l⟩⟩,Zs,Zr,ZF,Zz,ZM,a9,Zv,Zu,Zn,Zy,Zm,Zw,⟨Zp,Zo,Zl⟩,ZD,ZG⟩).table.pred≠Xc then WG (ZP.nd ⟨⟨⟨oa,oi⟩,⟨oq,oj⟩,⟨o1a,o1c,o1l⟩,⟨o2a,o2c,o2l⟩⟩,Zs,Zr,ZF,Zz,ZM,a9,Zv,Zu,Zn,Zy,Zm,Zw,⟨Zp,Zo,Zl⟩,ZD,ZG⟩) (ZP.nd ⟨⟨⟨oa,oi⟩,⟨oq,oj⟩,⟨o1a,o1c,o1l⟩,⟨o2a,o2c,o2l⟩⟩,Zs,Zr,ZF,Zz,ZM,a9,Zv,Zu,Zn,Zy,Zm,Zw,⟨Zp,Zo,Zl⟩,ZD,ZG⟩).table.pred [] else (ZP.nd ⟨⟨⟨oa,oi⟩,⟨oq,oj⟩,⟨o1a,o1c,o1l⟩,⟨o2a,o2c,o2l⟩⟩,Zs,Zr,ZF,Zz,ZM,a9,Zv,Zu,Zn,Zy,Zm,Zw,⟨Zp,Zo,Zl⟩,ZD,ZG⟩):=by
       rw [if_pos ⟨show o1l=[] from List.length_eq_zero_iff.1 (by omega),show (⟨oq,oj⟩:ZE)≠Xc from (by assumption)⟩];exact hv1
      have h3:=stab_joined (n:=ZP.nd ⟨⟨⟨Za,Zc⟩,⟨Zf,Zh⟩,⟨Zj,Zi,Zg⟩,⟨Ze,Zd,Zb⟩⟩,Zs,Zr,ZF,Zz,ZM,ZB,Zv,Zu,Zn,Zy,Zm,Zw,⟨Zp,Zo,Zl⟩,ZD,ZG⟩) (by show Zr=true;simp_all) h1 h2
      rw [if_neg (show ¬(ZP.nd ⟨⟨⟨wa,wi⟩,⟨wq,wj⟩,⟨w1a,w1c,w1l⟩,⟨w2a,w2c,w2l⟩⟩,Zs,Zr,ZF,Zz,ZM,a9,Zv,Zu,Zn,Zy,Zm,Zw,⟨Zp,Zo,Zl⟩,ZD,ZG⟩).table.succ=[] from (fun q1=>absurd (show w1l.length=0 from congrArg List.length q1) (by omega))),show We (ZP.nd ⟨⟨⟨wa,wi⟩,⟨wq,wj⟩,⟨w1a,w1c,w1l⟩,⟨w2a,w2c,w2l⟩⟩,Zs,Zr,ZF,Zz,ZM,a9,Zv,Zu,Zn,Zy,Zm,Zw,⟨Zp,Zo,Zl⟩,ZD,ZG⟩).table=⟨fa,fi⟩ from hfi] at h3
      refine ⟨_,M5,[(bw,rowO (ZR.segs ⟨⟨⟨⟨wa,wi⟩,⟨wq,wj⟩,⟨w1a,w1c,w1l⟩,⟨w2a,w2c,w2l⟩⟩,Zs,Zr,ZF,Zz,(nxR ZM),fa,(nxR ZM),Zu,Zn,Zy,Zm,Zw,⟨Zp,Zo,Zl⟩,ZD,ZG⟩,⟨o9a,o9c,o9l⟩⟩) 68)],rfl,(((hM2.trans hm3).trans hm4).trans hm5),hw.c,rfl,⟨⟨⟨wa,wi⟩,⟨wq,wj⟩,⟨w1a,w1c,w1l⟩,⟨w2a,w2c,w2l⟩⟩,Zs,Zr,ZF,Zz,(nxR ZM),fa,(nxR ZM),Zu,Zn,Zy,Zm,Zw,⟨Zp,Zo,Zl⟩,ZD,ZG⟩,⟨o9a,o9c,o9l⟩,rfl,?_,?_,⟨okl.mono hm5,((k9.mono hm3).mono hm4).mono hm5⟩,k9o,fun y hy=>?_⟩
      ·rw [h3] <;> rfl
      ·rw [h3]
       show sndl o9l=_
       rw [hl9];rfl
      ·simp only at hy
       rw [hl9] at hy
       obtain rfl:=List.mem_singleton.1 hy
       exact ⟨⟨SlK.nil,SlK.nil⟩⟩
     ·replace hc6:=dF hc6
      refine Yz ?_
      refine Yj (.inl rfl) (.nil) (fun w hw=>?_)
      have h2:ZP.nd ⟨⟨⟨wa,wi⟩,⟨wq,wj⟩,⟨w1a,w1c,w1l⟩,⟨w2a,w2c,w2l⟩⟩,Zs,Zr,ZF,Zz,ZM,a9,Zv,Zu,Zn,Zy,Zm,Zw,⟨Zp,Zo,Zl⟩,ZD,ZG⟩=if (ZP.nd ⟨⟨⟨oa,oi⟩,⟨oq,oj⟩,⟨o1a,o1c,o1l⟩,⟨o2a,o2c,o2l⟩⟩,Zs,Zr,ZF,Zz,ZM,a9,Zv,Zu,Zn,Zy,Zm,Zw,⟨Zp,Zo,Zl⟩,ZD,ZG⟩).table.succ=[]∧(ZP.nd ⟨⟨⟨oa,oi⟩,⟨oq,oj⟩,⟨o1a,o1c,o1l⟩,⟨o2a,o2c,o2l⟩⟩,Zs,Zr,ZF,Zz,ZM,a9,Zv,Zu,Zn,Zy,Zm,Zw,⟨Zp,Zo,Zl⟩,ZD,ZG⟩).table.pred≠Xc then WG (ZP.nd ⟨⟨⟨oa,oi⟩,⟨oq,oj⟩,⟨o1a,o1c,o1l⟩,⟨o2a,o2c,o2l⟩⟩,Zs,Zr,ZF,Zz,ZM,a9,Zv,Zu,Zn,Zy,Zm,Zw,⟨Zp,Zo,Zl⟩,ZD,ZG⟩) (ZP.nd ⟨⟨⟨oa,oi⟩,⟨oq,oj⟩,⟨o1a,o1c,o1l⟩,⟨o2a,o2c,o2l⟩⟩,Zs,Zr,ZF,Zz,ZM,a9,Zv,Zu,Zn,Zy,Zm,Zw,⟨Zp,Zo,Zl⟩,ZD,ZG⟩).table.pred [] else (ZP.nd ⟨⟨⟨oa,oi⟩,⟨oq,oj⟩,⟨o1a,o1c,o1l⟩,⟨o2a,o2c,o2l⟩⟩,Zs,Zr,ZF,Zz,ZM,a9,Zv,Zu,Zn,Zy,Zm,Zw,⟨Zp,Zo,Zl⟩,ZD,ZG⟩):=by
       rw [if_pos ⟨show o1l=[] from List.length_eq_zero_iff.1 (by omega),show (⟨oq,oj⟩:ZE)≠Xc from (by assumption)⟩];exact hv1
      have h3:=stab_joined (n:=ZP.nd ⟨⟨⟨Za,Zc⟩,⟨Zf,Zh⟩,⟨Zj,Zi,Zg⟩,⟨Ze,Zd,Zb⟩⟩,Zs,Zr,ZF,Zz,ZM,ZB,Zv,Zu,Zn,Zy,Zm,Zw,⟨Zp,Zo,Zl⟩,ZD,ZG⟩) (by show Zr=true;simp_all) h1 h2
      rw [if_pos (show (ZP.nd ⟨⟨⟨wa,wi⟩,⟨wq,wj⟩,⟨w1a,w1c,w1l⟩,⟨w2a,w2c,w2l⟩⟩,Zs,Zr,ZF,Zz,ZM,a9,Zv,Zu,Zn,Zy,Zm,Zw,⟨Zp,Zo,Zl⟩,ZD,ZG⟩).table.succ=[] from List.length_eq_zero_iff.1 (show w1l.length=0 from by omega))] at h3
      refine ⟨_,M4,[(bw,rowO (ZR.segs ⟨⟨⟨⟨wa,wi⟩,⟨wq,wj⟩,⟨w1a,w1c,w1l⟩,⟨w2a,w2c,w2l⟩⟩,Zs,Zr,ZF,Zz,ZM,a9,Zv,Zu,Zn,Zy,Zm,Zw,⟨Zp,Zo,Zl⟩,ZD,ZG⟩,⟨none,0,[]⟩⟩) 68)],rfl,((hM2.trans hm3).trans hm4),hw.c,rfl,⟨⟨⟨wa,wi⟩,⟨wq,wj⟩,⟨w1a,w1c,w1l⟩,⟨w2a,w2c,w2l⟩⟩,Zs,Zr,ZF,Zz,ZM,a9,Zv,Zu,Zn,Zy,Zm,Zw,⟨Zp,Zo,Zl⟩,ZD,ZG⟩,⟨none,0,[]⟩,rfl,?_,?_,⟨okl,((k9.mono hm3).mono hm4)⟩,SlK.nil,fun y hy=>by cases hy⟩
      ·rw [h3] <;> rfl
      ·rw [h3] <;> rfl
    ·replace hc5:=nF hc5
     refine Yz (Zt (Y_pk [0] ?_));refine ZJ (Zq (l:=[0,1,2,3,4,5,6,7]) rfl ?_);refine ZA ?_;refine ZU ?_;refine Zk F.foff68_0 ?_;refine Zk F.foff32_0 ?_;refine Zk F.foff28_2 ?_;refine ZI F.lay26 ?_;refine YZ F.elem26 ?_;refine YC ?_;refine Zx (Zt (Y_pk [49,0] ?_))
     refine YA rfl (fun hc7=>?_) (fun hc7=>?_)
     ·replace hc7:=dT hc7
      (exfalso;omega)
     ·replace hc7:=dF hc7
      refine Yz ?_
      refine Yj (.inl rfl) (.nil) (fun w hw=>?_)
      have h2:ZP.nd ⟨⟨⟨oa,oi⟩,⟨oq,oj⟩,⟨o1a,o1c,o1l⟩,⟨o2a,o2c,o2l⟩⟩,Zs,Zr,ZF,Zz,ZM,a9,Zv,Zu,Zn,Zy,Zm,Zw,⟨Zp,Zo,Zl⟩,ZD,ZG⟩=if (ZP.nd ⟨⟨⟨oa,oi⟩,⟨oq,oj⟩,⟨o1a,o1c,o1l⟩,⟨o2a,o2c,o2l⟩⟩,Zs,Zr,ZF,Zz,ZM,a9,Zv,Zu,Zn,Zy,Zm,Zw,⟨Zp,Zo,Zl⟩,ZD,ZG⟩).table.succ=[]∧(ZP.nd ⟨⟨⟨oa,oi⟩,⟨oq,oj⟩,⟨o1a,o1c,o1l⟩,⟨o2a,o2c,o2l⟩⟩,Zs,Zr,ZF,Zz,ZM,a9,Zv,Zu,Zn,Zy,Zm,Zw,⟨Zp,Zo,Zl⟩,ZD,ZG⟩).table.pred≠Xc then WG (ZP.nd ⟨⟨⟨oa,oi⟩,⟨oq,oj⟩,⟨o1a,o1c,o1l⟩,⟨o2a,o2c,o2l⟩⟩,Zs,Zr,ZF,Zz,ZM,a9,Zv,Zu,Zn,Zy,Zm,Zw,⟨Zp,Zo,Zl⟩,ZD,ZG⟩) (ZP.nd ⟨⟨⟨oa,oi⟩,⟨oq,oj⟩,⟨o1a,o1c,o1l⟩,⟨o2a,o2c,o2l⟩⟩,Zs,Zr,ZF,Zz,ZM,a9,Zv,Zu,Zn,Zy,Zm,Zw,⟨Zp,Zo,Zl⟩,ZD,ZG⟩).table.pred [] else (ZP.nd ⟨⟨⟨oa,oi⟩,⟨oq,oj⟩,⟨o1a,o1c,o1l⟩,⟨o2a,o2c,o2l⟩⟩,Zs,Zr,ZF,Zz,ZM,a9,Zv,Zu,Zn,Zy,Zm,Zw,⟨Zp,Zo,Zl⟩,ZD,ZG⟩):=by
       rw [if_neg (by rintro ⟨q1,q2⟩;exact q2 (show (⟨oq,oj⟩:ZE)=Xc from (by assumption)))]
      have h3:=stab_joined (n:=ZP.nd ⟨⟨⟨Za,Zc⟩,⟨Zf,Zh⟩,⟨Zj,Zi,Zg⟩,⟨Ze,Zd,Zb⟩⟩,Zs,Zr,ZF,Zz,ZM,ZB,Zv,Zu,Zn,Zy,Zm,Zw,⟨Zp,Zo,Zl⟩,ZD,ZG⟩) (by show Zr=true;simp_all) h1 h2
      rw [if_pos (show (ZP.nd ⟨⟨⟨oa,oi⟩,⟨oq,oj⟩,⟨o1a,o1c,o1l⟩,⟨o2a,o2c,o2l⟩⟩,Zs,Zr,ZF,Zz,ZM,a9,Zv,Zu,Zn,Zy,Zm,Zw,⟨Zp,Zo,Zl⟩,ZD,ZG⟩).table.succ=[] from List.length_eq_zero_iff.1 (show o1l.length=0 from by omega))] at h3
      refine ⟨_,M3,[(bw,rowO (ZR.segs ⟨⟨⟨⟨oa,oi⟩,⟨oq,oj⟩,⟨o1a,o1c,o1l⟩,⟨o2a,o2c,o2l⟩⟩,Zs,Zr,ZF,Zz,ZM,a9,Zv,Zu,Zn,Zy,Zm,Zw,⟨Zp,Zo,Zl⟩,ZD,ZG⟩,⟨none,0,[]⟩⟩) 68)],rfl,(hM2.trans hm3),hw.c,rfl,⟨⟨⟨oa,oi⟩,⟨oq,oj⟩,⟨o1a,o1c,o1l⟩,⟨o2a,o2c,o2l⟩⟩,Zs,Zr,ZF,Zz,ZM,a9,Zv,Zu,Zn,Zy,Zm,Zw,⟨Zp,Zo,Zl⟩,ZD,ZG⟩,⟨none,0,[]⟩,rfl,?_,?_,⟨okt,(k9.mono hm3)⟩,SlK.nil,fun y hy=>by cases hy⟩
      ·rw [h3] <;> rfl
      ·rw [h3] <;> rfl
   ·replace hc2:=dF hc2
    iterate 8 refine Yh ?_
    refine ZS ?_;refine Zx (Zt (Y_pk [33,0] ?_));refine Wq rfl ?_;refine Yz (Zt (Y_pk [0] ?_));refine ZJ (Zq (l:=[0,1,2,3,4,5,6,7]) rfl ?_);refine ZA ?_;refine ZU ?_;refine Zk F.foff68_0 ?_;refine Zk F.foff32_0 ?_;refine Zk F.foff28_2 ?_;refine ZI F.lay26 ?_;refine YZ F.elem26 ?_;refine YC ?_;refine Zx (Zt (Y_pk [49,0] ?_))
    refine YA rfl (fun hc8=>?_) (fun hc8=>?_)
    ·replace hc8:=dT hc8
     refine ZJ (Zq (l:=[0,1,2,3,4,5,6,7,8,9,10,11]) rfl ?_)
     iterate 2 refine ZA ?_
     refine ZU ?_;refine Zk F.foff68_0 ?_;refine Zk F.foff32_0 ?_;refine ZI F.lay28 ?_;refine X_fs rfl rfl F.ok41 rfl (First_ok _ ⟨⟨oa,oi⟩,⟨oq,oj⟩,⟨o1a,o1c,o1l⟩,⟨o2a,o2c,o2l⟩⟩ okt) rfl ?_
     rintro _ rfl
     obtain ⟨⟨fa,fi⟩,hfi⟩:∃ x,We (ZT.tb ⟨⟨oa,oi⟩,⟨oq,oj⟩,⟨o1a,o1c,o1l⟩,⟨o2a,o2c,o2l⟩⟩)=x:=⟨_,rfl⟩
     rw [hfi]
     refine Y_field F.fld25_0 F.lay3 ?_;refine ZU ?_;refine Zk F.foff68_0 ?_;refine Zk F.foff32_6 ?_;refine Yi F.lay3 ?_;refine Zx (Zt (Y_pk [0] ?_));refine Xn (l:=[0,1,2,3,4,5,6,7,8,9,10,11,12]) [8] rfl ?_
     iterate 3 refine ZA ?_
     refine ZU ?_;refine Zk F.foff68_0 ?_;refine Zk F.foff32_6 ?_;refine ZI F.lay3 ?_;refine Xq rfl rfl F.bld44 (.cons rfl (by constructor) .nil) rfl rfl ?_;refine WA rfl rfl rfl F.ok83 rfl (request_ok M3 bw _ _ _ _ _ _ _ _ _ _ _ _ _ _ _ _ _ _ _ _ _ _ _ _ _ _ _ fa ⟨3,⟨0,0⟩,0,0,⟨none,0,[]⟩,false,⟨0,0⟩,⟨none,0,[]⟩⟩) (by repeat first|exact Rem.here _|exact Rem.two|apply Rem.skip|apply Rem.over) (Yv rfl) ?_
     rintro _ M5 hs5 hm5 ⟨rfl,⟨o9a,o9c,o9l⟩,rfl,k9o,hl9⟩
     simp only at hl9
     simp only [List.append_assoc,List.cons_append,List.nil_append]
     refine ZU ?_;refine Zk F.foff68_0 ?_;refine Zk F.foff32_7 ?_;refine Yi F.lay29 ?_;refine Zx (Wl ?_)
     refine Yj (.inl rfl) (.nil) (fun w hw=>?_)
     have h2:ZP.nd ⟨⟨⟨oa,oi⟩,⟨oq,oj⟩,⟨o1a,o1c,o1l⟩,⟨o2a,o2c,o2l⟩⟩,Zs,Zr,ZF,Zz,ZM,a9,Zv,Zu,Zn,Zy,Zm,Zw,⟨Zp,Zo,Zl⟩,ZD,ZG⟩=if (ZP.nd ⟨⟨⟨oa,oi⟩,⟨oq,oj⟩,⟨o1a,o1c,o1l⟩,⟨o2a,o2c,o2l⟩⟩,Zs,Zr,ZF,Zz,ZM,a9,Zv,Zu,Zn,Zy,Zm,Zw,⟨Zp,Zo,Zl⟩,ZD,ZG⟩).table.succ=[]∧(ZP.nd ⟨⟨⟨oa,oi⟩,⟨oq,oj⟩,⟨o1a,o1c,o1l⟩,⟨o2a,o2c,o2l⟩⟩,Zs,Zr,ZF,Zz,ZM,a9,Zv,Zu,Zn,Zy,Zm,Zw,⟨Zp,Zo,Zl⟩,ZD,ZG⟩).table.pred≠Xc then WG (ZP.nd ⟨⟨⟨oa,oi⟩,⟨oq,oj⟩,⟨o1a,o1c,o1l⟩,⟨o2a,o2c,o2l⟩⟩,Zs,Zr,ZF,Zz,ZM,a9,Zv,Zu,Zn,Zy,Zm,Zw,⟨Zp,Zo,Zl⟩,ZD,ZG⟩) (ZP.nd ⟨⟨⟨oa,oi⟩,⟨oq,oj⟩,⟨o1a,o1c,o1l⟩,⟨o2a,o2c,o2l⟩⟩,Zs,Zr,ZF,Zz,ZM,a9,Zv,Zu,Zn,Zy,Zm,Zw,⟨Zp,Zo,Zl⟩,ZD,ZG⟩).table.pred [] else (ZP.nd ⟨⟨⟨oa,oi⟩,⟨oq,oj⟩,⟨o1a,o1c,o1l⟩,⟨o2a,o2c,o2l⟩⟩,Zs,Zr,ZF,Zz,ZM,a9,Zv,Zu,Zn,Zy,Zm,Zw,⟨Zp,Zo,Zl⟩,ZD,ZG⟩):=by
      rw [if_neg (by rintro ⟨q1,q2⟩;have q3:o1l.length=0:=congrArg List.length q1;omega)]
     have h3:=stab_joined (n:=ZP.nd ⟨⟨⟨Za,Zc⟩,⟨Zf,Zh⟩,⟨Zj,Zi,Zg⟩,⟨Ze,Zd,Zb⟩⟩,Zs,Zr,ZF,Zz,ZM,ZB,Zv,Zu,Zn,Zy,Zm,Zw,⟨Zp,Zo,Zl⟩,ZD,ZG⟩) (by show Zr=true;simp_all) h1 h2
     rw [if_neg (show ¬(ZP.nd ⟨⟨⟨oa,oi⟩,⟨oq,oj⟩,⟨o1a,o1c,o1l⟩,⟨o2a,o2c,o2l⟩⟩,Zs,Zr,ZF,Zz,ZM,a9,Zv,Zu,Zn,Zy,Zm,Zw,⟨Zp,Zo,Zl⟩,ZD,ZG⟩).table.succ=[] from (fun q1=>absurd (show o1l.length=0 from congrArg List.length q1) (by omega))),show We (ZP.nd ⟨⟨⟨oa,oi⟩,⟨oq,oj⟩,⟨o1a,o1c,o1l⟩,⟨o2a,o2c,o2l⟩⟩,Zs,Zr,ZF,Zz,ZM,a9,Zv,Zu,Zn,Zy,Zm,Zw,⟨Zp,Zo,Zl⟩,ZD,ZG⟩).table=⟨fa,fi⟩ from hfi] at h3
     refine ⟨_,M5,[(bw,rowO (ZR.segs ⟨⟨⟨⟨oa,oi⟩,⟨oq,oj⟩,⟨o1a,o1c,o1l⟩,⟨o2a,o2c,o2l⟩⟩,Zs,Zr,ZF,Zz,(nxR ZM),fa,(nxR ZM),Zu,Zn,Zy,Zm,Zw,⟨Zp,Zo,Zl⟩,ZD,ZG⟩,⟨o9a,o9c,o9l⟩⟩) 68)],rfl,((hM2.trans hm3).trans hm5),hw.c,rfl,⟨⟨⟨oa,oi⟩,⟨oq,oj⟩,⟨o1a,o1c,o1l⟩,⟨o2a,o2c,o2l⟩⟩,Zs,Zr,ZF,Zz,(nxR ZM),fa,(nxR ZM),Zu,Zn,Zy,Zm,Zw,⟨Zp,Zo,Zl⟩,ZD,ZG⟩,⟨o9a,o9c,o9l⟩,rfl,?_,?_,⟨okt.mono hm5,(k9.mono hm3).mono hm5⟩,k9o,fun y hy=>?_⟩
     ·rw [h3] <;> rfl
     ·rw [h3]
      show sndl o9l=_
      rw [hl9];rfl
     ·simp only at hy
      rw [hl9] at hy
      obtain rfl:=List.mem_singleton.1 hy
      exact ⟨⟨SlK.nil,SlK.nil⟩⟩
    ·replace hc8:=dF hc8
     (exfalso;omega)
end Go.Proofs.YtajmnjefajknoaaGreat
namespace Go.Proofs.YtajmnjefajknoaaGreat
open Go.Esp
theorem F.ok19:okFn Tryz.prog 19=true:=by kernel_rfl
theorem F.ok87:okFn Tryz.prog 87=true:=by kernel_rfl
theorem F.ok88:okFn Tryz.prog 88=true:=by kernel_rfl
theorem fix_ok (M:Mem) (bw:Nat) (Za:Int) (Zc:Plc) (Zf:Int) (Zh:Plc) (Zj Ze Zp:Option Addr) (Zi Zd Zo:Nat) (Zg Zb:List ZE) (Zl:List Int) (Zs:Int) (Zr:Bool) (ZF Zz ZM ZB Zv Zu Zn Zy Zm:Int) (Zw:Plc) (ZD ZG:Int) (Yk:ZT.ok M ⟨⟨Za,Zc⟩,⟨Zf,Zh⟩,⟨Zj,Zi,Zg⟩,⟨Ze,Zd,Zb⟩⟩) (hbig:Zg.length≤40∧Zb.length≤200) (hcu:0≤Zz∧Zz≤159) (hav:Hp) (hA:OSl 3 1 (.slice Zp Zl.length Zo) hav (Zl.map (oneI .i64))) (hLa:Zl.length≤900):Fh Tryz.prog 34 [.pointer (some ⟨bw,0,none⟩)] M ((bw,rowO (ZR.segs ⟨⟨⟨⟨Za,Zc⟩,⟨Zf,Zh⟩,⟨Zj,Zi,Zg⟩,⟨Ze,Zd,Zb⟩⟩,Zs,Zr,ZF,Zz,ZM,ZB,Zv,Zu,Zn,Zy,Zm,Zw,⟨Zp,Zo,Zl⟩,ZD,ZG⟩,⟨none,0,[]⟩⟩) 68)::hav) (fun M' v Hout=>v=.tuple #[]∧WkF bw 68 M' Hout (fixN (ZP.nd ⟨⟨⟨Za,Zc⟩,⟨Zf,Zh⟩,⟨Zj,Zi,Zg⟩,⟨Ze,Zd,Zb⟩⟩,Zs,Zr,ZF,Zz,ZM,ZB,Zv,Zu,Zn,Zy,Zm,Zw,⟨Zp,Zo,Zl⟩,ZD,ZG⟩))):=by
  obtain ⟨kn,rfl⟩:∃ kn:Nat,Zz=(kn:Int):=⟨Zz.toNat,by omega⟩
  refine XQ (fun H=>(bw,rowO (ZR.segs ⟨⟨⟨⟨Za,Zc⟩,⟨Zf,Zh⟩,⟨Zj,Zi,Zg⟩,⟨Ze,Zd,Zb⟩⟩,Zs,Zr,ZF,(kn:Int),ZM,ZB,Zv,Zu,Zn,Zy,Zm,Zw,⟨Zp,Zo,Zl⟩,ZD,ZG⟩,⟨none,0,[]⟩⟩) 68)::(hav++H)) (fun _=>by simp only [List.append_assoc,List.cons_append,List.nil_append]) Tryz.func34 rfl Tryz.ntmps34 rfl ?_;intro H
  iterate 2 refine ZJ ?_
  refine Zq (l:=[0,1,2,3,4,5]) rfl ?_;refine ZA ?_;refine ZU ?_;refine Zk F.foff68_0 ?_;refine Zk F.foff32_2 ?_;refine ZI F.lay4 ?_;refine XA ?_;refine Zx (Zt (Y_pk [14,0] ?_))
  refine YA rfl (fun hc1=>?_) (fun hc1=>?_)
  ·skip
   refine Yu (YY ?_)
   refine Yj (.inr rfl) (.nil) (fun w hw=>?_)
   obtain ⟨M9,j1,j2,j3⟩:=OSl.frz (H:=(bw,rowO (ZR.segs ⟨⟨⟨⟨Za,Zc⟩,⟨Zf,Zh⟩,⟨Zj,Zi,Zg⟩,⟨Ze,Zd,Zb⟩⟩,Zs,Zr,ZF,(kn:Int),ZM,ZB,Zv,Zu,Zn,Zy,Zm,Zw,⟨Zp,Zo,Zl⟩,ZD,ZG⟩,⟨none,0,[]⟩⟩) 68)::H) hA (hw.c)
   refine ⟨_,M9,[(bw,rowO (ZR.segs ⟨⟨⟨⟨Za,Zc⟩,⟨Zf,Zh⟩,⟨Zj,Zi,Zg⟩,⟨Ze,Zd,Zb⟩⟩,Zs,Zr,ZF,(kn:Int),ZM,ZB,Zv,Zu,Zn,Zy,Zm,Zw,⟨Zp,Zo,Zl⟩,ZD,ZG⟩,⟨none,0,[]⟩⟩) 68)],rfl,j1,j2,rfl,⟨⟨⟨Za,Zc⟩,⟨Zf,Zh⟩,⟨Zj,Zi,Zg⟩,⟨Ze,Zd,Zb⟩⟩,Zs,Zr,ZF,(kn:Int),ZM,ZB,Zv,Zu,Zn,Zy,Zm,Zw,⟨Zp,Zo,Zl⟩,ZD,ZG⟩,⟨none,0,[]⟩,rfl,?_,?_,⟨Yk.mono j1,j3⟩,SlK.nil,fun y hy=>by cases hy⟩
   ·rw [fix_out (n:=ZP.nd ⟨⟨⟨Za,Zc⟩,⟨Zf,Zh⟩,⟨Zj,Zi,Zg⟩,⟨Ze,Zd,Zb⟩⟩,Zs,Zr,ZF,(kn:Int),ZM,ZB,Zv,Zu,Zn,Zy,Zm,Zw,⟨Zp,Zo,Zl⟩,ZD,ZG⟩) (show Zr=false by simp_all)]
   ·rw [fix_out (n:=ZP.nd ⟨⟨⟨Za,Zc⟩,⟨Zf,Zh⟩,⟨Zj,Zi,Zg⟩,⟨Ze,Zd,Zb⟩⟩,Zs,Zr,ZF,(kn:Int),ZM,ZB,Zv,Zu,Zn,Zy,Zm,Zw,⟨Zp,Zo,Zl⟩,ZD,ZG⟩) (show Zr=false by simp_all)] <;> rfl
  ·skip
   refine Yz (Zt (Y_pk [0] ?_))
   iterate 2 refine ZJ ?_
   refine Zq (l:=[0,1,2,3,4,5]) rfl ?_;refine ZA ?_;refine ZU ?_;refine Zk F.foff68_0 ?_;refine Zk F.foff32_10 ?_;refine ZI F.lay3 ?_;refine YC ?_;refine Zx (Zt (Y_pk [20,0] ?_))
   refine YA rfl (fun hc2=>?_) (fun hc2=>?_)
   ·replace hc2:=dT hc2
    refine Zq (l:=[0,1,2,3,4]) rfl ?_;refine ZA ?_;refine ZU ?_;refine Zk F.foff68_0 ?_;refine Zk F.foff32_13 ?_;refine Yi F.lay30 ?_;refine Zx (Zt (Y_pk [0] ?_));refine ZJ ?_
    have hM2:=Mem.le.refl M
    have k9:SlK M (oneI .i64) 1 ⟨none,0,[]⟩:=SlK.nil
    refine Xn (l:=[0,1,2,3,4,5]) [5] rfl ?_
    iterate 2 refine ZA ?_
    refine ZU ?_;refine Zk F.foff68_0 ?_;refine Zk F.foff32_10 ?_;refine WA rfl rfl rfl F.ok81 rfl (lostF_ok M bw Za Zc Zf Zh Zj Ze none Zi Zd 0 Zg Zb [] Zs Zr ZF (kn:Int) ZM ZB Zv Zu Zn Zy Zm Zw ZD ZG (Yk.mono hM2) hbig) (by repeat first|exact Rem.here _|exact Rem.two|apply Rem.skip|apply Rem.over) (Yv rfl) ?_
    rintro _ M3 hs3 hm3 ⟨rfl,⟨⟨oa,oi⟩,⟨oq,oj⟩,⟨o1a,o1c,o1l⟩,⟨o2a,o2c,o2l⟩⟩,a9,rfl,okt,hlo⟩
    have hbo:=lost_big (congrArg Prod.fst hlo) hbig
    have h2:=fix_nil (n:=ZP.nd ⟨⟨⟨Za,Zc⟩,⟨Zf,Zh⟩,⟨Zj,Zi,Zg⟩,⟨Ze,Zd,Zb⟩⟩,Zs,Zr,ZF,(kn:Int),ZM,ZB,Zv,Zu,Zn,Zy,Zm,Zw,⟨Zp,Zo,Zl⟩,ZD,ZG⟩) hlo (show Zy=-1 by omega)
    simp only [List.append_assoc,List.cons_append,List.nil_append]
    refine Zx (Wl ?_);refine Zt (Y_pk [0] ?_);refine ZJ (Zq (l:=[0,1,2,3,4,5,6,7,8,9,10,11]) rfl ?_);refine ZA ?_;refine ZU ?_;refine Zk F.foff68_0 ?_;refine Zk F.foff32_4 ?_;refine ZI F.lay3 ?_;refine X_fs rfl rfl F.ok85 rfl (Power_ok_in _ kn (by omega)) rfl ?_
    rintro _ rfl
    refine ZA ?_
    iterate 2 refine XF ?_
    refine YW F.zero23 ?_;intro b3
    refine Yi F.lay23 ?_;refine ZC ?_;refine Zx (Zt (Y_pk [2,0] ?_));refine ZJ (YF (l:=[0,1,2,3,4,5,6,7,8,9,10]) #[0,1,3,7,15,31,63,0,255,0,1023] _ rfl (by kernel_rfl) (by kernel_rfl) St.drawn (fun _ h=>h) ?_);refine ZA ?_;refine ZU ?_;refine Zk F.foff68_0 ?_;refine Zk F.foff32_0 ?_;refine Zk F.foff28_0 ?_;refine Zk F.foff25_1 ?_
    iterate 2 refine ZI F.lay23 ?_
    refine X_fs rfl rfl F.ok86 rfl (Plus_ok _ _ _) rfl ?_
    rintro _ rfl
    refine YW F.zero23 ?_;intro b4
    refine Yi F.lay23 ?_;refine Zx (Zt (Y_pk [4,0] ?_))
    iterate 2 refine ZJ ?_
    refine YF (l:=[0,1,2,3,4,5,6,7,8,9,10,11,12]) #[0,1,3,7,15,0,63,127,255,255,0,1535,4095] _ rfl (by kernel_rfl) (by kernel_rfl) St.drawn (fun _ h=>h) ?_;refine ZA ?_;refine ZU ?_;refine Zk F.foff68_0 ?_;refine Zk F.foff32_0 ?_;refine ZI F.lay28 ?_;refine ZI F.lay23 ?_;refine X_fs rfl rfl F.ok19 rfl (Done_ok _ ⟨⟨oa,oi⟩,⟨oq,oj⟩,⟨o1a,o1c,o1l⟩,⟨o2a,o2c,o2l⟩⟩ (oi+powP kn) okt) rfl ?_
    rintro _ rfl
    obtain ⟨⟨⟨da,di⟩,db⟩,hd⟩:∃ x,VV (ZT.tb ⟨⟨oa,oi⟩,⟨oq,oj⟩,⟨o1a,o1c,o1l⟩,⟨o2a,o2c,o2l⟩⟩) (oi+powP kn)=x:=⟨_,rfl⟩
    rw [hd]
    refine ZA ?_
    iterate 2 refine XF ?_
    refine YW F.zero25 ?_;intro b5
    refine Yi F.lay25 ?_;refine ZC ?_;refine Zx (Zt (Y_pk [6,5,4,0] ?_));refine ZJ (Zq (l:=[0]) rfl ?_);refine ZA ?_;refine Zx (Zt (Y_pk [66,5,4,0] ?_))
    refine YA rfl (fun hc6=>?_) (fun hc6=>?_)
    ·skip
     simp only [ZE.eta,ZT.eta,ZP.eta,ZQ.eta,Yw.eta,ZR.eta,YM.eta,ZY.eta] at hc6
     refine ZJ (Xn (l:=[0,1,2]) [2] rfl ?_);refine ZA ?_;refine ZI F.lay25 ?_;refine WA rfl rfl rfl F.ok87 rfl (point_ok M3 bw oa oi oq oj o1a o2a none o1c o2c 0 o1l o2l [] Zs Zr ZF (kn:Int) ZM ZB Zv Zu Zn a9 Zm Zw ZD ZG okt ⟨da,di⟩) (by repeat first|exact Rem.here _|exact Rem.two|apply Rem.skip|apply Rem.over) (Yv rfl) ?_
     rintro _ M4 hs4 hm4 ⟨rfl,⟨⟨wa,wi⟩,⟨wq,wj⟩,⟨w1a,w1c,w1l⟩,⟨w2a,w2c,w2l⟩⟩,c9,rfl,okl,hv1⟩
     simp only [List.append_assoc,List.cons_append,List.nil_append]
     refine Zx (Wl ?_);refine Zt (Y_pk [4,0] ?_);refine Yu (YY ?_)
     refine Yj (.inr rfl) (.nil) (fun w hw=>?_)
     have h3:=fix_eq (n:=ZP.nd ⟨⟨⟨Za,Zc⟩,⟨Zf,Zh⟩,⟨Zj,Zi,Zg⟩,⟨Ze,Zd,Zb⟩⟩,Zs,Zr,ZF,(kn:Int),ZM,ZB,Zv,Zu,Zn,Zy,Zm,Zw,⟨Zp,Zo,Zl⟩,ZD,ZG⟩) (m:=(ZP.nd ⟨⟨⟨oa,oi⟩,⟨oq,oj⟩,⟨o1a,o1c,o1l⟩,⟨o2a,o2c,o2l⟩⟩,Zs,Zr,ZF,(kn:Int),ZM,ZB,Zv,Zu,Zn,a9,Zm,Zw,⟨none,0,[]⟩,ZD,ZG⟩)) (id:=(oi+powP kn)) (by show Zr=true;simp_all) h2 rfl
     rw [show VV (ZP.nd ⟨⟨⟨oa,oi⟩,⟨oq,oj⟩,⟨o1a,o1c,o1l⟩,⟨o2a,o2c,o2l⟩⟩,Zs,Zr,ZF,(kn:Int),ZM,ZB,Zv,Zu,Zn,a9,Zm,Zw,⟨none,0,[]⟩,ZD,ZG⟩).table (oi+powP kn)=_ from hd] at h3
     rw [if_pos (by show db=true;simp_all)] at h3
     exact ⟨_,M4,[(bw,rowO (ZR.segs ⟨⟨⟨⟨wa,wi⟩,⟨wq,wj⟩,⟨w1a,w1c,w1l⟩,⟨w2a,w2c,w2l⟩⟩,Zs,Zr,ZF,c9,ZM,ZB,Zv,Zu,Zn,a9,Zm,Zw,⟨none,0,[]⟩,ZD,ZG⟩,⟨none,0,[]⟩⟩) 68)],rfl,(hM2.trans hm3).trans hm4,hw.c,rfl,⟨⟨⟨wa,wi⟩,⟨wq,wj⟩,⟨w1a,w1c,w1l⟩,⟨w2a,w2c,w2l⟩⟩,Zs,Zr,ZF,c9,ZM,ZB,Zv,Zu,Zn,a9,Zm,Zw,⟨none,0,[]⟩,ZD,ZG⟩,⟨none,0,[]⟩,rfl,by rw [h3];exact hv1,by rw [h3];rfl,⟨okl,(k9.mono hm3).mono hm4⟩,SlK.nil,fun y hy=>by cases hy⟩
    ·skip
     simp only [ZE.eta,ZT.eta,ZP.eta,ZQ.eta,Yw.eta,ZR.eta,YM.eta,ZY.eta] at hc6
     refine Yz (Zt (Y_pk [4,0] ?_));refine ZJ (YF (l:=[0,1,2,3,4,5,6,7,8,9,10,11,12,13,14,15,16,17]) #[0,1,3,7,15,0,0,64,192,448,960,2047,4095,8191,8191,0,49151,131071] _ rfl (by kernel_rfl) (by kernel_rfl) St.drawn (fun _ h=>h) ?_);refine ZA ?_;refine ZU ?_;refine Zk F.foff68_0 ?_;refine Zk F.foff32_0 ?_;refine ZI F.lay28 ?_;refine ZI F.lay23 ?_;refine ZA ?_;refine ZU ?_;refine Zk F.foff68_0 ?_;refine Zk F.foff32_13 ?_;refine ZI F.lay30 ?_;refine X_fn rfl rfl F.ok88 rfl (Nearest_ok _ ⟨⟨oa,oi⟩,⟨oq,oj⟩,⟨o1a,o1c,o1l⟩,⟨o2a,o2c,o2l⟩⟩ (oi+powP kn) ⟨none,0,[]⟩ okt (k9.mono hm3) hbo) rfl ?_
     rintro _ M4 hm4 rfl
     obtain ⟨⟨⟨qa,qi⟩,qb⟩,hq⟩:∃ x,WF (ZT.tb ⟨⟨oa,oi⟩,⟨oq,oj⟩,⟨o1a,o1c,o1l⟩,⟨o2a,o2c,o2l⟩⟩) (oi+powP kn) (⟨none,0,[]⟩:Sl Int).l=x:=⟨_,rfl⟩
     rw [hq]
     refine ZA ?_
     iterate 2 refine XF ?_
     refine YW F.zero25 ?_;intro b7
     refine Yi F.lay25 ?_;refine ZC ?_;refine Zx (Zt (Y_pk [8,7,4,0] ?_))
     iterate 2 refine ZJ ?_
     refine Zq (l:=[0,1]) rfl ?_;refine ZA ?_;refine XA ?_;refine Zx (Zt (Y_pk [86,7,4,0] ?_))
     refine YA rfl (fun hc8=>?_) (fun hc8=>?_)
     ·skip
      simp only [ZE.eta,ZT.eta,ZP.eta,ZQ.eta,Yw.eta,ZR.eta,YM.eta,ZY.eta] at hc8
      refine ZJ (Zq (l:=[0,1,2,3,4]) rfl ?_);refine ZA ?_;refine ZU ?_;refine Zk F.foff68_0 ?_;refine Zk F.foff32_4 ?_;refine Yi F.lay3 ?_;refine Zx (Zt (Y_pk [7,4,0] ?_));refine Yu (YY ?_)
      refine Yj (.inr rfl) (.nil) (fun w hw=>?_)
      have h3:=fix_eq (n:=ZP.nd ⟨⟨⟨Za,Zc⟩,⟨Zf,Zh⟩,⟨Zj,Zi,Zg⟩,⟨Ze,Zd,Zb⟩⟩,Zs,Zr,ZF,(kn:Int),ZM,ZB,Zv,Zu,Zn,Zy,Zm,Zw,⟨Zp,Zo,Zl⟩,ZD,ZG⟩) (m:=(ZP.nd ⟨⟨⟨oa,oi⟩,⟨oq,oj⟩,⟨o1a,o1c,o1l⟩,⟨o2a,o2c,o2l⟩⟩,Zs,Zr,ZF,(kn:Int),ZM,ZB,Zv,Zu,Zn,a9,Zm,Zw,⟨none,0,[]⟩,ZD,ZG⟩)) (id:=(oi+powP kn)) (by show Zr=true;simp_all) h2 rfl
      rw [show VV (ZP.nd ⟨⟨⟨oa,oi⟩,⟨oq,oj⟩,⟨o1a,o1c,o1l⟩,⟨o2a,o2c,o2l⟩⟩,Zs,Zr,ZF,(kn:Int),ZM,ZB,Zv,Zu,Zn,a9,Zm,Zw,⟨none,0,[]⟩,ZD,ZG⟩).table (oi+powP kn)=_ from hd] at h3
      rw [if_neg (by show ¬db=true;simp_all),show WF (ZP.nd ⟨⟨⟨oa,oi⟩,⟨oq,oj⟩,⟨o1a,o1c,o1l⟩,⟨o2a,o2c,o2l⟩⟩,Zs,Zr,ZF,(kn:Int),ZM,ZB,Zv,Zu,Zn,a9,Zm,Zw,⟨none,0,[]⟩,ZD,ZG⟩).table (oi+powP kn) (ZP.nd ⟨⟨⟨oa,oi⟩,⟨oq,oj⟩,⟨o1a,o1c,o1l⟩,⟨o2a,o2c,o2l⟩⟩,Zs,Zr,ZF,(kn:Int),ZM,ZB,Zv,Zu,Zn,a9,Zm,Zw,⟨none,0,[]⟩,ZD,ZG⟩).avoid=_ from hq] at h3
      rw [if_pos (by show qb=false;simp_all)] at h3
      refine ⟨_,M4,[(bw,rowO (ZR.segs ⟨⟨⟨⟨oa,oi⟩,⟨oq,oj⟩,⟨o1a,o1c,o1l⟩,⟨o2a,o2c,o2l⟩⟩,Zs,Zr,ZF,0,ZM,ZB,Zv,Zu,Zn,a9,Zm,Zw,⟨none,0,[]⟩,ZD,ZG⟩,⟨none,0,[]⟩⟩) 68)],rfl,((hM2.trans hm3).trans hm4),hw.c,rfl,⟨⟨⟨oa,oi⟩,⟨oq,oj⟩,⟨o1a,o1c,o1l⟩,⟨o2a,o2c,o2l⟩⟩,Zs,Zr,ZF,0,ZM,ZB,Zv,Zu,Zn,a9,Zm,Zw,⟨none,0,[]⟩,ZD,ZG⟩,⟨none,0,[]⟩,rfl,?_,?_,⟨okt.mono hm4,(k9.mono hm3).mono hm4⟩,SlK.nil,fun y hy=>by cases hy⟩
      ·rw [h3] <;> rfl
      ·rw [h3] <;> rfl
     ·skip
      simp only [ZE.eta,ZT.eta,ZP.eta,ZQ.eta,Yw.eta,ZR.eta,YM.eta,ZY.eta] at hc8
      refine Yz (Zt (Y_pk [7,4,0] ?_));refine ZJ (Zq (l:=[0,1,2,3,4,5,6,7,8,9,10]) rfl ?_)
      iterate 2 refine ZA ?_
      refine ZI F.lay23 ?_;refine ZU ?_;refine Zk F.foff68_0 ?_;refine Zk F.foff32_12 ?_;refine Yi F.lay23 ?_;refine ZU ?_;refine Zk F.foff68_0 ?_;refine Zk F.foff32_14 ?_;refine Yi F.lay3 ?_;refine Zx (Zt (Y_pk [7,0] ?_));refine Xn (l:=[0,1,2,3]) [3] rfl ?_;refine ZA ?_;refine Zk F.foff25_0 ?_;refine ZI F.lay3 ?_;refine WA rfl rfl rfl F.ok89 rfl (seek_ok M4 bw oa oi oq oj o1a o2a none o1c o2c 0 o1l o2l [] Zs Zr ZF (kn:Int) ZM ZB Zv Zu Zn a9 Zm (oi+powP kn) 0 ZG (okt.mono hm4) ((k9.mono hm3).mono hm4) (by (simp;done)) qa) (by repeat first|exact Rem.here _|exact Rem.two|apply Rem.skip|apply Rem.over) (Yv rfl) ?_
      rintro _ M5 hs5 hm5 ⟨rfl,⟨⟨⟨YH,YO⟩,⟨YI,YP⟩,⟨YT,YS,YR⟩,⟨YL,YK,YJ⟩⟩,XN,XR,Wp,XM,WS,Wd,XO,XJ,Xt,XK,Xu,XL,⟨Xx,Xw,Xv⟩,Wo,Wn⟩,⟨o_a,o_c,o_l⟩,rfl,hv1,hv2,okv,oko,okq⟩
      simp only [List.append_assoc,List.cons_append,List.nil_append]
      refine Zx (Wl ?_)
      refine Yj (.inl rfl) (.nil) (fun w hw=>?_)
      have h3:=fix_eq (n:=ZP.nd ⟨⟨⟨Za,Zc⟩,⟨Zf,Zh⟩,⟨Zj,Zi,Zg⟩,⟨Ze,Zd,Zb⟩⟩,Zs,Zr,ZF,(kn:Int),ZM,ZB,Zv,Zu,Zn,Zy,Zm,Zw,⟨Zp,Zo,Zl⟩,ZD,ZG⟩) (m:=(ZP.nd ⟨⟨⟨oa,oi⟩,⟨oq,oj⟩,⟨o1a,o1c,o1l⟩,⟨o2a,o2c,o2l⟩⟩,Zs,Zr,ZF,(kn:Int),ZM,ZB,Zv,Zu,Zn,a9,Zm,Zw,⟨none,0,[]⟩,ZD,ZG⟩)) (id:=(oi+powP kn)) (by show Zr=true;simp_all) h2 rfl
      rw [show VV (ZP.nd ⟨⟨⟨oa,oi⟩,⟨oq,oj⟩,⟨o1a,o1c,o1l⟩,⟨o2a,o2c,o2l⟩⟩,Zs,Zr,ZF,(kn:Int),ZM,ZB,Zv,Zu,Zn,a9,Zm,Zw,⟨none,0,[]⟩,ZD,ZG⟩).table (oi+powP kn)=_ from hd] at h3
      rw [if_neg (by show ¬db=true;simp_all),show WF (ZP.nd ⟨⟨⟨oa,oi⟩,⟨oq,oj⟩,⟨o1a,o1c,o1l⟩,⟨o2a,o2c,o2l⟩⟩,Zs,Zr,ZF,(kn:Int),ZM,ZB,Zv,Zu,Zn,a9,Zm,Zw,⟨none,0,[]⟩,ZD,ZG⟩).table (oi+powP kn) (ZP.nd ⟨⟨⟨oa,oi⟩,⟨oq,oj⟩,⟨o1a,o1c,o1l⟩,⟨o2a,o2c,o2l⟩⟩,Zs,Zr,ZF,(kn:Int),ZM,ZB,Zv,Zu,Zn,a9,Zm,Zw,⟨none,0,[]⟩,ZD,ZG⟩).avoid=_ from hq] at h3
      rw [if_neg (by show ¬qb=false;simp_all)] at h3
      exact ⟨_,M5,[(bw,rowO (ZR.segs ⟨⟨⟨⟨YH,YO⟩,⟨YI,YP⟩,⟨YT,YS,YR⟩,⟨YL,YK,YJ⟩⟩,XN,XR,Wp,XM,WS,Wd,XO,XJ,Xt,XK,Xu,XL,⟨Xx,Xw,Xv⟩,Wo,Wn⟩,⟨o_a,o_c,o_l⟩⟩) 68)],rfl,(((hM2.trans hm3).trans hm4).trans hm5),hw.c,rfl,⟨⟨⟨YH,YO⟩,⟨YI,YP⟩,⟨YT,YS,YR⟩,⟨YL,YK,YJ⟩⟩,XN,XR,Wp,XM,WS,Wd,XO,XJ,Xt,XK,Xu,XL,⟨Xx,Xw,Xv⟩,Wo,Wn⟩,⟨o_a,o_c,o_l⟩,rfl,by rw [h3];exact hv1,by rw [h3];exact hv2,okv,oko,okq⟩
   ·replace hc2:=dF hc2
    refine Xn (l:=[0,1,2,3,4,5,6]) [6] rfl ?_
    iterate 2 refine ZA ?_
    refine ZU ?_;refine Zk F.foff68_0 ?_;refine Zk F.foff32_10 ?_;refine ZI F.lay3 ?_;refine WA rfl rfl rfl F.ok84 rfl (shun_ok M bw _ _ _ _ _ _ _ _ _ _ _ _ _ _ _ _ _ _ _ _ _ _ _ _ _ _ _ hav hA (by omega) Zy) (by repeat first|exact Rem.here _|exact Rem.two|apply Rem.skip|apply Rem.over) (Yv rfl) ?_
    rintro _ M1 hs1 hm1 ⟨hM1,rfl,⟨s_a,s_c,s_l⟩,hs9,rfl,ho9,hl9⟩
    subst M1
    simp only [Sl.val] at ho9
    simp only at hl9
    have hLs:s_l.length≤901:=shun_len hl9 hLa
    simp only [List.append_assoc,List.cons_append,List.nil_append]
    refine Zx (Wl ?_);refine Zt (Y_pk [0] ?_);refine ZJ ?_
    refine C_frz ho9 (by repeat first|exact Rem.here _|exact Rem.two|apply Rem.skip|apply Rem.over) (fun M2 hM2 k9=>?_)
    refine Xn (l:=[0,1,2,3,4,5]) [5] rfl ?_
    iterate 2 refine ZA ?_
    refine ZU ?_;refine Zk F.foff68_0 ?_;refine Zk F.foff32_10 ?_;refine WA rfl rfl rfl F.ok81 rfl (lostF_ok M2 bw Za Zc Zf Zh Zj Ze s_a Zi Zd s_c Zg Zb s_l Zs Zr ZF (kn:Int) ZM ZB Zv Zu Zn Zy Zm Zw ZD ZG (Yk.mono hM2) hbig) (by repeat first|exact Rem.here _|exact Rem.two|apply Rem.skip|apply Rem.over) (Yv rfl) ?_
    rintro _ M3 hs3 hm3 ⟨rfl,⟨⟨oa,oi⟩,⟨oq,oj⟩,⟨o1a,o1c,o1l⟩,⟨o2a,o2c,o2l⟩⟩,a9,rfl,okt,hlo⟩
    have hbo:=lost_big (congrArg Prod.fst hlo) hbig
    have h2:=fix_shun (n:=ZP.nd ⟨⟨⟨Za,Zc⟩,⟨Zf,Zh⟩,⟨Zj,Zi,Zg⟩,⟨Ze,Zd,Zb⟩⟩,Zs,Zr,ZF,(kn:Int),ZM,ZB,Zv,Zu,Zn,Zy,Zm,Zw,⟨Zp,Zo,Zl⟩,ZD,ZG⟩) (l:=s_l) hlo (show Zy≠-1 by omega) hl9
    simp only [List.append_assoc,List.cons_append,List.nil_append]
    refine Zx (Wl ?_);refine Zt (Y_pk [0] ?_);refine ZJ (Zq (l:=[0,1,2,3,4,5,6,7,8,9,10,11]) rfl ?_);refine ZA ?_;refine ZU ?_;refine Zk F.foff68_0 ?_;refine Zk F.foff32_4 ?_;refine ZI F.lay3 ?_;refine X_fs rfl rfl F.ok85 rfl (Power_ok_in _ kn (by omega)) rfl ?_
    rintro _ rfl
    refine ZA ?_
    iterate 2 refine XF ?_
    refine YW F.zero23 ?_;intro b9
    refine Yi F.lay23 ?_;refine ZC ?_;refine Zx (Zt (Y_pk [2,0] ?_));refine ZJ (YF (l:=[0,1,2,3,4,5,6,7,8,9,10]) #[0,1,3,7,15,31,63,0,255,0,1023] _ rfl (by kernel_rfl) (by kernel_rfl) St.drawn (fun _ h=>h) ?_);refine ZA ?_;refine ZU ?_;refine Zk F.foff68_0 ?_;refine Zk F.foff32_0 ?_;refine Zk F.foff28_0 ?_;refine Zk F.foff25_1 ?_
    iterate 2 refine ZI F.lay23 ?_
    refine X_fs rfl rfl F.ok86 rfl (Plus_ok _ _ _) rfl ?_
    rintro _ rfl
    refine YW F.zero23 ?_;intro b10
    refine Yi F.lay23 ?_;refine Zx (Zt (Y_pk [4,0] ?_))
    iterate 2 refine ZJ ?_
    refine YF (l:=[0,1,2,3,4,5,6,7,8,9,10,11,12]) #[0,1,3,7,15,0,63,127,255,255,0,1535,4095] _ rfl (by kernel_rfl) (by kernel_rfl) St.drawn (fun _ h=>h) ?_;refine ZA ?_;refine ZU ?_;refine Zk F.foff68_0 ?_;refine Zk F.foff32_0 ?_;refine ZI F.lay28 ?_;refine ZI F.lay23 ?_;refine X_fs rfl rfl F.ok19 rfl (Done_ok _ ⟨⟨oa,oi⟩,⟨oq,oj⟩,⟨o1a,o1c,o1l⟩,⟨o2a,o2c,o2l⟩⟩ (oi+powP kn) okt) rfl ?_
    rintro _ rfl
    obtain ⟨⟨⟨da,di⟩,db⟩,hd⟩:∃ x,VV (ZT.tb ⟨⟨oa,oi⟩,⟨oq,oj⟩,⟨o1a,o1c,o1l⟩,⟨o2a,o2c,o2l⟩⟩) (oi+powP kn)=x:=⟨_,rfl⟩
    rw [hd]
    refine ZA ?_
    iterate 2 refine XF ?_
    refine YW F.zero25 ?_;intro b11
    refine Yi F.lay25 ?_;refine ZC ?_;refine Zx (Zt (Y_pk [6,5,4,0] ?_));refine ZJ (Zq (l:=[0]) rfl ?_);refine ZA ?_;refine Zx (Zt (Y_pk [66,5,4,0] ?_))
    refine YA rfl (fun hc12=>?_) (fun hc12=>?_)
    ·skip
     simp only [ZE.eta,ZT.eta,ZP.eta,ZQ.eta,Yw.eta,ZR.eta,YM.eta,ZY.eta] at hc12
     refine ZJ (Xn (l:=[0,1,2]) [2] rfl ?_);refine ZA ?_;refine ZI F.lay25 ?_;refine WA rfl rfl rfl F.ok87 rfl (point_ok M3 bw oa oi oq oj o1a o2a s_a o1c o2c s_c o1l o2l s_l Zs Zr ZF (kn:Int) ZM ZB Zv Zu Zn a9 Zm Zw ZD ZG okt ⟨da,di⟩) (by repeat first|exact Rem.here _|exact Rem.two|apply Rem.skip|apply Rem.over) (Yv rfl) ?_
     rintro _ M4 hs4 hm4 ⟨rfl,⟨⟨wa,wi⟩,⟨wq,wj⟩,⟨w1a,w1c,w1l⟩,⟨w2a,w2c,w2l⟩⟩,c9,rfl,okl,hv1⟩
     simp only [List.append_assoc,List.cons_append,List.nil_append]
     refine Zx (Wl ?_);refine Zt (Y_pk [4,0] ?_);refine Yu (YY ?_)
     refine Yj (.inr rfl) (.nil) (fun w hw=>?_)
     have h3:=fix_eq (n:=ZP.nd ⟨⟨⟨Za,Zc⟩,⟨Zf,Zh⟩,⟨Zj,Zi,Zg⟩,⟨Ze,Zd,Zb⟩⟩,Zs,Zr,ZF,(kn:Int),ZM,ZB,Zv,Zu,Zn,Zy,Zm,Zw,⟨Zp,Zo,Zl⟩,ZD,ZG⟩) (m:=(ZP.nd ⟨⟨⟨oa,oi⟩,⟨oq,oj⟩,⟨o1a,o1c,o1l⟩,⟨o2a,o2c,o2l⟩⟩,Zs,Zr,ZF,(kn:Int),ZM,ZB,Zv,Zu,Zn,a9,Zm,Zw,⟨s_a,s_c,s_l⟩,ZD,ZG⟩)) (id:=(oi+powP kn)) (by show Zr=true;simp_all) h2 rfl
     rw [show VV (ZP.nd ⟨⟨⟨oa,oi⟩,⟨oq,oj⟩,⟨o1a,o1c,o1l⟩,⟨o2a,o2c,o2l⟩⟩,Zs,Zr,ZF,(kn:Int),ZM,ZB,Zv,Zu,Zn,a9,Zm,Zw,⟨s_a,s_c,s_l⟩,ZD,ZG⟩).table (oi+powP kn)=_ from hd] at h3
     rw [if_pos (by show db=true;simp_all)] at h3
     exact ⟨_,M4,[(bw,rowO (ZR.segs ⟨⟨⟨⟨wa,wi⟩,⟨wq,wj⟩,⟨w1a,w1c,w1l⟩,⟨w2a,w2c,w2l⟩⟩,Zs,Zr,ZF,c9,ZM,ZB,Zv,Zu,Zn,a9,Zm,Zw,⟨s_a,s_c,s_l⟩,ZD,ZG⟩,⟨none,0,[]⟩⟩) 68)],rfl,(hM2.trans hm3).trans hm4,hw.c,rfl,⟨⟨⟨wa,wi⟩,⟨wq,wj⟩,⟨w1a,w1c,w1l⟩,⟨w2a,w2c,w2l⟩⟩,Zs,Zr,ZF,c9,ZM,ZB,Zv,Zu,Zn,a9,Zm,Zw,⟨s_a,s_c,s_l⟩,ZD,ZG⟩,⟨none,0,[]⟩,rfl,by rw [h3];exact hv1,by rw [h3];rfl,⟨okl,(k9.mono hm3).mono hm4⟩,SlK.nil,fun y hy=>by cases hy⟩
    ·skip
     simp only [ZE.eta,ZT.eta,ZP.eta,ZQ.eta,Yw.eta,ZR.eta,YM.eta,ZY.eta] at hc12
     refine Yz (Zt (Y_pk [4,0] ?_));refine ZJ (YF (l:=[0,1,2,3,4,5,6,7,8,9,10,11,12,13,14,15,16,17]) #[0,1,3,7,15,0,0,64,192,448,960,2047,4095,8191,8191,0,49151,131071] _ rfl (by kernel_rfl) (by kernel_rfl) St.drawn (fun _ h=>h) ?_);refine ZA ?_;refine ZU ?_;refine Zk F.foff68_0 ?_;refine Zk F.foff32_0 ?_;refine ZI F.lay28 ?_;refine ZI F.lay23 ?_;refine ZA ?_;refine ZU ?_;refine Zk F.foff68_0 ?_;refine Zk F.foff32_13 ?_;refine ZI F.lay30 ?_;refine X_fn rfl rfl F.ok88 rfl (Nearest_ok _ ⟨⟨oa,oi⟩,⟨oq,oj⟩,⟨o1a,o1c,o1l⟩,⟨o2a,o2c,o2l⟩⟩ (oi+powP kn) ⟨s_a,s_c,s_l⟩ okt (k9.mono hm3) hbo) rfl ?_
     rintro _ M4 hm4 rfl
     obtain ⟨⟨⟨qa,qi⟩,qb⟩,hq⟩:∃ x,WF (ZT.tb ⟨⟨oa,oi⟩,⟨oq,oj⟩,⟨o1a,o1c,o1l⟩,⟨o2a,o2c,o2l⟩⟩) (oi+powP kn) (⟨s_a,s_c,s_l⟩:Sl Int).l=x:=⟨_,rfl⟩
     rw [hq]
     refine ZA ?_
     iterate 2 refine XF ?_
     refine YW F.zero25 ?_;intro b13
     refine Yi F.lay25 ?_;refine ZC ?_;refine Zx (Zt (Y_pk [8,7,4,0] ?_))
     iterate 2 refine ZJ ?_
     refine Zq (l:=[0,1]) rfl ?_;refine ZA ?_;refine XA ?_;refine Zx (Zt (Y_pk [86,7,4,0] ?_))
     refine YA rfl (fun hc14=>?_) (fun hc14=>?_)
     ·skip
      simp only [ZE.eta,ZT.eta,ZP.eta,ZQ.eta,Yw.eta,ZR.eta,YM.eta,ZY.eta] at hc14
      refine ZJ (Zq (l:=[0,1,2,3,4]) rfl ?_);refine ZA ?_;refine ZU ?_;refine Zk F.foff68_0 ?_;refine Zk F.foff32_4 ?_;refine Yi F.lay3 ?_;refine Zx (Zt (Y_pk [7,4,0] ?_));refine Yu (YY ?_)
      refine Yj (.inr rfl) (.nil) (fun w hw=>?_)
      have h3:=fix_eq (n:=ZP.nd ⟨⟨⟨Za,Zc⟩,⟨Zf,Zh⟩,⟨Zj,Zi,Zg⟩,⟨Ze,Zd,Zb⟩⟩,Zs,Zr,ZF,(kn:Int),ZM,ZB,Zv,Zu,Zn,Zy,Zm,Zw,⟨Zp,Zo,Zl⟩,ZD,ZG⟩) (m:=(ZP.nd ⟨⟨⟨oa,oi⟩,⟨oq,oj⟩,⟨o1a,o1c,o1l⟩,⟨o2a,o2c,o2l⟩⟩,Zs,Zr,ZF,(kn:Int),ZM,ZB,Zv,Zu,Zn,a9,Zm,Zw,⟨s_a,s_c,s_l⟩,ZD,ZG⟩)) (id:=(oi+powP kn)) (by show Zr=true;simp_all) h2 rfl
      rw [show VV (ZP.nd ⟨⟨⟨oa,oi⟩,⟨oq,oj⟩,⟨o1a,o1c,o1l⟩,⟨o2a,o2c,o2l⟩⟩,Zs,Zr,ZF,(kn:Int),ZM,ZB,Zv,Zu,Zn,a9,Zm,Zw,⟨s_a,s_c,s_l⟩,ZD,ZG⟩).table (oi+powP kn)=_ from hd] at h3
      rw [if_neg (by show ¬db=true;simp_all),show WF (ZP.nd ⟨⟨⟨oa,oi⟩,⟨oq,oj⟩,⟨o1a,o1c,o1l⟩,⟨o2a,o2c,o2l⟩⟩,Zs,Zr,ZF,(kn:Int),ZM,ZB,Zv,Zu,Zn,a9,Zm,Zw,⟨s_a,s_c,s_l⟩,ZD,ZG⟩).table (oi+powP kn) (ZP.nd ⟨⟨⟨oa,oi⟩,⟨oq,oj⟩,⟨o1a,o1c,o1l⟩,⟨o2a,o2c,o2l⟩⟩,Zs,Zr,ZF,(kn:Int),ZM,ZB,Zv,Zu,Zn,a9,Zm,Zw,⟨s_a,s_c,s_l⟩,ZD,ZG⟩).avoid=_ from hq] at h3
      rw [if_pos (by show qb=false;simp_all)] at h3
      refine ⟨_,M4,[(bw,rowO (ZR.segs ⟨⟨⟨⟨oa,oi⟩,⟨oq,oj⟩,⟨o1a,o1c,o1l⟩,⟨o2a,o2c,o2l⟩⟩,Zs,Zr,ZF,0,ZM,ZB,Zv,Zu,Zn,a9,Zm,Zw,⟨s_a,s_c,s_l⟩,ZD,ZG⟩,⟨none,0,[]⟩⟩) 68)],rfl,((hM2.trans hm3).trans hm4),hw.c,rfl,⟨⟨⟨oa,oi⟩,⟨oq,oj⟩,⟨o1a,o1c,o1l⟩,⟨o2a,o2c,o2l⟩⟩,Zs,Zr,ZF,0,ZM,ZB,Zv,Zu,Zn,a9,Zm,Zw,⟨s_a,s_c,s_l⟩,ZD,ZG⟩,⟨none,0,[]⟩,rfl,?_,?_,⟨okt.mono hm4,(k9.mono hm3).mono hm4⟩,SlK.nil,fun y hy=>by cases hy⟩
      ·rw [h3] <;> rfl
      ·rw [h3] <;> rfl
     ·skip
      simp only [ZE.eta,ZT.eta,ZP.eta,ZQ.eta,Yw.eta,ZR.eta,YM.eta,ZY.eta] at hc14
      refine Yz (Zt (Y_pk [7,4,0] ?_));refine ZJ (Zq (l:=[0,1,2,3,4,5,6,7,8,9,10]) rfl ?_)
      iterate 2 refine ZA ?_
      refine ZI F.lay23 ?_;refine ZU ?_;refine Zk F.foff68_0 ?_;refine Zk F.foff32_12 ?_;refine Yi F.lay23 ?_;refine ZU ?_;refine Zk F.foff68_0 ?_;refine Zk F.foff32_14 ?_;refine Yi F.lay3 ?_;refine Zx (Zt (Y_pk [7,0] ?_));refine Xn (l:=[0,1,2,3]) [3] rfl ?_;refine ZA ?_;refine Zk F.foff25_0 ?_;refine ZI F.lay3 ?_;refine WA rfl rfl rfl F.ok89 rfl (seek_ok M4 bw oa oi oq oj o1a o2a s_a o1c o2c s_c o1l o2l s_l Zs Zr ZF (kn:Int) ZM ZB Zv Zu Zn a9 Zm (oi+powP kn) 0 ZG (okt.mono hm4) ((k9.mono hm3).mono hm4) (by omega) qa) (by repeat first|exact Rem.here _|exact Rem.two|apply Rem.skip|apply Rem.over) (Yv rfl) ?_
      rintro _ M5 hs5 hm5 ⟨rfl,⟨⟨⟨YH,YO⟩,⟨YI,YP⟩,⟨YT,YS,YR⟩,⟨YL,YK,YJ⟩⟩,XN,XR,Wp,XM,WS,Wd,XO,XJ,Xt,XK,Xu,XL,⟨Xx,Xw,Xv⟩,Wo,Wn⟩,⟨o_a,o_c,o_l⟩,rfl,hv1,hv2,okv,oko,okq⟩
      simp only [List.append_assoc,List.cons_append,List.nil_append]
      refine Zx (Wl ?_)
      refine Yj (.inl rfl) (.nil) (fun w hw=>?_)
      have h3:=fix_eq (n:=ZP.nd ⟨⟨⟨Za,Zc⟩,⟨Zf,Zh⟩,⟨Zj,Zi,Zg⟩,⟨Ze,Zd,Zb⟩⟩,Zs,Zr,ZF,(kn:Int),ZM,ZB,Zv,Zu,Zn,Zy,Zm,Zw,⟨Zp,Zo,Zl⟩,ZD,ZG⟩) (m:=(ZP.nd ⟨⟨⟨oa,oi⟩,⟨oq,oj⟩,⟨o1a,o1c,o1l⟩,⟨o2a,o2c,o2l⟩⟩,Zs,Zr,ZF,(kn:Int),ZM,ZB,Zv,Zu,Zn,a9,Zm,Zw,⟨s_a,s_c,s_l⟩,ZD,ZG⟩)) (id:=(oi+powP kn)) (by show Zr=true;simp_all) h2 rfl
      rw [show VV (ZP.nd ⟨⟨⟨oa,oi⟩,⟨oq,oj⟩,⟨o1a,o1c,o1l⟩,⟨o2a,o2c,o2l⟩⟩,Zs,Zr,ZF,(kn:Int),ZM,ZB,Zv,Zu,Zn,a9,Zm,Zw,⟨s_a,s_c,s_l⟩,ZD,ZG⟩).table (oi+powP kn)=_ from hd] at h3
      rw [if_neg (by show ¬db=true;simp_all),show WF (ZP.nd ⟨⟨⟨oa,oi⟩,⟨oq,oj⟩,⟨o1a,o1c,o1l⟩,⟨o2a,o2c,o2l⟩⟩,Zs,Zr,ZF,(kn:Int),ZM,ZB,Zv,Zu,Zn,a9,Zm,Zw,⟨s_a,s_c,s_l⟩,ZD,ZG⟩).table (oi+powP kn) (ZP.nd ⟨⟨⟨oa,oi⟩,⟨oq,oj⟩,⟨o1a,o1c,o1l⟩,⟨o2a,o2c,o2l⟩⟩,Zs,Zr,ZF,(kn:Int),ZM,ZB,Zv,Zu,Zn,a9,Zm,Zw,⟨s_a,s_c,s_l⟩,ZD,ZG⟩).avoid=_ from hq] at h3
      rw [if_neg (by show ¬qb=false;simp_all)] at h3
      exact ⟨_,M5,[(bw,rowO (ZR.segs ⟨⟨⟨⟨YH,YO⟩,⟨YI,YP⟩,⟨YT,YS,YR⟩,⟨YL,YK,YJ⟩⟩,XN,XR,Wp,XM,WS,Wd,XO,XJ,Xt,XK,Xu,XL,⟨Xx,Xw,Xv⟩,Wo,Wn⟩,⟨o_a,o_c,o_l⟩⟩) 68)],rfl,(((hM2.trans hm3).trans hm4).trans hm5),hw.c,rfl,⟨⟨⟨YH,YO⟩,⟨YI,YP⟩,⟨YT,YS,YR⟩,⟨YL,YK,YJ⟩⟩,XN,XR,Wp,XM,WS,Wd,XO,XJ,Xt,XK,Xu,XL,⟨Xx,Xw,Xv⟩,Wo,Wn⟩,⟨o_a,o_c,o_l⟩,rfl,by rw [h3];exact hv1,by rw [h3];exact hv2,okv,oko,okq⟩
end Go.Proofs.YtajmnjefajknoaaGreat
namespace Go.Proofs.YtajmnjefajknoaaGreat
open Go.Esp
theorem check_ok (M:Mem) (bw:Nat) (Za:Int) (Zc:Plc) (Zf:Int) (Zh:Plc) (Zj Ze Zp:Option Addr) (Zi Zd Zo:Nat) (Zg Zb:List ZE) (Zl:List Int) (Zs:Int) (Zr:Bool) (ZF Zz ZM ZB Zv Zu Zn Zy Zm:Int) (Zw:Plc) (ZD ZG:Int) (Yk:ZT.ok M ⟨⟨Za,Zc⟩,⟨Zf,Zh⟩,⟨Zj,Zi,Zg⟩,⟨Ze,Zd,Zb⟩⟩) (hbig:Zg.length≤40∧Zb.length≤200) (htu:0≤ZG∧ZG≤999999) (hav:Hp) (hA:OSl 3 1 (.slice Zp Zl.length Zo) hav (Zl.map (oneI .i64))) (hLa:Zl.length≤900):Fh Tryz.prog 35 [.pointer (some ⟨bw,0,none⟩)] M ((bw,rowO (ZR.segs ⟨⟨⟨⟨Za,Zc⟩,⟨Zf,Zh⟩,⟨Zj,Zi,Zg⟩,⟨Ze,Zd,Zb⟩⟩,Zs,Zr,ZF,Zz,ZM,ZB,Zv,Zu,Zn,Zy,Zm,Zw,⟨Zp,Zo,Zl⟩,ZD,ZG⟩,⟨none,0,[]⟩⟩) 68)::hav) (fun M' v Hout=>v=.tuple #[]∧WkF bw 68 M' Hout (checkN (ZP.nd ⟨⟨⟨Za,Zc⟩,⟨Zf,Zh⟩,⟨Zj,Zi,Zg⟩,⟨Ze,Zd,Zb⟩⟩,Zs,Zr,ZF,Zz,ZM,ZB,Zv,Zu,Zn,Zy,Zm,Zw,⟨Zp,Zo,Zl⟩,ZD,ZG⟩))):=by
  obtain ⟨tn,rfl⟩:∃ tn:Nat,ZG=(tn:Int):=⟨ZG.toNat,by omega⟩
  refine XQ (fun H=>(bw,rowO (ZR.segs ⟨⟨⟨⟨Za,Zc⟩,⟨Zf,Zh⟩,⟨Zj,Zi,Zg⟩,⟨Ze,Zd,Zb⟩⟩,Zs,Zr,ZF,Zz,ZM,ZB,Zv,Zu,Zn,Zy,Zm,Zw,⟨Zp,Zo,Zl⟩,ZD,(tn:Int)⟩,⟨none,0,[]⟩⟩) 68)::(hav++H)) (fun _=>by simp only [List.append_assoc,List.cons_append,List.nil_append]) Tryz.func35 rfl Tryz.ntmps35 rfl ?_;intro H
  refine ZJ ?_
  refine C_frz hA (by repeat first|exact Rem.here _|exact Rem.two|apply Rem.skip|apply Rem.over) (fun M2 hM2 k9=>?_)
  refine Xn (l:=[0,1,2,3,4,5]) [5] rfl ?_
  iterate 2 refine ZA ?_
  refine ZU ?_;refine Zk F.foff68_0 ?_;refine Zk F.foff32_8 ?_;refine WA rfl rfl rfl F.ok81 rfl (lostP_ok M2 bw Za Zc Zf Zh Zj Ze Zp Zi Zd Zo Zg Zb Zl Zs Zr ZF Zz ZM ZB Zv Zu Zn Zy Zm Zw ZD (tn:Int) (Yk.mono hM2) hbig) (by repeat first|exact Rem.here _|exact Rem.two|apply Rem.skip|apply Rem.over) (Yv rfl) ?_
  rintro _ M3 hs3 hm3 ⟨rfl,⟨⟨oa,oi⟩,⟨oq,oj⟩,⟨o1a,o1c,o1l⟩,⟨o2a,o2c,o2l⟩⟩,a9,rfl,okt,hlo⟩
  have hbo:=lost_big (congrArg Prod.fst hlo) hbig
  have h2:=lost_ping (n:=ZP.nd ⟨⟨⟨Za,Zc⟩,⟨Zf,Zh⟩,⟨Zj,Zi,Zg⟩,⟨Ze,Zd,Zb⟩⟩,Zs,Zr,ZF,Zz,ZM,ZB,Zv,Zu,Zn,Zy,Zm,Zw,⟨Zp,Zo,Zl⟩,ZD,(tn:Int)⟩) hlo
  simp only [List.append_assoc,List.cons_append,List.nil_append]
  refine Zx (Wl ?_);refine Zt (Y_pk [0] ?_);refine ZJ (Zq (l:=[0,1,2,3,4,5,6]) rfl ?_);refine ZA ?_;refine ZU ?_;refine Zk F.foff68_0 ?_;refine Zk F.foff32_0 ?_;refine ZI F.lay28 ?_;refine X_fn rfl rfl F.ok90 rfl (Known_ok _ ⟨⟨oa,oi⟩,⟨oq,oj⟩,⟨o1a,o1c,o1l⟩,⟨o2a,o2c,o2l⟩⟩ okt hbo) rfl ?_
  rintro _ M4 hm4 ⟨⟨l_a,l_c,l_l⟩,rfl,hkl,okl⟩
  simp only at hkl
  have s_l:=okl.h1
  simp only at s_l
  have n_l:(l_l.map ZE.segs).length=l_l.length:=List.length_map ..
  have m_l:l_l.length≤9223372036854775807:=okl.h2
  refine ZC ?_;refine Zx (Zt (Y_pk [2,0] ?_))
  iterate 2 refine ZJ ?_
  refine Zq (l:=[0,1,2]) rfl ?_;refine ZA ?_;refine YZ F.elem26 ?_;refine YC ?_;refine Zx (Zt (Y_pk [17,2,0] ?_))
  refine YA rfl (fun hc1=>?_) (fun hc1=>?_)
  ·replace hc1:=dT hc1
   refine Yu (YY ?_)
   refine Yj (.inr rfl) (.nil) (fun w hw=>?_)
   have hl0:l_l=[]:=List.length_eq_zero_iff.1 (by omega)
   rw [hl0] at hkl
   have h3:=check_nil (n:=(ZP.nd ⟨⟨⟨Za,Zc⟩,⟨Zf,Zh⟩,⟨Zj,Zi,Zg⟩,⟨Ze,Zd,Zb⟩⟩,Zs,Zr,ZF,Zz,ZM,ZB,Zv,Zu,Zn,Zy,Zm,Zw,⟨Zp,Zo,Zl⟩,ZD,(tn:Int)⟩)) (m:=(ZP.nd ⟨⟨⟨oa,oi⟩,⟨oq,oj⟩,⟨o1a,o1c,o1l⟩,⟨o2a,o2c,o2l⟩⟩,Zs,Zr,ZF,Zz,ZM,ZB,Zv,a9,Zn,Zy,Zm,Zw,⟨Zp,Zo,Zl⟩,ZD,(tn:Int)⟩)) h2 hkl.symm
   refine ⟨_,M4,[(bw,rowO (ZR.segs ⟨⟨⟨⟨oa,oi⟩,⟨oq,oj⟩,⟨o1a,o1c,o1l⟩,⟨o2a,o2c,o2l⟩⟩,Zs,Zr,ZF,Zz,ZM,ZB,Zv,a9,Zn,Zy,Zm,Zw,⟨Zp,Zo,Zl⟩,ZD,(tn:Int)⟩,⟨none,0,[]⟩⟩) 68)],rfl,((hM2.trans hm3).trans hm4),hw.c,rfl,⟨⟨⟨oa,oi⟩,⟨oq,oj⟩,⟨o1a,o1c,o1l⟩,⟨o2a,o2c,o2l⟩⟩,Zs,Zr,ZF,Zz,ZM,ZB,Zv,a9,Zn,Zy,Zm,Zw,⟨Zp,Zo,Zl⟩,ZD,(tn:Int)⟩,⟨none,0,[]⟩,rfl,?_,?_,⟨okt.mono hm4,(k9.mono hm3).mono hm4⟩,SlK.nil,fun y hy=>by cases hy⟩
   ·rw [h3] <;> rfl
   ·rw [h3] <;> rfl
  ·replace hc1:=dF hc1
   refine Yz (Zt (Y_pk [2,0] ?_));refine ZJ ?_
   obtain ⟨kk,hkt⟩:∃ kk,tn % l_l.length=kk:=⟨_,rfl⟩
   have hkk:kk<l_l.length:=by rw [← hkt];exact Nat.mod_lt _ (by omega)
   refine Zq (l:=[0,1,2,3,4,5,6,7,8,9,10,11,12,13,14,15,16]) rfl ?_
   iterate 3 refine ZA ?_
   refine ZU ?_;refine Zk F.foff68_0 ?_;refine Zk F.foff32_15 ?_;refine ZI F.lay3 ?_;refine ZA ?_;refine YZ F.elem26 ?_;refine X_rem rfl rfl rfl rfl (by omega) (by exact rem_nn (by omega)) rfl ?_;refine VF 27 rfl (show _=Value.int .i64 (kk:Int) from by rw [← hkt];rfl) ?_;refine Xa rfl rfl rfl rfl F.elem26 (by rfl) (by omega) (by exact SlM.plain (by assumption) (by (simp;omega))) rfl ?_;refine XX rfl rfl rfl (by exact SlM.plain (by assumption) (by (simp;omega))) F.foff25_0 rfl ?_;refine Wb rfl rfl rfl (by assumption) (by exact WB (by omega)) F.lay3 rfl rfl rfl ?_;refine ZU ?_;refine Zk F.foff68_0 ?_;refine Zk F.foff32_8 ?_;refine Yi F.lay3 ?_;refine Zx (Zt (Y_pk [0] ?_));refine ZJ (Xn (l:=[0,1,2,3,4,5,6,7,8,9,10,11,12]) [8] rfl ?_)
   iterate 3 refine ZA ?_
   refine ZU ?_;refine Zk F.foff68_0 ?_;refine Zk F.foff32_8 ?_;refine ZI F.lay3 ?_;refine Xq rfl rfl F.bld44 (.cons rfl (by constructor) .nil) rfl rfl ?_;refine WA rfl rfl rfl F.ok83 rfl (request_ok M4 bw oa oi oq oj o1a o2a Zp o1c o2c Zo o1l o2l Zl Zs Zr ZF Zz ZM ZB Zv l_l[kk].addr Zn Zy Zm Zw ZD (tn:Int) l_l[kk].addr ⟨6,⟨0,0⟩,0,0,⟨none,0,[]⟩,false,⟨0,0⟩,⟨none,0,[]⟩⟩) (by repeat first|exact Rem.here _|exact Rem.two|apply Rem.skip|apply Rem.over) (Yv rfl) ?_
   rintro _ M5 hs5 hm5 ⟨rfl,⟨o9a,o9c,o9l⟩,rfl,k9o,hl9⟩
   simp only at hl9
   simp only [List.append_assoc,List.cons_append,List.nil_append]
   refine ZU ?_;refine Zk F.foff68_0 ?_;refine Zk F.foff32_9 ?_;refine Yi F.lay29 ?_;refine Zx (Wl ?_);refine Zt (Y_pk [0] ?_);refine Zq (l:=[0,1,2,3,4,5,6,7,8,9,10,11]) rfl ?_
   iterate 2 refine ZA ?_
   refine ZU ?_;refine Zk F.foff68_0 ?_;refine Zk F.foff32_15 ?_;refine ZI F.lay3 ?_;refine XY rfl rfl rfl rfl rfl (by exact Xl (by decide) (by omega)) rfl ?_;refine X_rem rfl rfl rfl rfl (by decide) (by exact rem_nn (by omega)) rfl ?_;refine ZU ?_;refine Zk F.foff68_0 ?_;refine Zk F.foff32_15 ?_;refine Yi F.lay3 ?_;refine Zx ?_
   refine Yj (.inl rfl) (.nil) (fun w hw=>?_)
   have h3:=check_cons (n:=(ZP.nd ⟨⟨⟨Za,Zc⟩,⟨Zf,Zh⟩,⟨Zj,Zi,Zg⟩,⟨Ze,Zd,Zb⟩⟩,Zs,Zr,ZF,Zz,ZM,ZB,Zv,Zu,Zn,Zy,Zm,Zw,⟨Zp,Zo,Zl⟩,ZD,(tn:Int)⟩)) (m:=(ZP.nd ⟨⟨⟨oa,oi⟩,⟨oq,oj⟩,⟨o1a,o1c,o1l⟩,⟨o2a,o2c,o2l⟩⟩,Zs,Zr,ZF,Zz,ZM,ZB,Zv,a9,Zn,Zy,Zm,Zw,⟨Zp,Zo,Zl⟩,ZD,(tn:Int)⟩)) h2 hkl.symm hkk hkt rfl
   refine ⟨_,M5,[(bw,rowO (ZR.segs ⟨⟨⟨⟨oa,oi⟩,⟨oq,oj⟩,⟨o1a,o1c,o1l⟩,⟨o2a,o2c,o2l⟩⟩,Zs,Zr,ZF,Zz,(nxR ZM),ZB,Zv,l_l[kk].addr,(nxR ZM),Zy,Zm,Zw,⟨Zp,Zo,Zl⟩,ZD,(((tn:Int)+1) % 1000000)⟩,⟨o9a,o9c,o9l⟩⟩) 68)],rfl,(((hM2.trans hm3).trans hm4).trans hm5),hw.c,rfl,⟨⟨⟨oa,oi⟩,⟨oq,oj⟩,⟨o1a,o1c,o1l⟩,⟨o2a,o2c,o2l⟩⟩,Zs,Zr,ZF,Zz,(nxR ZM),ZB,Zv,l_l[kk].addr,(nxR ZM),Zy,Zm,Zw,⟨Zp,Zo,Zl⟩,ZD,(((tn:Int)+1) % 1000000)⟩,⟨o9a,o9c,o9l⟩,rfl,?_,?_,⟨(okt.mono hm4).mono hm5,((k9.mono hm3).mono hm4).mono hm5⟩,k9o,fun y hy=>?_⟩
   ·rw [h3] <;> rfl
   ·rw [h3]
    show sndl o9l=_
    rw [hl9];rfl
   ·simp only at hy
    rw [hl9] at hy
    obtain rfl:=List.mem_singleton.1 hy
    exact ⟨⟨SlK.nil,SlK.nil⟩⟩
end Go.Proofs.YtajmnjefajknoaaGreat
namespace Go.Proofs.YtajmnjefajknoaaGreat
open Go.Esp
theorem F.bld68:Bld Tryz.prog 68 [[.one (.int .i64 0),Yn 0,.one (.int .i64 0),Yn 0,.one (.slice none 0 0),.one (.slice none 0 0),.one (.int .i64 0),.one (.bool false),.one (.int .i64 0),.one (.int .i64 0),.one (.int .u64 0),.one (.int .i64 0),.one (.int .u64 0),.one (.int .i64 0),.one (.int .u64 0),.one (.int .i64 0),.one (.int .u64 0),Yn 0,.one (.slice none 0 0),.one (.int .i64 0),.one (.int .i64 0)],[.one (.slice none 0 0)]]:=by rw [VQ];exact ⟨by kernel_rfl,by kernel_rfl⟩
theorem F.map65:mapOf Tryz.prog 65=some (3,63):=by kernel_rfl
theorem F.ok27:okFn Tryz.prog 27=true:=by kernel_rfl
theorem F.ok33:okFn Tryz.prog 33=true:=by kernel_rfl
theorem F.ok34:okFn Tryz.prog 34=true:=by kernel_rfl
theorem F.ok35:okFn Tryz.prog 35=true:=by kernel_rfl
theorem F.ok36:okFn Tryz.prog 36=true:=by kernel_rfl
theorem F.zero63:Wh Tryz.prog 63=some (.nilFunc):=by kernel_rfl
theorem of_ok (M:Mem) (Za:Int) (Zc:Plc) (Zf:Int) (Zh:Plc) (Zj Ze Zp:Option Addr) (Zi Zd Zo:Nat) (Zg Zb:List ZE) (Zl:List Int) (Zs:Int) (Zr:Bool) (ZF Zz ZM ZB Zv Zu Zn Zy Zm:Int) (Zw:Plc) (ZD ZG:Int) (Yr:SlK M (oneI .i64) 1 ⟨Zp,Zo,Zl⟩) (hLa:Zl.length≤1000):Fh Tryz.prog 36 [ZP.enc ⟨⟨⟨Za,Zc⟩,⟨Zf,Zh⟩,⟨Zj,Zi,Zg⟩,⟨Ze,Zd,Zb⟩⟩,Zs,Zr,ZF,Zz,ZM,ZB,Zv,Zu,Zn,Zy,Zm,Zw,⟨Zp,Zo,Zl⟩,ZD,ZG⟩] M [] (fun M' v Hout=>M'=M∧∃ (bw:Nat) (a9:Option Addr) (c9:Nat) (hs9:Hp),v=.pointer (some ⟨bw,0,none⟩)∧Hout=(bw,rowO (ZR.segs ⟨⟨⟨⟨Za,Zc⟩,⟨Zf,Zh⟩,⟨Zj,Zi,Zg⟩,⟨Ze,Zd,Zb⟩⟩,Zs,Zr,ZF,Zz,ZM,ZB,Zv,Zu,Zn,Zy,Zm,Zw,⟨a9,c9,Zl⟩,ZD,ZG⟩,⟨none,0,[]⟩⟩) 68)::hs9∧OSl 3 1 (.slice a9 Zl.length c9) hs9 (Zl.map (oneI .i64))):=by
  refine fh_enter Tryz.func36 rfl Tryz.ntmps36 rfl ?_;intro H
  refine ZJ (Zq (l:=[0,1]) rfl ?_)
  refine Xk ?_;intro b1
  refine ZC ?_;refine Zx (Zt (Y_pk [2,1] ?_));refine ZJ (Zq (l:=[0,1,2,3,4]) rfl ?_);refine Zk F.foff32_13 ?_;refine ZI F.lay30 ?_;refine Uc rfl rfl F.ok91 rfl (CloneI_ok M Zp Zo Zl Yr (by omega)) (by repeat first|exact Rem.here _|exact Rem.two|apply Rem.skip|apply Rem.over) (fun _ _ _ hm hw=>(hw.lower (by exact hm)).c) (Yv rfl) ?_
  rintro v0 M1 hs0 hm1 ⟨hM1,ho0⟩;subst M1
  obtain ⟨ad0,cp0,rfl⟩:=ho0.valL
  refine Zk F.foff32_13 ?_;refine Yi F.lay30 ?_;refine Zx (Zt (Y_pk [2,1] ?_));refine ZJ (Zq (l:=[0,1,2,3]) rfl ?_);refine ZI F.lay32 ?_;refine Xq rfl rfl F.bld68 (.cons rfl (by constructor) .nil) (setParts_first (by simp only [ZE.segs,ZT.segs,ZP.segs,ZQ.segs,Yw.segs,ZR.segs,YM.segs,ZY.segs,cat,List.append_eq,List.cons_append,List.nil_append,List.append_nil,Segs.len,Seg.len,Yn])) rfl ?_
  refine Xk ?_;intro b2
  refine ZC ?_;refine Zx (Zt (Y_pk [2] ?_));refine Yu ?_
  refine Yj (.inr rfl) (.tmp rfl .nil) (fun w hw=>?_)
  refine ⟨_,M,(b2,rowO (ZR.segs ⟨⟨⟨⟨Za,Zc⟩,⟨Zf,Zh⟩,⟨Zj,Zi,Zg⟩,⟨Ze,Zd,Zb⟩⟩,Zs,Zr,ZF,Zz,ZM,ZB,Zv,Zu,Zn,Zy,Zm,Zw,⟨ad0,cp0,Zl⟩,ZD,ZG⟩,⟨none,0,[]⟩⟩) 68)::hs0,rfl,Mem.le.refl M,?_,rfl,b2,ad0,cp0,hs0,rfl,rfl,ho0⟩
  simp only [ZR.segs,Sl.val,List.length_nil] at hw ⊢
  exact hw.c
theorem Tick_yes (M:Mem) (n:ZP) (hn0:ZP.ok M n) (kind:Int) (hk:1≤kind∧kind≤3) (fid:FuncId) (X:Nd→Nd×List Snd) (hl:(WH (tickL 33 34 35) kind).getD .nilFunc=.func (.func fid) #[] #[]) (hok:okFn Tryz.prog fid=true) (hx:∀ n:Nd,X n=if kind=1 then stabN n else if kind=2 then fixN n else checkN n)
   (hc:∀ (M:Mem) (bw:Nat) (Za:Int) (Zc:Plc) (Zf:Int) (Zh:Plc) (Zj Ze Zp:Option Addr) (Zi Zd Zo:Nat) (Zg Zb:List ZE) (Zl:List Int) (Zs:Int) (Zr:Bool) (ZF Zz ZM ZB Zv Zu Zn Zy Zm:Int) (Zw:Plc) (ZD ZG:Int) (Yk:ZT.ok M ⟨⟨Za,Zc⟩,⟨Zf,Zh⟩,⟨Zj,Zi,Zg⟩,⟨Ze,Zd,Zb⟩⟩) (hbig:Zg.length≤40∧Zb.length≤200) (hcu:0≤Zz∧Zz≤159) (htu:0≤ZG∧ZG≤999999) (hav:Hp) (hA:OSl 3 1 (.slice Zp Zl.length Zo) hav (Zl.map (oneI .i64))) (hLa:Zl.length≤900),Fh Tryz.prog fid [.pointer (some ⟨bw,0,none⟩)] M ((bw,rowO (ZR.segs ⟨⟨⟨⟨Za,Zc⟩,⟨Zf,Zh⟩,⟨Zj,Zi,Zg⟩,⟨Ze,Zd,Zb⟩⟩,Zs,Zr,ZF,Zz,ZM,ZB,Zv,Zu,Zn,Zy,Zm,Zw,⟨Zp,Zo,Zl⟩,ZD,ZG⟩,⟨none,0,[]⟩⟩) 68)::hav) (fun M' v Hout=>v=.tuple #[]∧WkF bw 68 M' Hout (X (ZP.nd ⟨⟨⟨Za,Zc⟩,⟨Zf,Zh⟩,⟨Zj,Zi,Zg⟩,⟨Ze,Zd,Zb⟩⟩,Zs,Zr,ZF,Zz,ZM,ZB,Zv,Zu,Zn,Zy,Zm,Zw,⟨Zp,Zo,Zl⟩,ZD,ZG⟩)))):Esp.Fn Tryz.prog 11 [n.enc,.int .i64 kind] M (fun M' v=>NtE M' v (VX n.nd kind)):=by
  obtain ⟨⟨⟨Za,Zc⟩,⟨Zf,Zh⟩,⟨Zj,Zi,Zg⟩,⟨Ze,Zd,Zb⟩⟩,Zs,Zr,ZF,Zz,ZM,ZB,Zv,Zu,Zn,Zy,Zm,Zw,⟨Zp,Zo,Zl⟩,ZD,ZG⟩:=n
  have Yk:ZT.ok M ⟨⟨Za,Zc⟩,⟨Zf,Zh⟩,⟨Zj,Zi,Zg⟩,⟨Ze,Zd,Zb⟩⟩:=hn0.h0
  have Xb:SlK M ZE.segs 21 ⟨Zj,Zi,Zg⟩:=hn0.h0.h0
  have s_n_table_succ:SlM M Zj (Zg.map ZE.segs) 21:=Xb.h1
  have n_n_table_succ:(Zg.map ZE.segs).length=Zg.length:=List.length_map ..
  have m_n_table_succ:Zg.length≤9223372036854775807:=Xb.h2
  have c_n_table_succ:Zg.length≤Zi:=Xb.h3
  have YN:SlK M ZE.segs 21 ⟨Ze,Zd,Zb⟩:=hn0.h0.h1
  have s_n_table_fingers:SlM M Ze (Zb.map ZE.segs) 21:=YN.h1
  have n_n_table_fingers:(Zb.map ZE.segs).length=Zb.length:=List.length_map ..
  have m_n_table_fingers:Zb.length≤9223372036854775807:=YN.h2
  have c_n_table_fingers:Zb.length≤Zd:=YN.h3
  have Yr:SlK M (oneI .i64) 1 ⟨Zp,Zo,Zl⟩:=hn0.h1
  have s_n_avoid:SlM M Zp (Zl.map (oneI .i64)) 1:=Yr.h1
  have n_n_avoid:(Zl.map (oneI .i64)).length=Zl.length:=List.length_map ..
  have m_n_avoid:Zl.length≤9223372036854775807:=Yr.h2
  have c_n_avoid:Zl.length≤Zo:=Yr.h3
  refine WU Tryz.func11 rfl Tryz.ntmps11 rfl ?_;intro H
  refine ZJ (Zq (l:=[0,1,2,3]) rfl ?_)
  refine Xk ?_;intro b1
  refine YW F.zero32 ?_;intro b2
  iterate 2 refine ZC ?_
  refine Zx (Zt (Y_pk [6,5,4,2,1] ?_));refine ZJ (Zq (l:=[0,1,2,3,4,5]) rfl ?_)
  refine X_makeMap rfl rfl rfl ?_;intro b3
  refine WC rfl rfl rfl rfl rfl F.map65 imO_nil (by repeat first|exact List.Mem.head _|refine List.Mem.tail _ ?_|refine List.mem_append_right _ ?_) ?_;intro o4 him5;refine ⟨_,(by repeat first|exact Upd.head|apply Upd.tail|apply Upd.over),?_⟩
  refine WC rfl rfl rfl rfl rfl F.map65 him5 (by repeat first|exact List.Mem.head _|refine List.Mem.tail _ ?_|refine List.mem_append_right _ ?_) ?_;intro o6 him7;refine ⟨_,(by repeat first|exact Upd.head|apply Upd.tail|apply Upd.over),?_⟩
  refine WC rfl rfl rfl rfl rfl F.map65 him7 (by repeat first|exact List.Mem.head _|refine List.Mem.tail _ ?_|refine List.mem_append_right _ ?_) ?_;intro o8 him9;refine ⟨_,(by repeat first|exact Upd.head|apply Upd.tail|apply Upd.over),?_⟩
  refine ZA ?_;refine ZC ?_;refine Zx (Zt (Y_pk [7,6,5,4,2,1] ?_));refine ZJ (Zq (l:=[0,1,2,3]) rfl ?_)
  iterate 2 refine ZA ?_
  refine X_lookup rfl rfl rfl rfl F.map65 F.zero63 (by repeat first|exact List.Mem.head _|refine List.Mem.tail _ ?_|refine List.mem_append_right _ ?_) him9 (show (WH (tickL 33 34 35) kind).getD .nilFunc=.func (.func fid) #[] #[] from hl) rfl ?_;refine ZC ?_;refine Zx (Zt (Y_pk [8,6,5,4,2] ?_))
  iterate 2 refine ZJ ?_
  refine Zq (l:=[0,1,2,3,4,5,6]) rfl ?_;refine ZA ?_;refine Y_nil Tryz.underlying63 ?_;refine ZA ?_
  refine Yp 17 rfl (fun hc10=>?_) (fun hc10=>?_)
  ·skip
   (exfalso;simp [eqX] at hc10;done)
  ·skip
   refine ZI F.lay32 ?_;refine X_fs rfl rfl F.ok27 rfl (IsN_ok _ ⟨⟨⟨Za,Zc⟩,⟨Zf,Zh⟩,⟨Zj,Zi,Zg⟩,⟨Ze,Zd,Zb⟩⟩,Zs,Zr,ZF,Zz,ZM,ZB,Zv,Zu,Zn,Zy,Zm,Zw,⟨Zp,Zo,Zl⟩,ZD,ZG⟩ hn0) rfl ?_
   rintro _ rfl
   refine XA ?_;refine ZS ?_;refine Zx (Zt (Y_pk [21,8,6,5,4,2] ?_))
   refine YA rfl (fun hc11=>?_) (fun hc11=>?_)
   ·replace hc11:=nT hc11
    refine ZJ (Zq (l:=[0,1,2,3]) rfl ?_);refine Xq rfl rfl F.bld32 (.nil) rfl rfl ?_;refine XW F.lay32 ?_
    iterate 2 refine ZC ?_
    refine Zx (Zt (Y_pk [6,5,8,4,2] ?_));refine Yu (YY ?_)
    refine Yj (.inr rfl) (.cell rfl (by repeat first|exact List.Mem.head _|refine List.Mem.tail _ ?_|refine List.mem_append_right _ ?_) F.lay32 rfl rfl (.tmp rfl (.tmp rfl .nil))) (fun w hw=>?_)
    refine ⟨_,M,rfl,Mem.le.refl M,hw.c,ZP.zero,⟨none,0,[]⟩,?_,?_,?_,ZP.zero_ok _,SlK.nil,fun y hy=>by cases hy⟩
    ·rw [tick_no (n:=ZP.nd ⟨⟨⟨Za,Zc⟩,⟨Zf,Zh⟩,⟨Zj,Zi,Zg⟩,⟨Ze,Zd,Zb⟩⟩,Zs,Zr,ZF,Zz,ZM,ZB,Zv,Zu,Zn,Zy,Zm,Zw,⟨Zp,Zo,Zl⟩,ZD,ZG⟩) (fun q=>absurd q.1 (by assumption))];rfl
    ·rw [tick_no (n:=ZP.nd ⟨⟨⟨Za,Zc⟩,⟨Zf,Zh⟩,⟨Zj,Zi,Zg⟩,⟨Ze,Zd,Zb⟩⟩,Zs,Zr,ZF,Zz,ZM,ZB,Zv,Zu,Zn,Zy,Zm,Zw,⟨Zp,Zo,Zl⟩,ZD,ZG⟩) (fun q=>absurd q.1 (by assumption))];rfl
    ·rw [tick_no (n:=ZP.nd ⟨⟨⟨Za,Zc⟩,⟨Zf,Zh⟩,⟨Zj,Zi,Zg⟩,⟨Ze,Zd,Zb⟩⟩,Zs,Zr,ZF,Zz,ZM,ZB,Zv,Zu,Zn,Zy,Zm,Zw,⟨Zp,Zo,Zl⟩,ZD,ZG⟩) (fun q=>absurd q.1 (by assumption))];rfl
   ·replace hc11:=nF hc11
    refine Yz (Zt (Y_pk [8,6,5,4,2] ?_));refine ZJ ?_
    have hnd9:IsNd (ZP.nd ⟨⟨⟨Za,Zc⟩,⟨Zf,Zh⟩,⟨Zj,Zi,Zg⟩,⟨Ze,Zd,Zb⟩⟩,Zs,Zr,ZF,Zz,ZM,ZB,Zv,Zu,Zn,Zy,Zm,Zw,⟨Zp,Zo,Zl⟩,ZD,ZG⟩):=by assumption
    have htb9:IsTb (ZT.tb ⟨⟨Za,Zc⟩,⟨Zf,Zh⟩,⟨Zj,Zi,Zg⟩,⟨Ze,Zd,Zb⟩⟩):=hnd9.1
    have hcu9:0≤Zz∧Zz≤159:=hnd9.2.2.2.1
    have htu9:0≤ZG∧ZG≤999999:=hnd9.2.2.2.2.2.2.1
    have hav9:Zl.length≤16:=hnd9.2.2.2.2.1
    refine Zq (l:=[0,1,2]) rfl ?_;refine ZI F.lay32 ?_;refine Uc rfl rfl F.ok36 rfl (of_ok M _ _ _ _ _ _ _ _ _ _ _ _ _ _ _ _ _ _ _ _ _ _ _ _ _ _ _ Yr (by omega)) (by repeat first|exact Rem.here _|exact Rem.two|apply Rem.skip|apply Rem.over) (fun _ _ _ hm hw=>(hw.lower (by exact hm)).c) (Yv rfl) ?_
    rintro v1 M1 hs1 hm1 ⟨hM1,bw,s_a,s_c,hs9,rfl,rfl,ho9⟩;subst M1
    simp only [List.append_assoc,List.cons_append,List.nil_append]
    refine ZC ?_;refine Zx (Zt (Y_pk [9,8,6,5,4] ?_));refine ZJ (Xn (l:=[0,1,2]) [2] rfl ?_)
    iterate 2 refine ZA ?_
    refine X_fhVW (caps:=[]) rfl rfl rfl rfl hok rfl rfl (hc M bw Za Zc Zf Zh Zj Ze s_a Zi Zd s_c Zg Zb Zl Zs Zr ZF Zz ZM ZB Zv Zu Zn Zy Zm Zw ZD ZG Yk (isTb_small (t:=⟨⟨Za,Zc⟩,⟨Zf,Zh⟩,⟨Zj,Zi,Zg⟩,⟨Ze,Zd,Zb⟩⟩) htb9) hcu9 htu9 hs9 ho9 (by omega)) (by repeat first|exact Rem.here _|exact Rem.two|apply Rem.skip|apply Rem.over) (Yv rfl) ?_
    rintro _ M2 hs2 hm2 ⟨rfl,⟨⟨⟨YH,YO⟩,⟨YI,YP⟩,⟨YT,YS,YR⟩,⟨YL,YK,YJ⟩⟩,XN,XR,Wp,XM,WS,Wd,XO,XJ,Xt,XK,Xu,XL,⟨Xx,Xw,Xv⟩,Wo,Wn⟩,⟨o_a,o_c,o_l⟩,rfl,hv1,hv2,okv,oko,okq⟩
    simp only [List.append_assoc,List.cons_append,List.nil_append]
    refine Zx (Wl ?_);refine Zt (Y_pk [9,6,5,4] ?_);refine ZJ (C_region_anyWR (l:=[0,1,2,3,4,5,6,7,8,9,10]) (Hin:=[(b2,_)]) [8] #[0,1,3,7,0,16,48,112,15,511,1023] (by repeat first|exact Rem.here _|exact Rem.two|apply Rem.skip|apply Rem.over) rfl (by kernel_rfl) (by kernel_rfl) ?_);refine ZA ?_;refine ZU ?_;refine Zk F.foff68_0 ?_;refine ZI F.lay32 ?_;refine ZA ?_;refine ZU ?_;refine Zk F.foff68_1 ?_;refine ZI F.lay35 ?_;refine X_storeE rfl rfl rfl rfl rfl (by constructor) (by ((try simp only [cat,List.cons_append,List.nil_append,List.append_nil]);(repeat (first|exact XV|refine XU ?_|(refine YE ?_ ?_;rfl)));done)) (by repeat first|exact Upd.head|apply Upd.tail|apply Upd.over) F.lay32 (by simp only [ZE.segs,ZT.segs,ZP.segs,ZQ.segs,Yw.segs,ZR.segs,YM.segs,ZY.segs,cat,List.append_eq,List.cons_append,List.nil_append,List.append_nil,Segs.len,Seg.len,Yn]) (put_all (m:=78) rfl (by simp only [ZE.segs,ZT.segs,ZP.segs,ZQ.segs,Yw.segs,ZR.segs,YM.segs,ZY.segs,cat,List.append_eq,List.cons_append,List.nil_append,List.append_nil,Segs.len,Seg.len,Yn]) (by simp only [ZE.segs,ZT.segs,ZP.segs,ZQ.segs,Yw.segs,ZR.segs,YM.segs,ZY.segs,cat,List.append_eq,List.cons_append,List.nil_append,List.append_nil,Segs.len,Seg.len,Yn])) (fun _ h=>h.c) ?_
    iterate 2 refine ZC ?_
    refine Zx (Wl ?_);refine Zt (Y_pk [6,5,4] ?_);refine Yu ?_
    refine Yj (.inr rfl) (.cell rfl (by repeat first|exact List.Mem.head _|refine List.Mem.tail _ ?_|refine List.mem_append_right _ ?_) F.lay32 rfl rfl (.tmp rfl (.tmp rfl .nil))) (fun w hw=>?_)
    have h3:=tick_yes (n:=ZP.nd ⟨⟨⟨Za,Zc⟩,⟨Zf,Zh⟩,⟨Zj,Zi,Zg⟩,⟨Ze,Zd,Zb⟩⟩,Zs,Zr,ZF,Zz,ZM,ZB,Zv,Zu,Zn,Zy,Zm,Zw,⟨Zp,Zo,Zl⟩,ZD,ZG⟩) (k:=kind) (r:=X (ZP.nd ⟨⟨⟨Za,Zc⟩,⟨Zf,Zh⟩,⟨Zj,Zi,Zg⟩,⟨Ze,Zd,Zb⟩⟩,Zs,Zr,ZF,Zz,ZM,ZB,Zv,Zu,Zn,Zy,Zm,Zw,⟨Zp,Zo,Zl⟩,ZD,ZG⟩)) hnd9 hk (hx _)
    exact ⟨_,M2,rfl,hm2,hw.c,⟨⟨⟨YH,YO⟩,⟨YI,YP⟩,⟨YT,YS,YR⟩,⟨YL,YK,YJ⟩⟩,XN,XR,Wp,XM,WS,Wd,XO,XJ,Xt,XK,Xu,XL,⟨Xx,Xw,Xv⟩,Wo,Wn⟩,⟨o_a,o_c,o_l⟩,by rw [h3] <;> rfl,by rw [h3];exact hv1,by rw [h3];exact hv2,okv,oko,okq⟩
theorem Tick_no (M:Mem) (n:ZP) (hn0:ZP.ok M n) (kind:Int) (hk:¬(1≤kind∧kind≤3)) (hl:(WH (tickL 33 34 35) kind).getD .nilFunc=.nilFunc):Esp.Fn Tryz.prog 11 [n.enc,.int .i64 kind] M (fun M' v=>NtE M' v (VX n.nd kind)):=by
  obtain ⟨⟨⟨Za,Zc⟩,⟨Zf,Zh⟩,⟨Zj,Zi,Zg⟩,⟨Ze,Zd,Zb⟩⟩,Zs,Zr,ZF,Zz,ZM,ZB,Zv,Zu,Zn,Zy,Zm,Zw,⟨Zp,Zo,Zl⟩,ZD,ZG⟩:=n
  have Yk:ZT.ok M ⟨⟨Za,Zc⟩,⟨Zf,Zh⟩,⟨Zj,Zi,Zg⟩,⟨Ze,Zd,Zb⟩⟩:=hn0.h0
  have Xb:SlK M ZE.segs 21 ⟨Zj,Zi,Zg⟩:=hn0.h0.h0
  have s_n_table_succ:SlM M Zj (Zg.map ZE.segs) 21:=Xb.h1
  have n_n_table_succ:(Zg.map ZE.segs).length=Zg.length:=List.length_map ..
  have m_n_table_succ:Zg.length≤9223372036854775807:=Xb.h2
  have c_n_table_succ:Zg.length≤Zi:=Xb.h3
  have YN:SlK M ZE.segs 21 ⟨Ze,Zd,Zb⟩:=hn0.h0.h1
  have s_n_table_fingers:SlM M Ze (Zb.map ZE.segs) 21:=YN.h1
  have n_n_table_fingers:(Zb.map ZE.segs).length=Zb.length:=List.length_map ..
  have m_n_table_fingers:Zb.length≤9223372036854775807:=YN.h2
  have c_n_table_fingers:Zb.length≤Zd:=YN.h3
  have Yr:SlK M (oneI .i64) 1 ⟨Zp,Zo,Zl⟩:=hn0.h1
  have s_n_avoid:SlM M Zp (Zl.map (oneI .i64)) 1:=Yr.h1
  have n_n_avoid:(Zl.map (oneI .i64)).length=Zl.length:=List.length_map ..
  have m_n_avoid:Zl.length≤9223372036854775807:=Yr.h2
  have c_n_avoid:Zl.length≤Zo:=Yr.h3
  refine WU Tryz.func11 rfl Tryz.ntmps11 rfl ?_;intro H
  refine ZJ (Zq (l:=[0,1,2,3]) rfl ?_)
  refine Xk ?_;intro b1
  refine YW F.zero32 ?_;intro b2
  iterate 2 refine ZC ?_
  refine Zx (Zt (Y_pk [6,5,4,2,1] ?_));refine ZJ (Zq (l:=[0,1,2,3,4,5]) rfl ?_)
  refine X_makeMap rfl rfl rfl ?_;intro b3
  refine WC rfl rfl rfl rfl rfl F.map65 imO_nil (by repeat first|exact List.Mem.head _|refine List.Mem.tail _ ?_|refine List.mem_append_right _ ?_) ?_;intro o4 him5;refine ⟨_,(by repeat first|exact Upd.head|apply Upd.tail|apply Upd.over),?_⟩
  refine WC rfl rfl rfl rfl rfl F.map65 him5 (by repeat first|exact List.Mem.head _|refine List.Mem.tail _ ?_|refine List.mem_append_right _ ?_) ?_;intro o6 him7;refine ⟨_,(by repeat first|exact Upd.head|apply Upd.tail|apply Upd.over),?_⟩
  refine WC rfl rfl rfl rfl rfl F.map65 him7 (by repeat first|exact List.Mem.head _|refine List.Mem.tail _ ?_|refine List.mem_append_right _ ?_) ?_;intro o8 him9;refine ⟨_,(by repeat first|exact Upd.head|apply Upd.tail|apply Upd.over),?_⟩
  refine ZA ?_;refine ZC ?_;refine Zx (Zt (Y_pk [7,6,5,4,2,1] ?_));refine ZJ (Zq (l:=[0,1,2,3]) rfl ?_)
  iterate 2 refine ZA ?_
  refine X_lookup rfl rfl rfl rfl F.map65 F.zero63 (by repeat first|exact List.Mem.head _|refine List.Mem.tail _ ?_|refine List.mem_append_right _ ?_) him9 (show (WH (tickL 33 34 35) kind).getD .nilFunc=.nilFunc from hl) rfl ?_;refine ZC ?_;refine Zx (Zt (Y_pk [8,6,5,4,2] ?_))
  iterate 2 refine ZJ ?_
  refine Zq (l:=[0,1,2,3,4,5,6]) rfl ?_;refine ZA ?_;refine Y_nil Tryz.underlying63 ?_;refine ZA ?_
  refine Yp 17 rfl (fun hc10=>?_) (fun hc10=>?_)
  ·skip
   iterate 3 refine Yh ?_
   refine ZS ?_;refine Zx (Zt (Y_pk [21,8,6,5,4,2] ?_));refine Xz rfl ?_;refine ZJ (Zq (l:=[0,1,2,3]) rfl ?_);refine Xq rfl rfl F.bld32 (.nil) rfl rfl ?_;refine XW F.lay32 ?_
   iterate 2 refine ZC ?_
   refine Zx (Zt (Y_pk [6,5,8,4,2] ?_));refine Yu (YY ?_)
   refine Yj (.inr rfl) (.cell rfl (by repeat first|exact List.Mem.head _|refine List.Mem.tail _ ?_|refine List.mem_append_right _ ?_) F.lay32 rfl rfl (.tmp rfl (.tmp rfl .nil))) (fun w hw=>?_)
   refine ⟨_,M,rfl,Mem.le.refl M,hw.c,ZP.zero,⟨none,0,[]⟩,?_,?_,?_,ZP.zero_ok _,SlK.nil,fun y hy=>by cases hy⟩
   ·rw [tick_no (fun q=>hk ⟨q.2.1,q.2.2⟩)];rfl
   ·rw [tick_no (fun q=>hk ⟨q.2.1,q.2.2⟩)];rfl
   ·rw [tick_no (fun q=>hk ⟨q.2.1,q.2.2⟩)];rfl
  ·skip
   (exfalso;simp [eqX] at hc10;done)
theorem Tick_ok (M:Mem) (n:ZP) (kind:Int) (hn0:ZP.ok M n):Esp.Fn Tryz.prog 11 [n.enc,.int .i64 kind] M (fun M' v=>NtE M' v (VX n.nd kind)):=by
  by_cases h1:kind=1
  ·subst h1;exact Tick_yes M n hn0 1 ⟨by decide,by decide⟩ 33 stabN tickL1 F.ok33 (fun n=>rfl) (fun M bw Za Zc Zf Zh Zj Ze Zp Zi Zd Zo Zg Zb Zl Zs Zr ZF Zz ZM ZB Zv Zu Zn Zy Zm Zw ZD ZG Yk hbig hcu htu hav hA hLa=>stab_ok M bw Za Zc Zf Zh Zj Ze Zp Zi Zd Zo Zg Zb Zl Zs Zr ZF Zz ZM ZB Zv Zu Zn Zy Zm Zw ZD ZG Yk hbig hav hA hLa)
  by_cases h2:kind=2
  ·subst h2;exact Tick_yes M n hn0 2 ⟨by decide,by decide⟩ 34 fixN tickL2 F.ok34 (fun n=>rfl) (fun M bw Za Zc Zf Zh Zj Ze Zp Zi Zd Zo Zg Zb Zl Zs Zr ZF Zz ZM ZB Zv Zu Zn Zy Zm Zw ZD ZG Yk hbig hcu htu hav hA hLa=>fix_ok M bw Za Zc Zf Zh Zj Ze Zp Zi Zd Zo Zg Zb Zl Zs Zr ZF Zz ZM ZB Zv Zu Zn Zy Zm Zw ZD ZG Yk hbig hcu hav hA hLa)
  by_cases h3:kind=3
  ·subst h3;exact Tick_yes M n hn0 3 ⟨by decide,by decide⟩ 35 checkN tickL3 F.ok35 (fun n=>rfl) (fun M bw Za Zc Zf Zh Zj Ze Zp Zi Zd Zo Zg Zb Zl Zs Zr ZF Zz ZM ZB Zv Zu Zn Zy Zm Zw ZD ZG Yk hbig hcu htu hav hA hLa=>check_ok M bw Za Zc Zf Zh Zj Ze Zp Zi Zd Zo Zg Zb Zl Zs Zr ZF Zz ZM ZB Zv Zu Zn Zy Zm Zw ZD ZG Yk hbig htu hav hA hLa)
  have hk:¬(1≤kind∧kind≤3):=by omega
  exact Tick_no M n hn0 kind hk (tickL0 hk)
end Go.Proofs.YtajmnjefajknoaaGreat
