/-
  Texts of this claim, one behind the other: Types, Opn, ItoaLM, ItoaG, Seat, Stp, Ident, CircleM, IdentN, IdxF, TableM, Rules6, Rules7, TableP, TableS, TableL, NodeM, Rules8, Rules9, RegW, Rules15, WireM, T1, T2, T3, T4, T5, T6, T7, T8, T9, T10, T11, T12, T13, T14, T15, T16, SortL, SortM, T17, T18.
-/
import Derived.Test.YtglnjnacodgmaaaGreatDoorQL1
import Derived.Test.YtglnjnacodgmaaaGreatDoorRows
import Derived.Shelf.Strconv.Itoa3
import Derived.Ground.NamesProg
import Derived.Stop.LaidErr
import Derived.LaidHandle
import Derived.LaidLaws
import Derived.ChangeVars
import Derived.Stop.Joined
import Derived.ProofKit
import Derived.OpenShut
import Derived.LaidMore
import Derived.Lay
import Derived.Laws.Sem
import Derived.Laws.MakeOwn
import Derived.Scope
import Derived.Lib.AppendZeros
import Derived.Laws.BytesArg
import Derived.Laws.Strings
import Derived.Shelf.SlSortCmp.WholeK
import Derived.Shelf.SlGeneric
import Derived.Ground.SlsfProg
set_option linter.unusedSimpArgs false
set_option linter.unusedVariables false
set_option linter.unnecessarySimpa false
set_option maxRecDepth 8000
set_option maxHeartbeats 1000000
namespace Go.Esp
structure Zs where
  addr:Int
  id:Plc
  deriving DecidableEq
def Zs.segs:Zs→Segs
  | ⟨a1,a2⟩=>[.one (.int .i64 a1),Yb a2]
theorem Zs.eta (x:Zs):(⟨x.addr,x.id⟩:Zs)=x:=rfl
def Zs.enc (x:Zs):Value:=aggV x.segs
def Zs.zero:Zs:=⟨0,0⟩
theorem Zs.len (x:Zs):Segs.len x.segs=21:=by
  obtain ⟨a1,a2⟩:=x
  simp only [Zs.segs,Segs.len,Seg.len,Yb]
theorem Zs.flat (x:Zs):Esp.flat x.segs:=by
  obtain ⟨a1,a2⟩:=x
  simp only [Zs.segs]
  refine Xw rfl ?_;refine Wb ?_
  exact Xx
theorem Zs.inj {x y:Zs}:Segs.cells x.segs=Segs.cells y.segs↔x=y:=by
  obtain ⟨a1,a2⟩:=x
  obtain ⟨b1,b2⟩:=y
  simp only [Zs.segs,cells_one,cells_id,Value.int.injEq,Value.bool.injEq,Value.string.injEq,true_and,and_true,and_assoc,Zs.mk.injEq]
structure ZO where
  self:Zs
  pred:Zs
  succ:(Sl Zs)
  fingers:(Sl Zs)
def ZO.segs:ZO→Segs
  | ⟨⟨a1,a2⟩,⟨a3,a4⟩,a5,a6⟩=>[.one (.int .i64 a1),Yb a2,.one (.int .i64 a3),Yb a4,.one (a5).val,.one (a6).val]
theorem ZO.eta (x:ZO):(⟨x.self,x.pred,x.succ,x.fingers⟩:ZO)=x:=rfl
def ZO.enc (x:ZO):Value:=aggV x.segs
def ZO.zero:ZO:=⟨⟨0,0⟩,⟨0,0⟩,⟨none,0,[]⟩,⟨none,0,[]⟩⟩
structure ZO.ok (M:Mem) (x:ZO):Prop where
  h0:SlK M Zs.segs 21 x.succ
  h1:SlK M Zs.segs 21 x.fingers
theorem ZO.ok.mono {M M':Mem} {x:ZO} (h:ZO.ok M x) (hm:M.le M'):ZO.ok M' x:=⟨h.h0.mono hm,h.h1.mono hm⟩
theorem ZO.zero_ok (M:Mem):ZO.ok M ZO.zero:=⟨SlK.nil,SlK.nil⟩
structure ZJ where
  table:ZO
  copies:Int
  joined:Bool
  boot:Int
  cursor:Int
  req:Int
  askTo:Int
  askReq:Int
  pingTo:Int
  pingReq:Int
  findTo:Int
  findReq:Int
  findID:Plc
  avoid:(Sl Int)
  hops:Int
  turn:Int
def ZJ.segs:ZJ→Segs
  | ⟨⟨⟨a1,a2⟩,⟨a3,a4⟩,a5,a6⟩,a7,a8,a9,a10,a11,a12,a13,a14,a15,a16,a17,a18,a19,a20,a21⟩=>[.one (.int .i64 a1),Yb a2,.one (.int .i64 a3),Yb a4,.one (a5).val,.one (a6).val,.one (.int .i64 a7),.one (.bool a8),.one (.int .i64 a9),.one (.int .i64 a10),.one (.int .u64 a11),.one (.int .i64 a12),.one (.int .u64 a13),.one (.int .i64 a14),.one (.int .u64 a15),.one (.int .i64 a16),.one (.int .u64 a17),Yb a18,.one (a19).val,.one (.int .i64 a20),.one (.int .i64 a21)]
theorem ZJ.eta (x:ZJ):(⟨x.table,x.copies,x.joined,x.boot,x.cursor,x.req,x.askTo,x.askReq,x.pingTo,x.pingReq,x.findTo,x.findReq,x.findID,x.avoid,x.hops,x.turn⟩:ZJ)=x:=rfl
def ZJ.enc (x:ZJ):Value:=aggV x.segs
def ZJ.zero:ZJ:=⟨⟨⟨0,0⟩,⟨0,0⟩,⟨none,0,[]⟩,⟨none,0,[]⟩⟩,0,false,0,0,0,0,0,0,0,0,0,0,⟨none,0,[]⟩,0,0⟩
structure ZJ.ok (M:Mem) (x:ZJ):Prop where
  h0:ZO.ok M x.table
  h1:SlK M (oneI .i64) 1 x.avoid
theorem ZJ.ok.mono {M M':Mem} {x:ZJ} (h:ZJ.ok M x) (hm:M.le M'):ZJ.ok M' x:=⟨h.h0.mono hm,h.h1.mono hm⟩
theorem ZJ.zero_ok (M:Mem):ZJ.ok M ZJ.zero:=⟨ZO.zero_ok M,SlK.nil⟩
structure ZF where
  kind:Int
  frm:Zs
  req:Int
  id:Plc
  avoid:(Sl Int)
  done:Bool
  peer:Zs
  peers:(Sl Zs)
def ZF.segs:ZF→Segs
  | ⟨a1,⟨a2,a3⟩,a4,a5,a6,a7,⟨a8,a9⟩,a10⟩=>[.one (.int .i64 a1),.one (.int .i64 a2),Yb a3,.one (.int .u64 a4),Yb a5,.one (a6).val,.one (.bool a7),.one (.int .i64 a8),Yb a9,.one (a10).val]
theorem ZF.eta (x:ZF):(⟨x.kind,x.frm,x.req,x.id,x.avoid,x.done,x.peer,x.peers⟩:ZF)=x:=rfl
def ZF.enc (x:ZF):Value:=aggV x.segs
structure ZF.ok (M:Mem) (x:ZF):Prop where
  h0:SlK M (oneI .i64) 1 x.avoid
  h1:SlK M Zs.segs 21 x.peers
theorem ZF.ok.mono {M M':Mem} {x:ZF} (h:ZF.ok M x) (hm:M.le M'):ZF.ok M' x:=⟨h.h0.mono hm,h.h1.mono hm⟩
structure Ym where
  to:Int
  letter:ZF
def Ym.segs:Ym→Segs
  | ⟨a1,⟨a2,⟨a3,a4⟩,a5,a6,a7,a8,⟨a9,a10⟩,a11⟩⟩=>[.one (.int .i64 a1),.one (.int .i64 a2),.one (.int .i64 a3),Yb a4,.one (.int .u64 a5),Yb a6,.one (a7).val,.one (.bool a8),.one (.int .i64 a9),Yb a10,.one (a11).val]
theorem Ym.eta (x:Ym):(⟨x.to,x.letter⟩:Ym)=x:=rfl
structure Ym.ok (M:Mem) (x:Ym):Prop where
  h0:ZF.ok M x.letter
theorem Ym.ok.mono {M M':Mem} {x:Ym} (h:Ym.ok M x) (hm:M.le M'):Ym.ok M' x:=⟨h.h0.mono hm⟩
structure Yv where
  frm:Int
  to:Int
  body:ByteArray
  deriving DecidableEq
def Yv.segs:Yv→Segs
  | ⟨a1,a2,a3⟩=>[.one (.int .i64 a1),.one (.int .i64 a2),.one (.string a3)]
theorem Yv.eta (x:Yv):(⟨x.frm,x.to,x.body⟩:Yv)=x:=rfl
def Yv.enc (x:Yv):Value:=aggV x.segs
def Yv.zero:Yv:=⟨0,0,⟨#[]⟩⟩
structure Yy where
  kind:Int
  a:Int
  b:Int
  deriving DecidableEq
def Yy.segs:Yy→Segs
  | ⟨a1,a2,a3⟩=>[.one (.int .i64 a1),.one (.int .i64 a2),.one (.int .i64 a3)]
theorem Yy.eta (x:Yy):(⟨x.kind,x.a,x.b⟩:Yy)=x:=rfl
def Yy.enc (x:Yy):Value:=aggV x.segs
structure Yq where
  hops:(Sl Int)
  end_:Zs
def Yq.segs:Yq→Segs
  | ⟨a1,⟨a2,a3⟩⟩=>[.one (a1).val,.one (.int .i64 a2),Yb a3]
theorem Yq.eta (x:Yq):(⟨x.hops,x.end_⟩:Yq)=x:=rfl
structure Yq.ok (M:Mem) (x:Yq):Prop where
  h0:SlK M (oneI .i64) 1 x.hops
theorem Yq.ok.mono {M M':Mem} {x:Yq} (h:Yq.ok M x) (hm:M.le M'):Yq.ok M' x:=⟨h.h0.mono hm⟩
structure ZN where
  node:ZJ
  out:(Sl Ym)
def ZN.segs:ZN→Segs
  | ⟨⟨⟨⟨a1,a2⟩,⟨a3,a4⟩,a5,a6⟩,a7,a8,a9,a10,a11,a12,a13,a14,a15,a16,a17,a18,a19,a20,a21⟩,a22⟩=>[.one (.int .i64 a1),Yb a2,.one (.int .i64 a3),Yb a4,.one (a5).val,.one (a6).val,.one (.int .i64 a7),.one (.bool a8),.one (.int .i64 a9),.one (.int .i64 a10),.one (.int .u64 a11),.one (.int .i64 a12),.one (.int .u64 a13),.one (.int .i64 a14),.one (.int .u64 a15),.one (.int .i64 a16),.one (.int .u64 a17),Yb a18,.one (a19).val,.one (.int .i64 a20),.one (.int .i64 a21),.one (a22).val]
theorem ZN.eta (x:ZN):(⟨x.node,x.out⟩:ZN)=x:=rfl
structure ZN.ok (M:Mem) (x:ZN):Prop where
  h0:ZJ.ok M x.node
  h1:SlK M Ym.segs 68 x.out
  h2:∀ y∈(x.out).l,Ym.ok M y
theorem ZN.ok.mono {M M':Mem} {x:ZN} (h:ZN.ok M x) (hm:M.le M'):ZN.ok M' x:=⟨h.h0.mono hm,h.h1.mono hm,fun y hy=>(h.h2 y hy).mono hm⟩
structure YF where
  part:Int
  is:Bool
  deriving DecidableEq
def YF.segs:YF→Segs
  | ⟨a1,a2⟩=>[.one (.int .i64 a1),.one (.bool a2)]
theorem YF.eta (x:YF):(⟨x.part,x.is⟩:YF)=x:=rfl
structure ZU where
  kind:Int
  addr:Int
  at_:(Sl Int)
def ZU.segs:ZU→Segs
  | ⟨a1,a2,a3⟩=>[.one (.int .i64 a1),.one (.int .i64 a2),.one (a3).val]
theorem ZU.eta (x:ZU):(⟨x.kind,x.addr,x.at_⟩:ZU)=x:=rfl
structure ZU.ok (M:Mem) (x:ZU):Prop where
  h0:SlK M (oneI .i64) 1 x.at_
theorem ZU.ok.mono {M M':Mem} {x:ZU} (h:ZU.ok M x) (hm:M.le M'):ZU.ok M' x:=⟨h.h0.mono hm⟩
theorem XE (x:Zs):Fits [.i .i64,.i .u8,.i .u8,.i .u8,.i .u8,.i .u8,.i .u8,.i .u8,.i .u8,.i .u8,.i .u8,.i .u8,.i .u8,.i .u8,.i .u8,.i .u8,.i .u8,.i .u8,.i .u8,.i .u8,.i .u8] (Segs.cells x.segs):=by
  obtain ⟨a1,a2⟩:=x
  simp only [Zs.segs]
  refine fit_one (by first|exact rfl|exact trivial) ?_;refine TD ?_
  exact UZ
theorem St.c {M:Mem} {H H':Hp} {w:World} (h:St M H w) (hc:∀ zz,Esp.cnt zz H'≤Esp.cnt zz H:=by intro zz;first|exact Nat.le_refl _|(simp only [WI,WC,WS,cat,List.append_eq,List.append_assoc,List.cons_append,List.nil_append,List.append_nil];omega)|(simp only [WI,WC,WS,cat,List.append_eq,List.append_assoc,List.cons_append,List.nil_append,List.append_nil,Zs.segs,ZO.segs,ZJ.segs,ZF.segs,Ym.segs,Yv.segs,Yy.segs,Yq.segs,ZN.segs,YF.segs,ZU.segs];omega)):St M H' w:=h.cnt hc
end Go.Esp
namespace Go.Proofs.YtglnjnacodgmaaaGreatDoor
open Go.Esp
theorem Tryz.own:ownKnob Tryz.prog.godebug=none:=by kernel_rfl
theorem Tryz.laidOut:laidOutB Tryz.prog=true:=by kernel_rfl
theorem TurnV_of_ty {M:Mem} {n:Nat} {R:Segs} (h:Ty Tryz.prog M n 31 R):∃ x:Yy,R=x.segs:=by
  obtain ⟨k,Rs,rfl,hlen,hf⟩:=ty_struct Tryz.underlying31 h
  match Rs,hlen with
  | [r0,r1,r2],_ =>
    obtain ⟨x0,rfl,_⟩:=ty_int Tryz.underlying3 (hf 0 _ r0 rfl rfl)
    obtain ⟨x1,rfl,_⟩:=ty_int Tryz.underlying3 (hf 1 _ r1 rfl rfl)
    obtain ⟨x2,rfl,_⟩:=ty_int Tryz.underlying3 (hf 2 _ r2 rfl rfl)
    exact ⟨⟨x0,x1,x2⟩,rfl⟩
theorem sl_of_ty22 {M:Mem} {n:Nat} {R:Segs} (h:Ty Tryz.prog M n 22 R):∃ x:(Sl Yy),R=[.one x.val]∧SlK M Yy.segs 3 x:=by
  have e:Tryz.prog.cellsOf 31=3:=by kernel_rfl
  obtain ⟨ad,rows,c,m,rfl,h2,h3,h5,h4⟩:=ty_sliceC Tryz.underlying22 (by rw [e];decide) h
  obtain ⟨l,rfl,hl⟩:=rows_mapP (f:=Yy.segs) (p:=fun y=>True) (fun r hr=>by
      obtain ⟨z9,h9⟩:=TurnV_of_ty (h4 r hr)
      exact ⟨z9,h9,trivial⟩)
  rw [e] at h2
  exact ⟨⟨ad,c,l⟩,by simp [Sl.val],⟨h2,by simpa using h3,by simpa using h5⟩⟩
end Go.Proofs.YtglnjnacodgmaaaGreatDoor
namespace Go.Proofs
open Go.Shelf
def Tryz.itoaM_ren:Go.Shelf.Ren:=⟨fun|171=>53|243=>94|246=>153|283=>195|284=>196|285=>197|286=>198|129=>135|317=>218|318=>219|319=>220|320=>221|337=>228|338=>229|n=>n,fun|3=>3|9=>9|2=>2|4=>4|171=>257|0=>0|53=>42|37=>202|5=>5|173=>259|212=>283|51=>152|20=>20|213=>284|46=>136|232=>295|233=>256|n=>n,fun|17=>0|18=>2|19=>3|n=>n⟩
theorem Tryz.itoaM:Go.Proofs.LaysM.n171 Tryz.prog Tryz.itoaM_ren:={
  mixed:=by kernel_rfl
  f129:=Tryz.func135.trans (congrArg some (by kernel_rfl))
  f171:=Tryz.func53.trans (congrArg some (by kernel_rfl))
  f243:=Tryz.func94.trans (congrArg some (by kernel_rfl))
  f246:=Tryz.func153.trans (congrArg some (by kernel_rfl))
  f283:=Tryz.func195.trans (congrArg some (by kernel_rfl))
  f284:=Tryz.func196.trans (congrArg some (by kernel_rfl))
  f285:=Tryz.func197.trans (congrArg some (by kernel_rfl))
  f286:=Tryz.func198.trans (congrArg some (by kernel_rfl))
  f317:=Tryz.func218.trans (congrArg some (by kernel_rfl))
  f318:=Tryz.func219.trans (congrArg some (by kernel_rfl))
  f319:=Tryz.func220.trans (congrArg some (by kernel_rfl))
  f320:=Tryz.func221.trans (congrArg some (by kernel_rfl))
  f337:=Tryz.func228.trans (congrArg some (by kernel_rfl))
  f338:=Tryz.func229.trans (congrArg some (by kernel_rfl))
  t0:=Tryz.underlying0
  a0:=Tryz.isAgg0
  z0:=Tryz.sizeOf0
  v0:=Tryz.zeroValue0
  t2:=Tryz.underlying2
  a2:=Tryz.isAgg2
  z2:=Tryz.sizeOf2
  v2:=Tryz.zeroValue2
  t3:=Tryz.underlying3
  a3:=Tryz.isAgg3
  z3:=Tryz.sizeOf3
  v3:=Tryz.zeroValue3
  t4:=Tryz.underlying4
  a4:=Tryz.isAgg4
  z4:=Tryz.sizeOf4
  v4:=Tryz.zeroValue4
  t5:=Tryz.underlying5
  a5:=Tryz.isAgg5
  z5:=Tryz.sizeOf5
  v5:=Tryz.zeroValue5
  t9:=Tryz.underlying9
  a9:=Tryz.isAgg9
  z9:=Tryz.sizeOf9
  v9:=Tryz.zeroValue9
  t20:=Tryz.underlying20
  a20:=Tryz.isAgg20
  z20:=Tryz.sizeOf20
  v20:=Tryz.zeroValue20
  t37:=Tryz.underlying202
  a37:=Tryz.isAgg202
  z37:=Tryz.sizeOf202
  v37:=Tryz.zeroValue202
  t46:=Tryz.underlying136
  a46:=Tryz.isAgg136
  z46:=Tryz.sizeOf136
  v46:=Tryz.zeroValue136
  t51:=Tryz.underlying152
  a51:=Tryz.isAgg152
  z51:=Tryz.sizeOf152
  v51:=Tryz.zeroValue152
  t53:=Tryz.underlying42
  a53:=Tryz.isAgg42
  z53:=Tryz.sizeOf42
  v53:=Tryz.zeroValue42
  t171:=Tryz.underlying257
  a171:=Tryz.isAgg257
  z171:=Tryz.sizeOf257
  v171:=Tryz.zeroValue257
  t173:=Tryz.underlying259
  a173:=Tryz.isAgg259
  z173:=Tryz.sizeOf259
  v173:=Tryz.zeroValue259
  t212:=Tryz.underlying283
  a212:=Tryz.isAgg283
  z212:=Tryz.sizeOf283
  v212:=Tryz.zeroValue283
  t213:=Tryz.underlying284
  a213:=Tryz.isAgg284
  z213:=Tryz.sizeOf284
  t232:=Tryz.underlying295
  a232:=Tryz.isAgg295
  z232:=Tryz.sizeOf295
  v232:=Tryz.zeroValue295
  t233:=Tryz.underlying256
  a233:=Tryz.isAgg256
  z233:=Tryz.sizeOf256
  v233:=Tryz.zeroValue256
  g17:=by kernel_rfl
  g18:=by kernel_rfl
  g19:=by kernel_rfl
  i0:=by kernel_rfl
  i2:=by kernel_rfl
  i3:=by kernel_rfl
  i4:=by kernel_rfl
  i5:=by kernel_rfl
  i9:=by kernel_rfl
  i20:=by kernel_rfl
  i37:=by kernel_rfl
  i46:=by kernel_rfl
  i51:=by kernel_rfl
  i53:=by kernel_rfl
  i171:=by kernel_rfl
  i173:=by kernel_rfl
  i212:=by kernel_rfl
  i232:=by kernel_rfl
  i233:=by kernel_rfl
  m17:=by kernel_rfl
  m18:=by kernel_rfl
  m19:=by kernel_rfl }
end Go.Proofs
namespace Go.Esp
open Go.Proofs Go.Shelf Go.RowKit Go.Lib
def PowM (M : Mem) : Prop := ∃ g T fz, Tryz.prog.globalNamed "internal/strconv.uint64pow10" = some g ∧ M g = some (.cells (pow10Tab.map fun z => Value.int .u64 z).toArray T fz)
theorem PowM.mono {M M':Mem} (h:PowM M) (hm:M.le M'):PowM M':=by
  obtain ⟨g,T,fz,h1,h2⟩:=h
  exact ⟨g,T,fz,h1,hm.1 _ _ h2⟩
theorem PowM.tab {M : Mem} {H : Hp} {w : World} (h : PowM M) (hw : St M H w) : TabIs Tryz.prog w "internal/strconv.uint64pow10" .u64 pow10Tab := by
  obtain ⟨g,T,fz,h1,h2⟩:=h
  unfold TabIs World.var?
  rw [h1]
  show (match w.heap[g]? with|some (.cells cs _ _)=>some cs|_=>none)=_
  rw [hw.mem _ _ h2]
theorem PowM.of {W : World} (h : TabIs Tryz.prog W "internal/strconv.uint64pow10" .u64 pow10Tab) : PowM (Sf W) := by
  unfold TabIs World.var? at h
  cases hg : Tryz.prog.globalNamed "internal/strconv.uint64pow10" with
  | none=>rw [hg] at h;cases h
  | some g =>
    rw [hg] at h
    replace h:(match W.heap[g]? with|some (.cells cs _ _)=>some cs|_=>none)=_:=h
    split at h
    · rename_i cs T fz hc
      obtain rfl:=Option.some.inj h
      exact ⟨g,T,fz,hg,hc⟩
    · cases h
theorem St.grown {M:Mem} {H:Hp} {w:World} (h:St M H w) (k:Nat) (os:Array Obj):St M H (Sort.grow (w.drewN k) os):=by
  have hk:∀ b o,w.heap[b]?=some o→(w.heap++os)[b]?=some o:=fun b o hbo=>by
    obtain ⟨h1,h2⟩:=Array.getElem?_eq_some_iff.1 hbo
    rw [Array.getElem?_append_left h1];exact hbo
  exact ⟨fun b o hm=>hk b o (h.mem b o hm),fun b o hm=>hk b o (h.own b o hm),h.sep,h.nodup,h.io.1,h.io.2.1,h.io.2.2.1,Nat.le_trans h.io.2.2.2 (Nat.le_add_right _ _)⟩
theorem Itoa_all (M:Mem) (hp:PowM M) (i:Nat) (hi:i≤999):Fs Tryz.prog (Tryz.itoaM_ren.f 171) [.int .i64 (i:Int)] M (fun v=>v=.string ⟨(decDigits i).toArray⟩):=fun H w hw =>
  (Any.strconv_Itoa Tryz.itoaM (i:Int) jC jC w (hp.tab hw)).mono fun e w' ⟨he,k,os,hw'⟩=>⟨_,he,hw'.symm ▸ hw.grown k os,by unfold itoa;rw [if_neg jC];rfl⟩
end Go.Esp
namespace Go.Proofs.YtglnjnacodgmaaaGreatDoor
open Go.Esp
theorem pow_of {W : World} (h : laidMetH Tryz.prog [("math/bits.deBruijn32tab", Rows.laid_math_bits_deBruijn32tab), ("math/bits.deBruijn64tab", Rows.laid_math_bits_deBruijn64tab), ("internal/strconv.uint64pow10", Rows.laid_internal_strconv_uint64pow10)] W) : PowM (Sf W) := by
  rw [MakeChecks.laidMetH_plain _ _ _ jI] at h
  have h2 : laidMet Tryz.prog [("internal/strconv.uint64pow10", Lib.tabData .u64 Lib.pow10Tab)] W := h.tail.tail
  obtain ⟨gi, hg⟩ : ∃ gi, Tryz.prog.globalNamed "internal/strconv.uint64pow10" = some gi := Option.isSome_iff_exists.1 jI
  have hty:(Tryz.prog.globals[gi]?).map (·.type)=some 283:=by
    have h9 : (Tryz.prog.globalNamed "internal/strconv.uint64pow10").bind (fun gi => (Tryz.prog.globals[gi]?).map (·.type)) = some 283 := by kernel_rfl
    rw [hg] at h9
    exact h9
  exact PowM.of (Lib.tabIs_of_head hg hty Tryz.underlying283 Tryz.underlying42 jI jI h2)
end Go.Proofs.YtglnjnacodgmaaaGreatDoor
namespace Go.Esp
theorem Stp {p q:Prop} (hq:q) (h:q→p:=by
  intro h
  first
  | (with_reducible refine VP ?_;exact h)
  | (with_reducible refine Se ?_;exact h)
  | (with_reducible refine Xb ?_;exact h)
  | (with_reducible refine Vy ?_;exact h)
  | (with_reducible refine C_block ?_;exact h)
  | (with_reducible refine C_ret ?_;exact h)
  | (with_reducible refine C_exit ?_;exact h)
  | (with_reducible refine C_label ?_;exact h)
  | (with_reducible refine K_ret ?_;exact h)
  | (with_reducible refine K_retB ?_;exact h)
  | (with_reducible refine K_exit ?_;exact h)
  | (with_reducible refine K_out ?_;exact h)
  | (with_reducible refine K_hit ?_;exact h)
  | (refine C_region rfl ?_;exact h)
  | (refine C_true rfl ?_;exact h)
  | (refine C_false rfl ?_;exact h)
  | (refine Yk ?_;exact h)
  | (refine Y_skip ?_;exact h)
  | (refine VO ?_;exact h)
  | (refine Y_pick ?_;exact h)
  | (refine Ti ?_;exact h)
  | (refine YT ?_;exact h)
  | (refine Y_extract ?_;exact h)
  | (refine Y_not ?_;exact h)):p:=h hq
end Go.Esp
namespace Go.Esp
theorem ofB_step {f g:Nat→Nat} (hf:∀ i,f i<256) (hg:∀ i,g i<256) {n:Nat} (h:ofB n f<ofB n g):ofB (n+1) f<ofB (n+1) g:=by
  have:=hf n
  have:=hg n
  simp only [ofB]
  omega
theorem ofB_mono {f g:Nat→Nat} (hf:∀ i,f i<256) (hg:∀ i,g i<256) {m:Nat} (h:ofB m f<ofB m g):∀ n,ofB (m+n) f<ofB (m+n) g
  | 0=>h
  | n+1=>ofB_step hf hg (ofB_mono hf hg h n)
theorem less_of {a b:Plc} {k:Nat} (hk:k<20) (h:∀ j,j<k→idB a j=idB b j) (hlt:idB a k<idB b k):a.toNat<b.toNat:=by
  rw [← idB_toNat a,← idB_toNat b]
  have h1:ofB (k+1) (idB a)<ofB (k+1) (idB b):=by
    simp only [ofB,ofB_congr h]
    omega
  have:=ofB_mono (TZ a) (TZ b) h1 (20-(k+1))
  rwa [show k+1+(20-(k+1))=20 by omega] at this
theorem less_at {a b:Plc} {k:Nat} (hk:k<20) (h:∀ j,j<k→idB a j=idB b j) (hne:¬idB a k=idB b k):a.toNat<b.toNat↔idB a k<idB b k:=by
  constructor
  · intro hlt
    rcases Nat.lt_or_ge (idB a k) (idB b k) with h1|h1
    · exact h1
    · have:=less_of hk (fun j hj=>(h j hj).symm) (show idB b k<idB a k by omega)
      omega
  · exact less_of hk h
theorem plc_eq {a b:Plc} (h:∀ j,j<20→idB a j=idB b j):a=b:=by
  apply BitVec.eq_of_toNat_eq
  rw [← idB_toNat a,← idB_toNat b]
  exact ofB_congr h
def UP (x:Plc):ByteArray:=⟨((List.range 20).map fun i=>(idB x i).toUInt8).toArray⟩
theorem idBytes_size (x:Plc):(UP x).size=20:=by simp [UP,ByteArray.size]
theorem idBytes_at (x:Plc) {i:Nat} (h:i<20):(UP x)[i]! = (idB x i).toUInt8:=by
  have hs:i<(UP x).size:=by rw [idBytes_size];exact h
  rw [getElem!_pos (UP x) i hs]
  show (((List.range 20).map fun i=>(idB x i).toUInt8).toArray)[i]'zM=_
  simp
theorem u8_inj {m n:Nat} (hm:m<256) (hn:n<256):m.toUInt8=n.toUInt8↔m=n:=by
  constructor
  · intro h
    have:=congrArg UInt8.toNat h
    simp only [Nat.toUInt8,UInt8.toNat_ofNat'] at this
    omega
  · rintro rfl;rfl
theorem u8_lt {m n:Nat} (hm:m<256) (hn:n<256):m.toUInt8<n.toUInt8↔m<n:=by
  rw [UInt8.lt_iff_toNat_lt]
  simp only [Nat.toUInt8,UInt8.toNat_ofNat']
  omega
def cmpP (a b:Plc):Int:=if a.toNat<b.toNat then -1 else if a=b then 0 else 1
theorem cmp_bytes (a b:Plc):Extern.BytealgCompare.cmp (UP a) (UP b)=cmpP a b:=by
  unfold Extern.BytealgCompare.cmp cmpP
  rw [idBytes_size,idBytes_size,Nat.min_self]
  cases hf:(List.range 20).find? fun i=>(UP a)[i]! != (UP b)[i]! with
  | none =>
    have h:=List.find?_eq_none.1 hf
    have e:a=b:=plc_eq fun j hj=>by
      have:=h j (List.mem_range.2 hj)
      rw [idBytes_at a hj,idBytes_at b hj] at this
      exact (u8_inj (TZ _ _) (TZ _ _)).1 (by simpa using this)
    subst e
    simp
  | some i =>
    have h1:=List.find?_some hf
    have hi:i<20:=List.mem_range.1 (List.mem_of_find?_eq_some hf)
    have h2:∀ j,j<i→idB a j=idB b j:=by
      intro j hj
      have hj':j<20:=by omega
      rw [List.find?_range_eq_some] at hf
      have:=hf.2.2 j hj
      rw [idBytes_at a hj',idBytes_at b hj'] at this
      exact (u8_inj (TZ _ _) (TZ _ _)).1 (by simpa using this)
    rw [idBytes_at a hi,idBytes_at b hi] at h1
    have hne:¬idB a i=idB b i:=fun e=>by rw [e] at h1;simp at h1
    have hl:=less_at hi h2 hne
    simp only [idBytes_at a hi,idBytes_at b hi,u8_lt (TZ a i) (TZ b i)]
    have hab:a≠b:=fun e=>hne (by rw [e])
    simp only [hl,hab,if_false]
section
variable {P:Program} {M:Mem} {H:Hp}
theorem run_loadBytes {x:Plc} {w:World} {b:Nat} {T:TypeId} (hb:w.heap[b]?=some (rowO [Yb x] T)):∀ (n k:Nat) (acc:ByteArray),k+n=20→acc.data.toList=(List.range k).map (fun i=>(idB x i).toUInt8) →
    (Extern.Bytes.loadBytes ⟨b,k,none⟩ n acc).run P w=.ok (UP x) w
  | 0,k,acc,hk,ha=>by
    have:acc=UP x:=by
      apply ByteArray.ext
      apply Array.ext'
      rw [ha]
      simp [UP,show k=20 by omega]
    subst this
    rfl
  | n+1,k,acc,hk,ha=>by
    have hk':k<20:=by omega
    have hc:w.cell? ⟨b,k,none⟩=some (.int .u8 (idB x k)):=by
      rw [cell_of_row hb]
      have:=id_at' (x:=x) hk'
      simpa using this
    unfold Extern.Bytes.loadBytes
    rw [Sem.run_bind,run_load,hc]
    show (Sem.run P _ w)=_
    have:=run_loadBytes hb n (k+1) (acc.push (idB x k).toUInt8) jC (by simp [ByteArray.push,ha,List.range_succ])
    simpa [Addr.add_lit] using this
theorem run_compare {a b:Plc} {ba bb:Nat} {T U:TypeId} {w:World} (ha:w.heap[ba]?=some (rowO [Yb a] T)) (hb:w.heap[bb]?=some (rowO [Yb b] U)) :
    (Extern.BytealgCompare.compare #[.slice (some ⟨ba,0,none⟩) 20 20,.slice (some ⟨bb,0,none⟩) 20 20]).run P w=.ok (.int .i64 (cmpP a b)) w:=by
  have h1:(Extern.Bytes.bytesOf (.slice (some ⟨ba,0,none⟩) 20 20)).run P w=.ok (UP a) w:=run_loadBytes ha 20 0 .empty rfl jR
  have h2:(Extern.Bytes.bytesOf (.slice (some ⟨bb,0,none⟩) 20 20)).run P w=.ok (UP b) w:=run_loadBytes hb 20 0 .empty rfl jR
  show (do let u ← Extern.Bytes.bytesOf (.slice (some ⟨ba,0,none⟩) 20 20);let v ← Extern.Bytes.bytesOf (.slice (some ⟨bb,0,none⟩) 20 20);pure (goInt (Extern.BytealgCompare.cmp u v)):Sem Value).run P w=_
  rw [Yf h1,Yf h2,cmp_bytes]
  rfl
end
end Go.Esp
namespace Go.Esp
def Vl (a b:Plc):Prop:=a.toNat<b.toNat
instance (a b:Plc):Decidable (Vl a b):=by unfold Vl;exact inferInstance
theorem cmpP_neg {a b:Plc}:cmpP a b<0↔Vl a b:=by
  unfold cmpP Vl
  split
  · rename_i h;simp [h]
  · rename_i h
    split <;> simp [h]
def TP (l:List Zs):Prop:=(∀ p∈l,0≤p.addr∧p.addr≤999)∧(l.map Zs.addr).Nodup∧l.Pairwise (fun p q=>Vl p.id q.id)
instance (l:List Zs):Decidable (TP l):=by unfold TP;exact inferInstance
def Wy (l:List Zs):Prop:=(1≤l.length∧l.length≤16)∧TP l
instance (l:List Zs):Decidable (Wy l):=by unfold Wy;exact inferInstance
theorem circ_pre {l:List Zs} (h:TP l) (k:Nat):TP (l.take k) :=
  ⟨fun p hp=>h.1 p (List.mem_of_mem_take hp),h.2.1.sublist ((List.take_sublist k l).map _),h.2.2.sublist (List.take_sublist k l)⟩
theorem circ_take {l:List Zs} {k:Nat} (hk:k<l.length):TP (l.take (k+1))↔TP (l.take k)∧(0≤l[k].addr∧l[k].addr≤999)∧l[k].addr∉(l.take k).map Zs.addr∧(∀ h:0<k,Vl (l[k-1]'(by omega)).id l[k].id):=by
  have e:l.take (k+1)=l.take k++[l[k]]:=by rw [List.take_add_one,List.getElem?_eq_getElem hk];rfl
  rw [e]
  unfold TP
  simp only [List.mem_append,List.mem_singleton,List.map_append,List.map_cons,List.map_nil,List.nodup_append,List.pairwise_append,List.pairwise_singleton,List.nodup_cons,List.not_mem_nil,not_false_eq_true,List.nodup_nil,and_true,true_and]
  constructor
  · rintro ⟨h1,⟨h2,h3⟩,h4,h5⟩
    refine ⟨⟨fun p hp=>h1 p (.inl hp),h2,h4⟩,h1 _ (.inr rfl),fun hm=>h3 _ hm _ rfl rfl,fun h0=>?_⟩
    refine h5 _ ?_ _ rfl
    rw [List.mem_take_iff_getElem]
    exact ⟨k-1,by omega,rfl⟩
  · rintro ⟨⟨h1,h2,h3⟩,h4,h5,h6⟩
    refine ⟨fun p hp=>?_,⟨h2,fun a ha b hb=>?_⟩,h3,fun p hp q hq=>?_⟩
    · rcases hp with hp|rfl
      · exact h1 p hp
      · exact h4
    · subst hb;intro e;subst e;exact h5 ha
    · subst hq
      rw [List.mem_take_iff_getElem] at hp
      obtain ⟨j,hj,rfl⟩:=hp
      have hjk:j<k:=by omega
      have hlast:=h6 jC
      rcases Nat.lt_or_ge j (k-1) with h|h
      · have:=(List.pairwise_iff_getElem.1 h3) j (k-1) jY jY h
        simp only [List.getElem_take] at this
        exact Nat.lt_trans this hlast
      · have:j=k-1:=by omega
        subst this;exact hlast
def pO (l:List Zs) (x:Plc) (i:Nat):Bool:=match l[i]? with
  | some p=>decide (¬Vl p.id x)
  | none=>true
theorem pO_at {l:List Zs} {x:Plc} {i:Nat} (h:i<l.length):pO l x i=decide (¬Vl l[i].id x):=by
  unfold pO;rw [List.getElem?_eq_getElem h]
theorem pO_mono {l:List Zs} {x:Plc} (h:TP l) (i j:Nat) (hij:i≤j) (hj:j<l.length) (hp:pO l x i=true):pO l x j=true:=by
  rw [pO_at jC] at hp ⊢
  simp only [decide_eq_true_eq] at hp ⊢
  rcases Nat.lt_or_ge i j with h1|h1
  · have:=(List.pairwise_iff_getElem.1 h.2.2) i j jC hj h1
    unfold Vl at *
    omega
  · obtain rfl:i=j:=by omega
    exact hp
def ownerI (l:List Zs) (x:Plc):Nat:=TN (pO l x) l.length % l.length
theorem ownerI_lt {l:List Zs} {x:Plc} (h:0<l.length):ownerI l x<l.length:=Nat.mod_lt _ h
end Go.Esp
namespace Go.Esp
def SB (x:Plc) (k:Nat):Vector Value 20:=Vector.ofFn fun i:Fin 20=>if 20≤i.val+k then .int .u8 (idB x i.val) else .int .u8 0
theorem lastV_get (x:Plc) (k:Nat) {i:Nat} (h:i<20):(SB x k)[i]=if 20≤i+k then .int .u8 (idB x i) else .int .u8 0:=by
  unfold SB;rw [Vector.getElem_ofFn]
theorem lastV_none' (x:Plc):SB x 0=idV 0:=by
  apply Vector.ext;intro i hi
  rw [lastV_get x 0 hi,if_neg jC,idV_get _ hi];simp [idB]
theorem lastV_all (x:Plc):SB x 20=idV x:=by
  apply Vector.ext;intro i hi
  rw [lastV_get x 20 hi,if_pos jC,idV_get _ hi]
theorem lastV_step (x:Plc) {k:Nat} (h:k<20) {v:Int} (hv:v=(idB x (19-k):Nat)):(SB x k).set (19-k) (.int .u8 v)=SB x (k+1):=by
  subst hv
  apply Vector.ext;intro i hi
  rw [lastV_get x (k+1) hi]
  by_cases e:i=19-k
  · subst e
    rw [Vector.getElem_set_self,if_pos jC]
  · rw [Vector.getElem_set_ne _ _ (Ne.symm e),lastV_get x k hi]
    by_cases h1:20≤i+k
    · rw [if_pos h1,if_pos jC]
    · rw [if_neg h1,if_neg jC]
def frontV (x y:Plc) (k:Nat):Vector Value 20:=Vector.ofFn fun i:Fin 20=>if i.val<k then .int .u8 (idB x i.val) else .int .u8 (idB y i.val)
theorem frontV_get (x y:Plc) (k:Nat) {i:Nat} (h:i<20):(frontV x y k)[i]=if i<k then .int .u8 (idB x i) else .int .u8 (idB y i):=by
  unfold frontV;rw [Vector.getElem_ofFn]
theorem frontV_none (x y:Plc):frontV x y 0=idV y:=by
  apply Vector.ext;intro i hi
  rw [frontV_get x y 0 hi,if_neg jC,idV_get _ hi]
theorem frontV_all (x y:Plc):frontV x y 20=idV x:=by
  apply Vector.ext;intro i hi
  rw [frontV_get x y 20 hi,if_pos jC,idV_get _ hi]
theorem frontV_step (x y:Plc) {k:Nat} (h:k<20) {v:Int} (hv:v=(idB x k:Nat)):(frontV x y k).set k (.int .u8 v)=frontV x y (k+1):=by
  subst hv
  apply Vector.ext;intro i hi
  rw [frontV_get x y (k+1) hi]
  by_cases e:i=k
  · subst e
    rw [Vector.getElem_set_self,if_pos jC]
  · rw [Vector.getElem_set_ne _ _ (Ne.symm e),frontV_get x y k hi]
    by_cases h1:i<k
    · rw [if_pos h1,if_pos jC]
    · rw [if_neg h1,if_neg jC]
theorem mod_step (A P:Nat):A % (P * 256)=A % P+P * (A / P % 256):=Nat.mod_mul
theorem pow_step (k:Nat):256 ^ (k+1)=256 ^ k * 256:=Nat.pow_succ 256 k
theorem pow20:(256:Nat) ^ 20=2 ^ 160:=by decide
theorem idB_at (x:Plc) {k:Nat} (h:k<20):idB x (19-k)=x.toNat / 256 ^ k % 256:=by
  unfold idB;rw [show 19-(19-k)=k by omega]
theorem pow_split {k:Nat} (h:k<20):∃ C,2 ^ 160=256 ^ k * (256 * C):=by
  refine ⟨256 ^ (19-k),?_⟩
  rw [← pow20,← Nat.mul_assoc,← pow_step,← Nat.pow_add];congr 1;omega
theorem big_div (X:Nat) {k:Nat} (h:k<20):X % 2 ^ 160 / 256 ^ k % 256=X / 256 ^ k % 256:=by
  obtain ⟨C,hC⟩:=pow_split h
  rw [hC,Nat.mod_mul_right_div_self,Nat.mod_mul_right_mod]
def TO (a b:Plc) (k:Nat):Nat:=(a.toNat % 256 ^ k+b.toNat % 256 ^ k) / 256 ^ k
theorem carryK_zero (a b:Plc):TO a b 0=0:=by unfold TO;simp [Nat.mod_one]
theorem carryK_le (a b:Plc) (k:Nat):TO a b k≤1:=by
  unfold TO
  have hp:0<256 ^ k:=Nat.pow_pos jJ
  have h1:=Nat.mod_lt a.toNat hp
  have h2:=Nat.mod_lt b.toNat hp
  exact Nat.le_of_lt_succ ((Nat.div_lt_iff_lt_mul hp).2 jC)
theorem sum_step (a b:Plc) {k:Nat} (h:k<20) :
    (TO a b k+(idB a (19-k)+idB b (19-k))) % 256=idB (a+b) (19-k)∧(TO a b k+(idB a (19-k)+idB b (19-k))) / 256=TO a b (k+1):=by
  rw [idB_at a h,idB_at b h,idB_at (a+b) h,BitVec.toNat_add,big_div _ h]
  unfold TO
  rw [pow_step,mod_step,mod_step]
  have hp:0<256 ^ k:=Nat.pow_pos jJ
  generalize 256 ^ k=P at hp ⊢
  have e1:=Nat.div_add_mod a.toNat P
  have e2:=Nat.div_add_mod b.toNat P
  generalize a.toNat=A at *
  generalize b.toNat=B at *
  have e3:(A+B) / P=A / P+B / P+(A % P+B % P) / P:=by
    conv=>lhs;rw [← e1,← e2]
    rw [show P * (A / P)+A % P+(P * (B / P)+B % P)=(A % P+B % P)+P * (A / P+B / P) by rw [Nat.mul_add];omega,Nat.add_mul_div_left _ _ hp]
    omega
  constructor
  · rw [e3];omega
  · rw [← Nat.div_div_eq_div_mul,show A % P+P * (A / P % 256)+(B % P+P * (B / P % 256))=(A % P+B % P)+P * (A / P % 256+B / P % 256) by rw [Nat.mul_add];omega,Nat.add_mul_div_left _ _ hp]
theorem sub_toNat (a b:Plc):(a-b).toNat=(a.toNat+(2 ^ 160-b.toNat)) % 2 ^ 160:=by
  rw [BitVec.toNat_sub];congr 1;omega
theorem pow_lt {k:Nat} (h:k<160):2 ^ k<2 ^ 160:=Nat.pow_lt_pow_right (by decide) h
def powP (k:Nat):Plc:=BitVec.ofNat 160 (2 ^ k)
theorem powP_nat {k:Nat} (h:k<160):(powP k).toNat=2 ^ k:=by
  unfold powP;rw [BitVec.toNat_ofNat,Nat.mod_eq_of_lt (pow_lt h)]
theorem powP_byte {k i:Nat} (h:k<160) (hi:i<20):idB (powP k) i=if i=19-k / 8 then 2 ^ (k % 8) else 0:=by
  unfold idB
  rw [powP_nat h,show (256:Nat)=2 ^ 8 by decide,← Nat.pow_mul]
  have hk:=Nat.div_add_mod k 8
  split
  · rename_i e
    rw [show k=8 * (19-i)+k % 8 by omega,Nat.pow_add,Nat.mul_div_cancel_left _ (Nat.pow_pos jJ),show (8 * (19-i)+k % 8) % 8=k % 8 by omega]
    exact Nat.mod_eq_of_lt (Nat.pow_lt_pow_right jJ jC)
  · rename_i e
    rcases Nat.lt_or_ge (k / 8) (19-i) with h1|h1
    · rw [Nat.div_eq_of_lt (Nat.pow_lt_pow_right jJ jC)]
    · obtain ⟨d,hd⟩:∃ d,k=8 * (19-i)+8+d:=⟨k-8 * (19-i)-8,by omega⟩
      rw [hd,Nat.add_assoc,Nat.pow_add,Nat.mul_div_cancel_left _ (Nat.pow_pos jJ),Nat.pow_add]
      exact Nat.mul_mod_right _ _
theorem powV {k:Nat} (h:k<160) {v:Int} (hv:v=((2 ^ (k % 8):Nat):Int)):(idV 0).set (19-k / 8) (.int .u8 v)=idV (powP k):=by
  subst hv
  apply Vector.ext;intro i hi
  rw [idV_get _ hi,powP_byte h hi]
  by_cases e:i=19-k / 8
  · subst e;rw [Vector.getElem_set_self,if_pos rfl]
  · rw [Vector.getElem_set_ne _ _ (Ne.symm e),idV_get _ hi,if_neg e];simp [idB]
def Tj (a x b:Plc):Prop:=x≠a∧(a=b∨Vl (x-a) (b-a))
instance (a x b:Plc):Decidable (Tj a x b):=by unfold Tj;exact inferInstance
def HalfP (a x b:Plc):Prop:=x=b∨Tj a x b
instance (a x b:Plc):Decidable (HalfP a x b):=by unfold HalfP;exact inferInstance
theorem plc_nat {a b:Plc}:a=b↔a.toNat=b.toNat:=⟨fun h=>by rw [h],BitVec.eq_of_toNat_eq⟩
theorem open_arms (a x b:Plc):Tj a x b↔(if a=b then x≠a else if Vl a b then Vl a x∧Vl x b else Vl a x∨Vl x b):=by
  have ha:a.toNat<2 ^ 160:=a.isLt
  have hb:b.toNat<2 ^ 160:=b.isLt
  have hx:x.toNat<2 ^ 160:=x.isLt
  unfold Tj
  by_cases h1:a=b
  · rw [if_pos h1];simp [h1]
  · rw [if_neg h1]
    by_cases h2:Vl a b
    · rw [if_pos h2]
      unfold Vl at *
      rw [sub_toNat,sub_toNat]
      simp only [ne_eq,plc_nat] at *
      omega
    · rw [if_neg h2]
      unfold Vl at *
      rw [sub_toNat,sub_toNat]
      simp only [ne_eq,plc_nat] at *
      omega
theorem sum_at (a b:Plc) {m:Nat} (h:m<20):((TO a b (20-(m+1)):Nat)+((idB a m:Nat)+(idB b m:Nat)):Int) % 256=(idB (a+b) m:Nat)∧((TO a b (20-(m+1)):Nat)+((idB a m:Nat)+(idB b m:Nat)):Int) / 256=(TO a b (20-m):Nat):=by
  have h1:=sum_step a b (k:=19-m) jC
  rw [show 19-(19-m)=m by omega,show 19-m+1=20-m by omega] at h1
  rw [show 20-(m+1)=19-m by omega]
  omega
theorem lastV_put (x:Plc) {m:Nat} (h:m<20) {v:Int} (hv:v=(idB x m:Nat)):(SB x (20-(m+1))).set m (.int .u8 v)=SB x (20-m):=by
  have:=lastV_step x (k:=19-m) jC (v:=v) (by rw [show 19-(19-m)=m by omega];exact hv)
  simp only [show 19-(19-m)=m by omega,show 19-m+1=20-m by omega] at this
  simpa only [show 20-(m+1)=19-m by omega] using this
theorem powV0 {k:Nat} (h:k<160) {j:Nat} (hj:j=19-k / 8) {v:Int} (hv:v=((2 ^ (k % 8):Nat):Int)) (hp:j<20):(idV 0).set j (.int .u8 v) hp=idV (powP k):=by
  subst hj;exact powV h hv
theorem shl_one {k:Nat}:IntKind.u8.wrap (1 * 2 ^ (min ((k % 8:Nat):Int).toNat IntKind.u8.bits))=((2 ^ (k % 8):Nat):Int):=by
  have h:k % 8<8:=Nat.mod_lt _ jJ
  generalize k % 8=j at h
  have:j=0∨j=1∨j=2∨j=3∨j=4∨j=5∨j=6∨j=7:=by omega
  rcases this with rfl|rfl|rfl|rfl|rfl|rfl|rfl|rfl <;> decide
end Go.Esp
namespace Go.Esp
def idxF {α:Type} (p:α→Bool) (l:List α):Int:=if l.any p then (l.findIdx p:Int) else -1
theorem idxF_at {α:Type} {p:α→Bool} {l:List α} {k:Nat} (hk:k<l.length) (h1:∀ j (h:j<k),p (l[j]'(by omega))=false) (h2:p l[k]=true):idxF p l=k:=by
  unfold idxF
  rw [if_pos (List.any_eq_true.2 ⟨_,List.getElem_mem hk,h2⟩)]
  congr 1
  exact (List.findIdx_eq hk).2 ⟨h2,fun j hj=>by simpa using h1 j hj⟩
theorem idxF_none {α:Type} {p:α→Bool} {l:List α} (h:∀ j (h:j<l.length),p l[j]=false):idxF p l=-1:=by
  unfold idxF
  rw [if_neg]
  intro ha
  obtain ⟨x,hx,hp⟩:=List.any_eq_true.1 ha
  obtain ⟨j,hj,rfl⟩:=List.getElem_of_mem hx
  rw [h j hj] at hp;cases hp
theorem idxF_nn {α:Type} {p:α→Bool} {l:List α}:decide (0≤idxF p l)=l.any p:=by
  unfold idxF
  by_cases h:l.any p=true
  · rw [if_pos h,h];simp
  · rw [if_neg h];simp at h;simp;exact h
end Go.Esp
namespace Go.Esp
def Yo (a:Int):Prop:=0≤a∧a≤999
instance (a:Int):Decidable (Yo a):=by unfold Yo;exact inferInstance
def YD:Zs:=⟨-1,0⟩
def Xn (s p:Zs):Prop:=Yo p.addr∧p.addr≠s.addr∧p.id≠s.id
instance (s p:Zs):Decidable (Xn s p):=by unfold Xn;exact inferInstance
def Sd (s p:Zs):Prop:=p=YD∨Xn s p
instance (s p:Zs):Decidable (Sd s p):=by unfold Sd;exact inferInstance
def hasA (l:List Zs) (a:Int):Prop:=a∈l.map Zs.addr
instance (l:List Zs) (a:Int):Decidable (hasA l a):=by unfold hasA;exact inferInstance
structure Tb where
  self:Zs
  pred:Zs
  succ:List Zs
  fingers:List Zs
  deriving DecidableEq
def ZO.tb (t:ZO):Tb:=⟨t.self,t.pred,t.succ.l,t.fingers.l⟩
def Sc (s:Zs) (l:List Zs):Prop:=(∀ p∈l,Xn s p)∧(l.map Zs.addr).Nodup
instance (s:Zs) (l:List Zs):Decidable (Sc s l):=by unfold Sc;exact inferInstance
def IsTb (t:Tb):Prop:=Yo t.self.addr∧Sd t.self t.pred∧t.succ.length≤8∧t.fingers.length=160∧Sc t.self t.succ∧∀ p∈t.fingers,Sd t.self p
instance (t:Tb):Decidable (IsTb t):=by unfold IsTb;exact inferInstance
def Tb.zero:Tb:=⟨⟨0,0⟩,⟨0,0⟩,[],[]⟩
def newT (self:Zs):Tb×Int:=if Yo self.addr then (⟨self,YD,[],List.replicate 160 YD⟩,0) else (Tb.zero,1)
def Xy (t:Tb):Zs:=t.succ.headD t.self
def Ta (t:Tb) (p:Zs):Prop:=Xn t.self p∧Tj t.self.id p.id (Xy t).id
instance (t:Tb) (p:Zs):Decidable (Ta t p):=by unfold Ta;exact inferInstance
def VD (s:Zs) (r:Int):List Zs→List Zs→List Zs
  | acc,[]=>acc
  | acc,p::rest=>if ¬Xn s p∨(acc.length:Int)=r then acc else if hasA acc p.addr then VD s r acc rest else VD s r (acc++[p]) rest
def VK (t:Tb) (first:Zs) (rest:List Zs) (r:Int):Tb×Int :=
  if IsTb t∧Xn t.self first∧1≤r∧r≤8 then ({ t with succ:=VD t.self r [first] rest },0) else (Tb.zero,1)
def Ub (t:Tb) (p:Zs):Tb:=if IsTb t∧Xn t.self p∧(t.pred=YD∨Tj t.pred.id p.id t.self.id) then { t with pred:=p } else t
def inArc (s p:Zs) (j:Nat):Bool:=decide (HalfP s.id (s.id+powP j) p.id)
def WW (s p:Zs) (k:Nat):Nat→Nat→Nat
  | j,0=>j
  | j,n+1=>if k<j∧inArc s p j=false then j else WW s p k (j+1) n
def fingerOf (t:Tb) (p:Zs):Zs:=if p=t.self then YD else p
def WV (t:Tb) (k:Int) (p:Zs):Tb×Int×Int :=
  if IsTb t∧(0≤k∧k<160)∧(p=t.self∨Xn t.self p) then
    let e:=WW t.self p k.toNat k.toNat (160-k.toNat)
    ({ t with fingers:=t.fingers.take k.toNat++List.replicate (e-k.toNat) (fingerOf t p)++t.fingers.drop e },if e=160 then 0 else e,0)
  else (Tb.zero,0,1)
def XK (t:Tb) (a:Int):Tb :=
  ⟨t.self,if t.pred.addr=a then YD else t.pred,t.succ.filter (fun p=>p.addr≠a),t.fingers.map (fun p=>if p.addr=a then YD else p)⟩
def insP (p:Zs):List Zs→List Zs
  | []=>[p]
  | q::l=>if q.addr<p.addr then q::insP p l else p::q::l
def knownStep (s:Zs) (out:List Zs) (p:Zs):List Zs:=if p.addr<0∨p.addr=s.addr∨hasA out p.addr then out else insP p out
def To (t:Tb):List Zs:=(t.pred::(t.succ++t.fingers)).foldl (knownStep t.self) []
def VB (s:Zs) (id:Plc) (avoid:List Int) (b:Zs×Bool) (p:Zs):Zs×Bool :=
  if p.addr∈avoid∨¬Tj s.id p.id id then b else if b.2=false∨Tj b.1.id p.id id then (p,true) else b
def Ww (t:Tb) (id:Plc) (avoid:List Int):Zs×Bool:=(To t).foldl (VB t.self id avoid) (YD,false)
def Th (t:Tb) (id:Plc):Zs×Bool:=(Xy t,decide (HalfP t.self.id id (Xy t).id))
theorem any_has {l:List Zs} {a:Int}:(l.any fun p=>decide (p.addr=a))=decide (hasA l a):=by
  rw [Bool.eq_iff_iff];simp [hasA,List.mem_map]
theorem succOk_take {s:Zs} {l:List Zs} {k:Nat} (hk:k<l.length):Sc s (l.take (k+1))↔Sc s (l.take k)∧Xn s l[k]∧¬hasA (l.take k) l[k].addr:=by
  have e:l.take (k+1)=l.take k++[l[k]]:=by rw [List.take_add_one,List.getElem?_eq_getElem hk];rfl
  rw [e]
  unfold Sc hasA
  simp only [List.mem_append,List.mem_singleton,List.map_append,List.map_cons,List.map_nil,List.nodup_append,List.nodup_cons,List.not_mem_nil,not_false_eq_true,List.nodup_nil,and_true,true_and]
  constructor
  · rintro ⟨h1,h2,h3⟩
    exact ⟨⟨fun p hp=>h1 p (.inl hp),h2⟩,h1 _ (.inr rfl),fun hm=>h3 _ hm _ rfl rfl⟩
  · rintro ⟨⟨h1,h2⟩,h3,h4⟩
    refine ⟨fun p hp=>?_,h2,fun a ha b hb=>?_⟩
    · rcases hp with hp|rfl
      · exact h1 p hp
      · exact h3
    · subst hb;intro e;subst e;exact h4 ha
theorem succOk_pre {s:Zs} {l:List Zs} (h:Sc s l) (k:Nat):Sc s (l.take k):=⟨fun p hp=>h.1 p (List.mem_of_mem_take hp),h.2.sublist ((List.take_sublist k l).map _)⟩
def TabIs (M:Mem) (v:Value) (T:Tb):Prop:=∃ t:ZO,v=t.enc∧t.tb=T∧ZO.ok M t
theorem VU {M:Mem} {sa:Int} {si:Plc} {pa:Int} {pi:Plc} {s1 s2:Sl Zs} {v1 v2:Value} {T:Tb} (h1:v1=s1.val) (h2:v2=s2.val) (k1:SlK M Zs.segs 21 s1) (k2:SlK M Zs.segs 21 s2) (hT:(⟨⟨sa,si⟩,⟨pa,pi⟩,s1.l,s2.l⟩:Tb)=T) :
    TabIs M (aggV [.one (.int .i64 sa),Yb si,.one (.int .i64 pa),Yb pi,.one v1,.one v2]) T:=by
  subst h1 h2
  exact ⟨⟨⟨sa,si⟩,⟨pa,pi⟩,s1,s2⟩,rfl,hT,⟨k1,k2⟩⟩
theorem tabIs_zero {M:Mem}:TabIs M (aggV [.one (.int .i64 0),Yb 0,.one (.int .i64 0),Yb 0,.one (.slice none 0 0),.one (.slice none 0 0)]) Tb.zero:=⟨ZO.zero,rfl,rfl,ZO.zero_ok M⟩
def TabE (M:Mem) (v:Value) (r:Tb×Int):Prop:=∃ u,v=.tuple #[u,.int .i64 r.2]∧TabIs M u r.1
theorem isTb_small {t:ZO} (h:IsTb t.tb):t.succ.l.length≤40∧t.fingers.l.length≤200:=by
  obtain ⟨_,_,h1,h2,_⟩:=h
  simp only [ZO.tb] at h1 h2
  omega
def kept {α:Type} (p:α→Bool) (l:List α):List α:=l.filter (fun x=>!p x)
theorem kept_none {α:Type} {p:α→Bool} {l:List α} (h:idxF p l=-1):kept p l=l:=by
  unfold idxF at h
  split at h
  · rename_i h1;omega
  · rename_i h1
    unfold kept
    rw [List.filter_eq_self]
    intro x hx
    simp at h1
    simp [h1 x hx]
theorem idxF_some {α:Type} {p:α→Bool} {l:List α} (h:idxF p l≠-1):∃ i,idxF p l=(i:Nat)∧∃ hi:i<l.length,kept p (l.take (i+1))=l.take i∧p l[i]=true:=by
  unfold idxF at h ⊢
  split
  · rename_i h1
    have hi:l.findIdx p<l.length:=List.findIdx_lt_length_of_exists (by simpa using h1)
    refine ⟨l.findIdx p,rfl,hi,?_,List.findIdx_getElem (w:=hi)⟩
    unfold kept
    rw [List.take_add_one,List.getElem?_eq_getElem hi,List.filter_append]
    have e1:(l.take (l.findIdx p)).filter (fun x=>!p x)=l.take (l.findIdx p):=by
      rw [List.filter_eq_self]
      intro x hx
      obtain ⟨j,hj,rfl⟩:=List.mem_take_iff_getElem.1 hx
      have:=List.not_of_lt_findIdx (p:=p) (xs:=l) (i:=j) jC
      simp [this]
    have e2:p (l[l.findIdx p])=true:=List.findIdx_getElem (w:=hi)
    rw [e1];simp [e2]
  · rename_i h1;rw [if_neg h1] at h;exact (h rfl).elim
theorem filt_step {α:Type} {p:α→Bool} {l:List α} {j:Nat} (hj:j<l.length):kept p (l.take (j+1))=if p l[j] then kept p (l.take j) else kept p (l.take j)++[l[j]]:=by
  unfold kept
  rw [List.take_add_one,List.getElem?_eq_getElem hj,List.filter_append]
  cases h:p l[j] <;> simp [h]
theorem keep_put {α:Type} {w l:List α} {i j:Nat} {q:List α} (hw:w.length=l.length) (hij:i<j) (hj:j<l.length) (h1:w.take i=q) (h2:w.drop j=l.drop j):(w.set i l[j]).length=l.length∧(w.set i l[j]).take (i+1)=q++[l[j]]∧(w.set i l[j]).drop (j+1)=l.drop (j+1):=by
  refine ⟨by simpa using hw,?_,?_⟩
  · rw [List.take_add_one,List.getElem?_set_self jC,List.take_set_of_le (Nat.le_refl i),h1];rfl
  · rw [List.drop_set_of_lt jC]
    have:=congrArg (List.drop 1) h2
    simpa [List.drop_drop] using this
theorem drop_at {α:Type} {w l:List α} {j:Nat} (hw:w.length=l.length) (hj:j<l.length) (h2:w.drop j=l.drop j):w[j]'(by omega)=l[j]:=by
  have e1:=List.drop_eq_getElem_cons (l:=w) (i:=j) jC
  have e2:=List.drop_eq_getElem_cons (l:=l) (i:=j) hj
  rw [e1,e2] at h2
  exact (List.cons.inj h2).1
theorem kept_ne {l:List Zs} {a:Int}:kept (fun p=>decide (p.addr=a)) l=l.filter (fun p=>p.addr≠a):=by
  unfold kept;congr 1;funext p;simp
def gone1 (a:Int) (p:Zs):Zs:=if p.addr=a then YD else p
theorem turn_step {α:Type} {w l:List α} {f:α→α} {k:Nat} (hw:w.length=l.length) (hk:k<l.length) (h1:w.take k=(l.take k).map f) (h2:w.drop k=l.drop k) {x:α} (hx:x=f l[k]) :
    (w.set k x).length=l.length∧(w.set k x).take (k+1)=(l.take (k+1)).map f∧(w.set k x).drop (k+1)=l.drop (k+1):=by
  refine ⟨by simpa using hw,?_,?_⟩
  · rw [List.take_add_one,List.getElem?_set_self jC,List.take_set_of_le (Nat.le_refl k),h1,List.take_add_one,List.getElem?_eq_getElem hk,List.map_append,hx];rfl
  · rw [List.drop_set_of_lt jC]
    have:=congrArg (List.drop 1) h2
    simpa [List.drop_drop] using this
theorem turn_stay {α:Type} {w l:List α} {f:α→α} {k:Nat} (hw:w.length=l.length) (hk:k<l.length) (h1:w.take k=(l.take k).map f) (h2:w.drop k=l.drop k) (hx:l[k]=f l[k]) :
    w.take (k+1)=(l.take (k+1)).map f∧w.drop (k+1)=l.drop (k+1):=by
  constructor
  · rw [List.take_add_one,List.getElem?_eq_getElem jC,drop_at hw hk h2,h1,List.take_add_one,List.getElem?_eq_getElem hk,List.map_append]
    simp [← hx]
  · have:=congrArg (List.drop 1) h2
    simpa [List.drop_drop] using this
def ofPB (r:Zs×Bool):Value:=.tuple #[r.1.enc,.bool r.2]
end Go.Esp
namespace Go.Esp
theorem rowsCells_len {sz:Nat} {rows:List Segs} (h:lens sz rows):(ZZ rows).length=rows.length * sz:=Xg h
theorem lens.take {sz:Nat} {rows:List Segs} (h:lens sz rows) (k:Nat):lens sz (rows.take k):=fun r hr=>h r (List.mem_of_mem_take hr)
theorem lens.drop {sz:Nat} {rows:List Segs} (h:lens sz rows) (k:Nat):lens sz (rows.drop k):=fun r hr=>h r (List.mem_of_mem_drop hr)
theorem rowsCells_take {sz:Nat} {rows:List Segs} (h:lens sz rows) {k:Nat} (hk:k≤rows.length):ZZ (rows.take k)=(ZZ rows).take (k * sz):=by
  have e:ZZ rows=ZZ (rows.take k)++ZZ (rows.drop k):=by rw [← XX,List.take_append_drop]
  have hl:(ZZ (rows.take k)).length=k * sz:=by rw [Xg (h.take k)];simp [hk]
  rw [e,← hl,List.take_left]
theorem rowsCells_drop {sz:Nat} {rows:List Segs} (h:lens sz rows) {k:Nat} (hk:k≤rows.length):ZZ (rows.drop k)=(ZZ rows).drop (k * sz):=by
  have e:ZZ rows=ZZ (rows.take k)++ZZ (rows.drop k):=by rw [← XX,List.take_append_drop]
  have hl:(ZZ (rows.take k)).length=k * sz:=by rw [Xg (h.take k)];simp [hk]
  rw [e,← hl,List.drop_left]
theorem SlM.take {M:Mem} {a:Option Addr} {rows:List Segs} {sz:Nat} (h:SlM M a rows sz) {k:Nat} (hk:k≤rows.length):SlM M a (rows.take k) sz:=by
  refine ⟨h.lens.take k,fun hn=>?_⟩
  obtain ⟨b,off,c,T,fz,h1,h2,h3⟩:=h.there (fun e=>hn (by rw [e];simp))
  refine ⟨b,off,c,T,fz,h1,h2,?_⟩
  rw [rowsCells_take h.lens hk,← h3,List.take_take,List.length_take,Nat.min_eq_left hk]
  congr 1
  have:=Nat.mul_le_mul_right sz hk
  omega
def shiftA (a:Option Addr) (c k sz:Nat):Option Addr:=if c=k then a else a.map (·.add (k * sz))
theorem SlM.drop {M:Mem} {a:Option Addr} {rows:List Segs} {sz c:Nat} (h:SlM M a rows sz) {k:Nat} (hk:k≤rows.length) (hc:rows.length≤c):SlM M (shiftA a c k sz) (rows.drop k) sz:=by
  refine ⟨h.lens.drop k,fun hn=>?_⟩
  obtain ⟨b,off,x,T,fz,h1,h2,h3⟩:=h.there (fun e=>hn (by rw [e];simp))
  have hlt:k<rows.length:=by
    rcases Nat.lt_or_ge k rows.length with h'|h'
    · exact h'
    · exact (hn (List.drop_eq_nil_of_le h')).elim
  refine ⟨b,off+k * sz,x,T,fz,?_,h2,?_⟩
  · unfold shiftA
    rw [if_neg jC,h1];simp [Addr.add_lit]
  · rw [rowsCells_drop h.lens hk,← h3,List.drop_take,List.drop_drop,List.length_drop,Nat.sub_mul]
theorem Vw {r:Segs} (h:flat r):∀ u∈ZZ [r],u.oneCell'=true:=fun u hu=>by
  simp only [ZZ,List.append_nil] at hu
  exact h u hu
theorem Addr.add_zero' (a:Addr):a.add 0=a:=by unfold Addr.add;simp
theorem pieceV_take {α:Type} {a:Option Addr} {sz c k:Nat} {l:List α} (hk:k≤l.length):WJ a sz 0 k c=Sl.val ⟨a,c,l.take k⟩:=by
  unfold WJ
  simp only [Nat.zero_mul,Nat.sub_zero,Sl.val,List.length_take,Nat.min_eq_left hk]
  congr 1
  split
  · rfl
  · cases a with
    | none=>rfl
    | some x=>simp [Addr.add_zero']
theorem pieceV_drop {α:Type} {a:Option Addr} {sz c k:Nat} {l:List α}:WJ a sz k l.length c=Sl.val ⟨shiftA a c k sz,c-k,l.drop k⟩:=by
  unfold WJ shiftA
  simp only [Sl.val,List.length_drop]
theorem SlK.take {α:Type} {M:Mem} {f:α→Segs} {sz:Nat} {a:Option Addr} {c:Nat} {l:List α} (h:SlK M f sz ⟨a,c,l⟩) (k:Nat) (hk:k≤l.length):SlK M f sz ⟨a,c,l.take k⟩:=by
  have h2:=h.h2;have h3:=h.h3
  simp only at h2 h3
  refine ⟨?_,?_,?_⟩
  · simp only [List.map_take];exact h.h1.take (by simpa using hk)
  · simp only [List.length_take];omega
  · simp only [List.length_take];omega
theorem SlK.drop {α:Type} {M:Mem} {f:α→Segs} {sz:Nat} {a:Option Addr} {c:Nat} {l:List α} (h:SlK M f sz ⟨a,c,l⟩) (k:Nat) (hk:k≤l.length):SlK M f sz ⟨shiftA a c k sz,c-k,l.drop k⟩:=by
  have h2:=h.h2;have h3:=h.h3
  simp only at h2 h3
  refine ⟨?_,?_,?_⟩
  · simp only [List.map_drop];exact h.h1.drop (by simpa using hk) (by simpa using h3)
  · simp only [List.length_drop];omega
  · simp only [List.length_drop];omega
theorem OSl.caps {T sz l c:Nat} {a:Option Addr} {hs:Hp} {rows:List Segs} (h:OSl T sz (.slice a l c) hs rows):rows.length≤c∧c≤maxLen∧l=rows.length:=by
  generalize hv:Value.slice a l c=v at h
  cases h with
  | nil=>cases hv;exact ⟨Nat.le_refl _,Nat.zero_le _,rfl⟩
  | own b c' _ cur g1 g2 g3 g4 g5=>cases hv;exact ⟨g2,g3,rfl⟩
theorem OSl.noneAll {α:Type} {T sz c:Nat} {f:α→Segs} {l:List α} {hs:Hp} (h:OSl T sz (.slice none l.length c) hs (l.map f)):l=[]∧c=0∧hs=[]:=by
  generalize hv:Value.slice none l.length c=v at h
  generalize hr:l.map f=r at h
  cases h with
  | nil=>simp only [Value.slice.injEq] at hv;exact ⟨List.map_eq_nil_iff.1 hr,hv.2.2,rfl⟩
  | own=>simp at hv
theorem OSl.someAll {T sz l c:Nat} {ad:Addr} {hs:Hp} {rows:List Segs} (h:OSl T sz (.slice (some ad) l c) hs rows):∃ b,ad=⟨b,0,none⟩:=by
  generalize hv:Value.slice (some ad) l c=v at h
  cases h with
  | nil=>simp at hv
  | own b=>simp only [Value.slice.injEq,Option.some.injEq] at hv;exact ⟨b,hv.1⟩
theorem OSl.freezeK {α:Type} {T sz:Nat} {v:Value} {hs:Hp} {f:α→Segs} {l:List α} {M:Mem} {H:Hp} (ho:OSl T sz v hs (l.map f)) {w:World} (hw:St M (hs++H) w):∃ (M':Mem) (s:Sl α),M.le M'∧St M' H w∧v=s.val∧s.l=l∧SlK M' f sz s:=by
  obtain ⟨M',a,c,h1,h2,h3,h4⟩:=ho.freeze hw
  rw [h3] at ho
  obtain ⟨g1,g2,_⟩:=ho.caps
  simp only [List.length_map] at g1
  exact ⟨M',⟨a,c,l⟩,h1,h2,by rw [h3];simp [Sl.val],rfl,h4,by simp only;omega,g1⟩
end Go.Esp
namespace Go.Esp
section
variable {P:Program} {n:Sh} {ops:Array Oper} {Q:Exit→Act→World→Prop} {rest:List Nat} {M M':Mem} {H H' H0:Hp} {e:Env} {J S:World→Prop} {A:As} {i:Nat}
  {dst:Option Tmp} {d:Tmp} {op:Op} {ty:TypeId} {pos:String} {af:Array Edge} {gd:Option (Nat×Bool)}
theorem rows_one {α:Type} {f:α→Segs} (hf:∀ x,flat (f x)):∀ (l:List α),∀ u∈ZZ (l.map f),u.oneCell'=true
  | [],u,hu=>by cases hu
  | x::l,u,hu=>by
    rcases List.mem_append.1 (show u∈Segs.cells (f x)++ZZ (l.map f) from hu) with hu|hu
    · exact hf x u hu
    · exact rows_one hf l u hu
theorem SlM.none_nil {α:Type} {f:α→Segs} {sz:Nat} {l:List α} (h:SlM M Option.none (l.map f) sz):l=[]:=by
  cases l with
  | nil=>rfl
  | cons x l=>obtain ⟨b,off,c,T,fz,h1,_⟩:=h.there jU;cases h1
theorem SlM.src {ad:Addr} {rows:List Segs} {sz l c:Nat} (h:SlM M (some ad) rows sz) (h1:∀ u∈ZZ rows,u.oneCell'=true) (hl:l=rows.length):Src M H sz (.slice (some ad) l c) rows:=by
  subst hl
  refine ⟨h.lens,h1,ad,c,rfl,fun w hw j u hu=>?_⟩
  obtain ⟨b,off,x,T,fz,e1,h2,h3⟩:=h.there (fun e=>by rw [e] at hu;simp [ZZ] at hu)
  cases e1
  rw [Addr.add_lit,cell_of_row (hw.mem _ _ h2)]
  rw [← h3,List.getElem?_take,List.getElem?_drop] at hu
  split at hu
  · simpa using hu
  · cases hu
theorem X_append_none {t E sz by_:Nat} {x y:Operand} {a:Option Addr} {l c c':Nat} {ats:Array TypeId} (hi:ops[i]?=some ⟨some d,.call ⟨.builtin .append,#[x,y],ats⟩,ty,pos,af,gd⟩) (hg:want ops e gd=some true)
    (hx:ev e x=some (.slice a l c)) (hy:ev e y=some (.slice Option.none 0 c')) (hat:ats=#[t,t]) (ht:slOf P t=some (E,sz,by_)) (hlc:l≤c) (hd:Nat.ble (d+1) n.sz=true)
    (hk:XD P n ops Q rest (St M H) ⟨M,H⟩ ((d,.slice a l c)::e)) (hnw:n.wrs.contains i=false:=by rfl):XD P n ops Q (i::rest) J ⟨M,H⟩ e:=by
  subst hat
  refine Tz hi rfl hg (fun a' w ha hw=>?_) hnw
  obtain ⟨it,hu,hit,rfl,rfl⟩:=WA ht
  have hr:(Builtin.append_ #[t,t] ty #[.slice a l c,.slice Option.none 0 c']).run P w=.ok (.slice a l c) w:=by
    cases a <;> simp [Builtin.append_,run_underlying hu,sizeOf,typeInfo,hit,Builtin.lenOf,Builtin.firstCells,hlc,storeCells]
  unfold Oper.does
  have:(execOp a'.eval ⟨some d,.call ⟨.builtin .append,#[x,y],#[t,t]⟩,ty,pos,af,gd⟩).run P w=.ok (.value (.slice a l c)) w:=by
    simp only [execOp,resolve,pure_bind,invoke]
    have:#[x,y].map a'.eval=#[.slice a l c,.slice Option.none 0 c']:=by simp [ha.ev hx,ha.ev hy]
    rw [this]
    exact Wp hr
  rw [this]
  exact ⟨⟨M,H⟩,_,hw,ha.put hd _,hk⟩
theorem made_cells {z:Array Value} {zr:Segs} (hz:z.toList=Segs.cells zr) (hp:0<z.size):∀ (n:Nat),(madeCells z (n * z.size)).toList=ZZ (List.replicate n zr)
  | 0=>by simp [madeCells,ZZ]
  | n+1=>by
    have ih:=made_cells hz hp n
    rw [List.replicate_succ',XX,← ih]
    simp only [madeCells,Array.toList_map,Array.toList_range,ZZ,List.append_nil,Nat.add_mul,Nat.one_mul] at *
    rw [List.range_add,List.map_append]
    congr 1
    rw [← hz,List.map_map]
    apply List.ext_getElem
    · simp
    · intro j h1 h2
      simp only [List.length_map,List.length_range] at h1
      simp only [List.getElem_map,List.getElem_range,Function.comp,Nat.mul_add_mod_self_right]
      rw [Nat.mod_eq_of_lt h1,getElem!_pos z j h1]
      simp
theorem X_makeSliceO {t E sz by_ k:Nat} {z:Value} {zr:Segs} {x y:Operand} (hi:ops[i]?=some ⟨some d,.makeSlice t x y,ty,pos,af,gd⟩) (hg:want ops e gd=some true)
    (hx:ev e x=some (.int .i64 (k:Int))) (hy:ev e y=some (.int .i64 (k:Int))) (ht:slOf P t=some (E,sz,by_)) (hz:XW P E=some z) (hzr:z.cells.toList=Segs.cells zr) (hzs:z.cells.size=sz) (hsz:Nat.ble 1 sz=true)
    (hk9:k * sz≤16777216) (hkb:by_ * k≤281474976710656) (hd:Nat.ble (d+1) n.sz=true)
    (hk:∀ (b:Nat) hs',OSl E sz (.slice (some ⟨b,0,Option.none⟩) k k) hs' (List.replicate k zr)→XD P n ops Q rest J ⟨M,hs'++H⟩ ((d,.slice (some ⟨b,0,Option.none⟩) k k)::e)):XD P n ops Q (i::rest) J ⟨M,H⟩ e:=by
  obtain ⟨it,hu,hit,rfl,rfl⟩:=WA ht
  have hz':it.zero=some z:=by simpa [XW,hit] using hz
  have hpos:1≤it.size:=Nat.le_of_ble_eq_true hsz
  have hkl:k≤k * it.size:=Nat.le_mul_of_pos_right k hpos
  have hb9:(it.bytes:Int) * (k:Int)≤281474976710656:=by
    have h9:((it.bytes * k:Nat):Int)≤281474976710656:=by omega
    simpa using h9
  have hlen:Segs.len zr=it.size:=by rw [← hzs,← Segs.cells_length,← hzr];simp
  have ho:∀ b,OSl E it.size (.slice (some ⟨b,0,Option.none⟩) k k) [(b,.cells (madeCells z.cells (k * it.size)) E (0,0))] (List.replicate k zr):=fun b=>by
    have hll:lens it.size (List.replicate k zr):=fun r hr=>by rw [List.eq_of_mem_replicate hr];exact hlen
    have hm:=made_cells hzr jC k
    rw [hzs] at hm
    have:=OSl.own (T:=E) (sz:=it.size) b k (List.replicate k zr) (madeCells z.cells (k * it.size)) hll jU zZ (by simp [madeCells]) (by
      rw [hm,← Xg hll];exact List.take_length)
    simpa using this
  refine X_newV (x:=.cells (madeCells z.cells (k * it.size)) E (0,0)) (g:=fun b=>.slice (some ⟨b,0,Option.none⟩) k k) hi rfl hg (fun a ha w=>?_) (e':=fun b=>(d,.slice (some ⟨b,0,Option.none⟩) k k)::e) (fun a b ha=>ha.put hd _) (fun b=>hk b _ (ho b))
  have hr:=run_makeSlice (P:=P) (w:=w) t E it z hu hit hz' .i64 .i64 (k:Int) (k:Int) jC jC (by simpa using hk9) hb9 jC
  simp only [Int.toNat_natCast] at hr
  simp only [execOp,ha.ev hx,ha.ev hy]
  exact Wp hr
theorem rowSplice {T sz b c k:Nat} {rows news:List Segs} {cur:Array Value} (h1:lens sz rows) (h2:lens sz news) (h3:rows.length≤c) (h4:c≤maxLen) (h5:cur.size=c * sz) (h6:cur.toList.take (rows.length * sz)=ZZ rows) (hk:k+news.length≤rows.length) :
    OSl T sz (.slice (some ⟨b,0,Option.none⟩) rows.length c) [(b,.cells (cur.toList.take (k * sz)++ZZ news++cur.toList.drop (k * sz+(ZZ news).length)).toArray T (0,0))] (rows.take k++news++rows.drop (k+news.length)):=by
  have hnl:(ZZ news).length=news.length * sz:=Xg h2
  have hle:k * sz+news.length * sz≤rows.length * sz:=by rw [← Nat.add_mul];exact Nat.mul_le_mul_right _ hk
  have hrc:rows.length * sz≤c * sz:=Nat.mul_le_mul_right _ h3
  have hlen:(rows.take k++news++rows.drop (k+news.length)).length=rows.length:=by simp;omega
  have hll:lens sz (rows.take k++news++rows.drop (k+news.length)):=((h1.take k).append h2).append (h1.drop _)
  have:=OSl.own (T:=T) (sz:=sz) b c (rows.take k++news++rows.drop (k+news.length)) (cur.toList.take (k * sz)++ZZ news++cur.toList.drop (k * sz+(ZZ news).length)).toArray hll jC h4 (by
    simp only [List.size_toArray,List.length_append,List.length_take,List.length_drop,Array.length_toList];omega) (by
    rw [hlen]
    simp only [List.toList_toArray]
    rw [XX,XX,rowsCells_take h1 jC,rowsCells_drop h1 hk,← h6,hnl,List.take_take,Nat.min_eq_left jC,List.drop_take]
    rw [List.take_append,List.take_of_length_le (by simp only [List.length_append,List.length_take,Array.length_toList];omega)]
    congr 1
    simp only [List.length_append,List.length_take,Array.length_toList,hnl]
    rw [Nat.min_eq_left jC,Nat.add_mul])
  rw [hlen] at this
  exact this
theorem UJ {t:TypeId} {x y:Operand} {b j sz c m l:Nat} {agg:Bool} {T:TypeId} {q:Segs} {v:Value} {hs:Hp} {rows:List Segs} (hi:ops[i]?=some ⟨Option.none,.store t x y,ty,pos,af,gd⟩) (hg:want ops e gd=some true)
    (hx:ev e x=some (eptr (some ⟨b,0,Option.none⟩) j sz 0)) (hy:ev e y=some v) (hp:Uu v q) (hq:flat q) (hl:lay P t=some (agg,m)) (hn:Segs.len q=m) (hms:m=sz) (ho:OSl T sz (.slice (some ⟨b,0,Option.none⟩) l c) hs rows) (hH:Rem hs H H0) (hj:j<rows.length)
    (hk:∀ hs',OSl T sz (.slice (some ⟨b,0,Option.none⟩) rows.length c) hs' (rows.set j q)→XD P n ops Q rest (St M (hs'++H0)) ⟨M,hs'++H0⟩ e) (hnw:n.wrs.contains i=false:=by rfl):XD P n ops Q (i::rest) J ⟨M,H⟩ e:=by
  subst hms
  refine Tz hi rfl hg (fun a w ha hw=>?_) hnw
  obtain ⟨dd,it,hd,hit,hsz,hag⟩:=lay_spec hl
  obtain ⟨cur,rfl,rfl,hlr,hcap,hcm,hcs,htake⟩:=ho.inv
  have hst:=hw.perm hH.perm
  have hb:=hst.own b _ (List.mem_append_left _ (.head _))
  have hq1:lens m [q]:=fun r hr=>by rw [List.mem_singleton.1 hr];exact hn
  have hjl:j * m+m≤rows.length * m:=by have:=Nat.mul_le_mul_right m (show j+1≤rows.length from hj);rwa [Nat.add_mul,Nat.one_mul] at this
  have hrc:rows.length * m≤c * m:=Nat.mul_le_mul_right _ hcap
  have hql:(Segs.cells q).length=m:=by rw [Segs.cells_length,hn]
  have h2:=run_storeCells_at P b (j * m) T (Segs.cells q) 0 cur w hb jC hq
  have ho':=rowSplice (T:=T) (b:=b) (k:=j) hlr hq1 hcap hcm hcs htake jY
  have er:rows.take j++[q]++rows.drop (j+[q].length)=rows.set j q:=by
    rw [List.set_eq_take_append_cons_drop,if_pos hj];simp
  rw [er] at ho'
  simp only [ZZ,List.append_nil] at ho'
  have hr:(Instr.storeAt t (.pointer (some ⟨b,0+(j * m+0),Option.none⟩)) v).run P w=.ok () (w.setRow b (cur.toList.take (j * m)++Segs.cells q++cur.toList.drop (j * m+(Segs.cells q).length)).toArray):=by
    unfold Instr.storeAt
    rw [Sem.run_bind]
    show (Result.ok _ w).andThen _=_
    rw [Result.andThen_ok]
    unfold storeVar
    rw [Sem.run_bind,run_sizeOf' hit,Result.andThen_ok]
    have hs:v.cells.size=it.size:=by rw [hp.cells,hsz];simp [Segs.cells_length,hn]
    simp only [hs,ne_eq,not_true_eq_false,if_false]
    rw [hp.cells,Nat.zero_add,Nat.add_zero]
    simpa using h2
  unfold Oper.does
  rw [eptr_some] at hx
  have:(execOp a.eval ⟨Option.none,.store t x y,ty,pos,af,gd⟩).run P w=.ok .skip (w.setRow b (cur.toList.take (j * m)++Segs.cells q++cur.toList.drop (j * m+(Segs.cells q).length)).toArray):=by
    simp only [execOp,ha.ev hx,ha.ev hy]
    rw [Yf hr];rfl
  rw [this]
  refine ⟨⟨M,_⟩,e,?_,ha,hk _ ho'⟩
  exact hst.upd .head (setRow_heap w b cur _ T _ hb) (fun c hc x hx=>by rw [setRow_other w b c _ hc];exact hx) (VM.refl _)
theorem X_copyO {t t' E sz by_:Nat} {x y:Operand} {u:Value} {b k l' c' m c l off:Nat} {hs:Hp} {rows news:List Segs} {ats:Array TypeId} (hi:ops[i]?=some ⟨some d,.call ⟨.builtin .copy,#[x,y],ats⟩,ty,pos,af,gd⟩) (hg:want ops e gd=some true)
    (hx:ev e x=some (.slice (some ⟨b,off,Option.none⟩) l' c')) (hy:ev e y=some u) (hat:ats=#[t,t']) (ht:slOf P t=some (E,sz,by_)) (hoff:off=k * sz) (hkl:k+l'≤rows.length) (ho:OSl E sz (.slice (some ⟨b,0,Option.none⟩) l c) hs rows) (hH:Rem hs H H0)
    (hsrc:Src M H sz u news) (hm:m=min news.length l') (hd:Nat.ble (d+1) n.sz=true)
    (hk:∀ hs',OSl E sz (.slice (some ⟨b,0,Option.none⟩) rows.length c) hs' (rows.take k++news.take m++rows.drop (k+m))→XD P n ops Q rest (St M (hs'++H0)) ⟨M,hs'++H0⟩ ((d,.int .i64 (m:Int))::e)) (hnw:n.wrs.contains i=false:=by rfl):XD P n ops Q (i::rest) J ⟨M,H⟩ e:=by
  subst hat hoff
  refine Tz hi rfl hg (fun a w ha hw=>?_) hnw
  obtain ⟨it,hu,hit,rfl,rfl⟩:=WA ht
  obtain ⟨hln,h1,ad,c2,rfl,hsr⟩:=hsrc
  obtain ⟨cur,rfl,rfl,hlr,hcap,hcm,hcs,htake⟩:=ho.inv
  have hst:=hw.perm hH.perm
  have hb:=hst.own b _ (List.mem_append_left _ (.head _))
  have hml:(news.take m).length=m:=by simp;omega
  have hmn:lens it.size (news.take m):=hln.take m
  have hcl:(ZZ (news.take m)).length=m * it.size:=by rw [Xg hmn,hml]
  have hle:k * it.size+m * it.size≤rows.length * it.size:=by rw [← Nat.add_mul];exact Nat.mul_le_mul_right _ jC
  have hrc:rows.length * it.size≤c * it.size:=Nat.mul_le_mul_right _ hcap
  have hone:∀ v∈ZZ (news.take m),v.oneCell'=true:=fun v hv=>h1 v (by rw [rowsCells_take hln jC] at hv;exact List.mem_of_mem_take hv)
  have hload:=run_loadCells_list (P:=P) w ad (ZZ (news.take m)) (fun j v hj=>hsr w hw j v (by
    rw [rowsCells_take hln jC,List.getElem?_take] at hj
    split at hj
    · exact hj
    · cases hj))
  have hstore:=run_storeCells_at P b (k * it.size) E (ZZ (news.take m)) 0 cur w hb jC hone
  have ho':=rowSplice (T:=E) (b:=b) (k:=k) (news:=news.take m) hlr hmn hcap hcm hcs htake jC
  rw [hml] at ho'
  rw [hcl] at hload
  have hr:(Builtin.copy_ #[t,t'] ty #[.slice (some ⟨b,k * it.size,Option.none⟩) l' c',.slice (some ad) news.length c2]).run P w=.ok (goInt m) (w.setRow b (cur.toList.take (k * it.size)++ZZ (news.take m)++cur.toList.drop (k * it.size+(ZZ (news.take m)).length)).toArray):=by
    have e9:Nat.min news.length l'=m:=hm.symm
    simp [Builtin.copy_,run_underlying hu,Builtin.lenOf,Builtin.firstCells,sizeOf,typeInfo,hit,e9,hload]
    have h5:=hstore
    simp only [Nat.add_zero,List.append_assoc] at h5
    rw [h5];rfl
  unfold Oper.does
  have:(execOp a.eval ⟨some d,.call ⟨.builtin .copy,#[x,y],#[t,t']⟩,ty,pos,af,gd⟩).run P w=.ok (.value (.int .i64 (m:Int))) (w.setRow b (cur.toList.take (k * it.size)++ZZ (news.take m)++cur.toList.drop (k * it.size+(ZZ (news.take m)).length)).toArray):=by
    simp only [execOp,resolve]
    simp only [invoke,builtin]
    have e1:#[x,y].map a.eval=#[.slice (some ⟨b,k * it.size,Option.none⟩) l' c',.slice (some ad) news.length c2]:=by simp [ha.ev hx,ha.ev hy]
    rw [e1]
    rw [Sem.run_bind]
    show (Result.ok _ w).andThen _=_
    rw [Result.andThen_ok]
    exact Wp hr
  rw [this]
  refine ⟨⟨M,_⟩,_,?_,ha.put hd _,hk _ ho'⟩
  exact hst.upd .head (setRow_heap w b cur _ E _ hb) (fun c hc x hx=>by rw [setRow_other w b c _ hc];exact hx) (VM.refl _)
theorem XD_perm (hp:H.Perm H') (h:XD P n ops Q rest (St M H') ⟨M,H'⟩ e):XD P n ops Q rest (St M H) ⟨M,H⟩ e:=by
  have e1:St M H=St M H':=funext fun w=>propext ⟨fun h=>h.perm0 hp,fun h=>h.perm0 hp.symm⟩
  intro hSJ a ha
  have:=h (fun u hu=>hu) a ha
  rw [e1]
  exact WD.perm (A:=⟨M,H'⟩) (A':=⟨M,H⟩) rfl hp.symm this
theorem X_appendK {α:Type} {f:α→Segs} {xs:List α} {t E sz by_ m c':Nat} {z:Value} {x y:Operand} {v:Value} {a:Option Addr} {hs:Hp} {rows:List Segs} {ats:Array TypeId} (hi:ops[i]?=some ⟨some d,.call ⟨.builtin .append,#[x,y],ats⟩,ty,pos,af,gd⟩) (hg:want ops e gd=some true)
    (hx:ev e x=some v) (hy:ev e y=some (.slice a xs.length c')) (hat:ats=#[t,t]) (ht:slOf P t=some (E,sz,by_)) (hz:XW P E=some z) (hzs:z.cells.size=sz) (hsz:Nat.ble 1 sz=true) (ho:OSl E sz v hs rows) (hH:Rem hs H H0)
    (hsrc:SlM M a (xs.map f) sz) (hf:∀ x,flat (f x)) (hm:rows.length+xs.length≤m) (hbm:Nat.ble (m * (by_+1)) 140737488355328=true) (hd:Nat.ble (d+1) n.sz=true)
    (hk:∀ v' hs',OSl E sz v' hs' (rows++xs.map f)→XD P n ops Q rest (St M (hs'++H0)) ⟨M,hs'++H0⟩ ((d,v')::e)) (hnw:n.wrs.contains i=false:=by rfl):XD P n ops Q (i::rest) J ⟨M,H⟩ e:=by
  cases a with
  | some ad=>exact WT hi hg hx hy hat ht hz hzs hsz ho hH (SlM.src hsrc (rows_one hf _) (List.length_map ..).symm) (by simpa using hm) hbm hd hk hnw
  | none =>
    have hl:=hsrc.none_nil
    subst hl
    obtain ⟨a1,c1,rfl⟩:=ho.val
    obtain ⟨g1,_,_⟩:=ho.caps
    have hk':=hk _ _ (by simpa using ho)
    exact X_append_none hi hg hx hy hat ht g1 hd (XD_perm hH.perm hk') hnw
theorem OSl.valAt {T sz n:Nat} {v:Value} {hs:Hp} {rows:List Segs} (h:OSl T sz v hs rows) (hn:rows.length=n):∃ a c,v=.slice a n c:=by
  obtain ⟨a,c,h1⟩:=h.val
  exact ⟨a,c,by rw [h1,hn]⟩
theorem OSl.aZ {T sz l l' c:Nat} {a:Option Addr} {hs:Hp} {rows:List Segs} (h:OSl T sz (.slice a l c) hs rows) (hl:l'=rows.length):OSl T sz (.slice a l' c) hs rows:=by
  obtain ⟨_,_,e⟩:=h.caps
  rw [hl,← e];exact h
theorem OSl.srcAll {T sz b l c:Nat} {hs:Hp} {rows:List Segs} (h:OSl T sz (.slice (some ⟨b,0,Option.none⟩) l c) hs rows) (hH:Rem hs H H0) (h1:∀ u∈ZZ rows,u.oneCell'=true):Src M H sz (.slice (some ⟨b,0,Option.none⟩) l c) rows:=by
  obtain ⟨_,_,e⟩:=h.caps
  subst e
  have:=OSl.src (M:=M) (k:=0) (c':=c) h hH h1
  simpa using this
theorem rep_one {N:Segs} (h:flat N):∀ (k:Nat),∀ u∈ZZ (List.replicate k N),u.oneCell'=true
  | 0,u,hu=>by cases hu
  | k+1,u,hu=>by
    rcases List.mem_append.1 (show u∈Segs.cells N++ZZ (List.replicate k N) from hu) with hu|hu
    · exact h u hu
    · exact rep_one h k u hu
theorem rep_first {N Z:Segs} {n:Nat} (h:1≤n):(List.replicate n Z).take 0++[N].take (min [N].length n)++(List.replicate n Z).drop (0+min [N].length n)=List.replicate 1 N++List.replicate (n-1) Z:=by
  have e:min [N].length n=1:=by simp;omega
  rw [e];simp
theorem rep_take {N Z:Segs} {n k:Nat}:(List.replicate k N++List.replicate (n-k) Z).take k=List.replicate k N:=by
  rw [List.take_append_of_le_length jU];simp
theorem rep_next {N Z:Segs} {n k m:Nat} (hk:k≤n) (hm:m≤k) (hmn:m≤n-k):(List.replicate k N++List.replicate (n-k) Z).take k++(List.replicate k N).take m++(List.replicate k N++List.replicate (n-k) Z).drop (k+m)=List.replicate (k+m) N++List.replicate (n-(k+m)) Z:=by
  rw [rep_take,List.take_replicate,Nat.min_eq_left hm,List.drop_append,List.drop_of_length_le jU,List.nil_append,List.drop_replicate,List.replicate_append_replicate]
  simp only [List.length_replicate]
  congr 2
  omega
theorem flat_all {r:Segs} (h:flat r):(aggV r).cells.all (fun u=>u.oneCell')=true:=by
  rw [Array.all_eq_true_iff_forall_mem]
  intro u hu
  exact h u (by simpa [aggV,Value.cells] using hu)
theorem OSl.someB {T sz l c:Nat} {a:Option Addr} {hs:Hp} {rows:List Segs} (h:OSl T sz (.slice a l c) hs rows) (hl:0<l):∃ b,a=some ⟨b,0,Option.none⟩:=by
  generalize hv:Value.slice a l c=v at h
  cases h with
  | nil=>cases hv;cases hl
  | own b c' _ cur g1 g2 g3 g4 g5=>cases hv;exact ⟨b,rfl⟩
theorem X_fhR2 {f:FuncId} {xs:List Operand} {ats:Array TypeId} {vs:List Value} {Hin Hin2 H1 Hr:Hp} {R:Mem→Value→Hp→Prop} {MJ:Mem} {HJ:Hp} (hi:ops[i]?=some ⟨dst,.call ⟨.value (.func f),xs.toArray,ats⟩,ty,pos,af,gd⟩) (hg:want ops e gd=some true)
    (hf:okFn P f=true) (hx:evs e xs=some vs) (hc:Fh P f vs M (Hin++Hin2) R) (hH:Rem Hin H H1) (hH2:Rem Hin2 H1 Hr) (hJ:∀ v M' Hout w,M.le M'→R M' v Hout→St M' (Hout++Hr) w→St MJ HJ w)
    (hd:∀ a v,Sat n e a→Sat n (putE dst v e) (a.put dst v))
    (hk:∀ v M' Hout,M.le M'→R M' v Hout→XD P n ops Q rest (St MJ HJ) ⟨M',Hout++Hr⟩ (putE dst v e)):XD P n ops Q (i::rest) (St MJ HJ) ⟨M,H⟩ e:=by
  obtain ⟨fn,h1,h2,h3⟩:=VG hf
  have hP:H.Perm ((Hin++Hin2)++Hr):=(hH.perm.trans (hH2.perm.append_left Hin)).trans (List.append_assoc _ _ _ ▸ List.Perm.refl _)
  refine X_effJ hi rfl hg (fun _ a F w ha hw=>does_call h1 h2 h3 zD ?_)
  exact (hc (F++Hr) w (hw.perm0 ((hP.append_left F).trans (Sz F (Hin++Hin2) Hr)))).mono fun e' w' ⟨v,M',Hout,he,hm,hs,hr⟩=>⟨v,he,⟨M',Hout++Hr⟩,_,hs.perm0 (Sz F Hout Hr).symm,fun u hu=>hJ v M' Hout u hm hr hu,hd a v ha,hk v M' Hout hm hr⟩
end
end Go.Esp
namespace Go.Esp
theorem K_endM0 {P:Program} {e:Env} {M:Mem} {H:Hp} {n:Nat} {fn:Func} {R:Ending→World→Prop} {x:Exit} {vs:List Value} (hx:x=.normal∨x=.ret) (hr:Res P e H fn.results.toList vs) (h:∀ w,St M H w→R (.returned (resV vs)) w) :
    K ⟨n,[],none,[]⟩ (bodyPostM (Fr none) 0 P fn R) x (St M H) e:=K_endM (Ds:=[]) (Hd:=[]) hx hr (fun _ hw=>hw) jU jU h
section
variable {P:Program} {n:Sh} {Q:Exit→Act→World→Prop} {M:Mem} {H H0:Hp} {e:Env} {x:Exit} {c:Code}
theorem OSl.frz {α:Type} {T sz k cp:Nat} {f:α→Segs} {l:List α} {ad:Option Addr} {hs:Hp} (ho:OSl T sz (.slice ad k cp) hs (l.map f)) {w:World} (hw:St M (hs++H) w):∃ M',M.le M'∧St M' H w∧SlK M' f sz ⟨ad,cp,l⟩:=by
  obtain ⟨M',⟨a',c',l'⟩,h1,h2,h3,h4,h5⟩:=ho.freezeK hw
  simp only [Sl.val,Value.slice.injEq] at h3
  obtain ⟨rfl,_,rfl⟩:=h3
  simp only at h4
  subst h4
  exact ⟨M',h1,h2,h5⟩
theorem K_frz {α:Type} {T sz k cp:Nat} {f:α→Segs} {l:List α} {ad:Option Addr} {hs:Hp} (ho:OSl T sz (.slice ad k cp) hs (l.map f)) (hR:Rem hs H H0) (h:∀ M',M.le M'→SlK M' f sz ⟨ad,cp,l⟩→K n Q x (St M' H0) e):K n Q x (St M H) e:=by
  intro a w ha hw
  obtain ⟨M',h1,h2,h3⟩:=ho.frz (hw.perm hR.perm)
  exact h M' h1 h3 a w ha h2
theorem Sp {α:Type} {T sz k cp:Nat} {f:α→Segs} {l:List α} {ad:Option Addr} {hs:Hp} (ho:OSl T sz (.slice ad k cp) hs (l.map f)) (hR:Rem hs H H0) (h:∀ M',M.le M'→SlK M' f sz ⟨ad,cp,l⟩→C P n c Q (St M' H0) e):C P n c Q (St M H) e:=by
  intro a w ha hw
  obtain ⟨M',h1,h2,h3⟩:=ho.frz (hw.perm hR.perm)
  exact h M' h1 h3 a w ha h2
end
def PsIs (M:Mem) (v:Value) (l:List Zs):Prop:=∃ s:Sl Zs,v=s.val∧s.l=l∧SlK M Zs.segs 21 s
theorem foldl_take {α β:Type} {f:β→α→β} {b:β} {l:List α} {k:Nat} (hk:k<l.length):(l.take (k+1)).foldl f b=f ((l.take k).foldl f b) l[k]:=by
  rw [List.take_add_one,List.getElem?_eq_getElem hk,List.foldl_append];rfl
def ptW {α:Type} (l:List α) (k j:Nat) (f:α):List α:=l.take k++List.replicate (j-k) f++l.drop j
theorem ptW_len {α:Type} {l:List α} {k j:Nat} {f:α} (hk:k≤j) (hj:j≤l.length):(ptW l k j f).length=l.length:=by
  unfold ptW;simp only [List.length_append,List.length_take,List.length_replicate,List.length_drop];omega
theorem ptW_start {α:Type} {l:List α} {k:Nat} {f:α}:ptW l k k f=l:=by
  unfold ptW;simp
theorem ptW_set {α:Type} {l:List α} {k j:Nat} {f:α} (hk:k≤j) (hj:j<l.length):(ptW l k j f).set j f=ptW l k (j+1) f:=by
  unfold ptW
  have hl:(l.take k++List.replicate (j-k) f).length=j:=by simp only [List.length_append,List.length_take,List.length_replicate];omega
  rw [List.set_append,if_neg jC,hl,Nat.sub_self,List.drop_eq_getElem_cons hj,List.set_cons_zero,show j+1-k=(j-k)+1 by omega,List.replicate_succ',← List.append_assoc,List.append_assoc (l.take k++List.replicate (j-k) f)]
  rfl
theorem pointEnd_go {s p:Zs} {k j:Nat} (hj:j<160) (h:¬(k<j∧inArc s p j=false)):WW s p k j (160-j)=WW s p k (j+1) (160-(j+1)):=by
  rw [show 160-j=(160-(j+1))+1 by omega]
  conv=>lhs;unfold WW
  rw [if_neg h]
theorem pointEnd_stop {s p:Zs} {k j:Nat} (hj:j<160) (h1:k<j) (h2:inArc s p j=false):WW s p k j (160-j)=j:=by
  rw [show 160-j=(160-(j+1))+1 by omega]
  unfold WW
  rw [if_pos ⟨h1,h2⟩]
theorem pointEnd_ge {s p:Zs} {k:Nat}:∀ {n j:Nat},j≤WW s p k j n∧WW s p k j n≤j+n
  | 0,j=>⟨Nat.le_refl _,Nat.le_refl _⟩
  | n+1,j=>by
    unfold WW
    split
    · omega
    · have:=pointEnd_ge (s:=s) (p:=p) (k:=k) (n:=n) (j:=j+1);omega
theorem pointT_at {t:Tb} {k j:Nat} {p:Zs} (h1:IsTb t) (hk:k<160) (hp:p=t.self∨Xn t.self p) (he:WW t.self p k k (160-k)=j) :
    WV t k p=({ t with fingers:=ptW t.fingers k j (fingerOf t p) },if j=160 then 0 else (j:Int),0):=by
  unfold WV
  rw [if_pos ⟨h1,by omega,hp⟩]
  simp only [Int.toNat_natCast]
  rw [he]
  rfl
theorem pointT_is {t:Tb} {k j:Nat} {p f:Zs} {n:Int} (h1:IsTb t) (hk:k<160) (hp:p=t.self∨Xn t.self p) (he:WW t.self p k k (160-k)=j) (hf:fingerOf t p=f) (hn:(if j=160 then 0 else (j:Int))=n) :
    WV t k p=({ t with fingers:=ptW t.fingers k j f },n,0):=by
  rw [pointT_at h1 hk hp he,hf,hn]
theorem pointT_no {t:Tb} {k:Int} {p:Zs} (h:¬(IsTb t∧(0≤k∧k<160)∧(p=t.self∨Xn t.self p))):WV t k p=(Tb.zero,0,1):=if_neg h
def TabPE (M:Mem) (v:Value) (r:Tb×Int×Int):Prop:=∃ u,v=.tuple #[u,.int .i64 r.2.1,.int .i64 r.2.2]∧TabIs M u r.1
def UM (s:Plc) (k:Nat):List (Nat×Plc):=(List.range' k (160-k)).map fun j=>(j,s+powP j)
theorem startsL_at {s:Plc} {k j:Nat} (hj:k≤j) (h:j<160):UM s k=((List.range' k (j-k)).map fun j=>(j,s+powP j))++(j,s+powP j)::UM s (j+1):=by
  unfold UM
  rw [show 160-k=(j-k)+((160-(j+1))+1) by omega,← List.range'_append_1,List.map_append,show k+(j-k)=j by omega,List.range'_succ]
  rfl
theorem startsL_pre {s:Plc} {k j:Nat} (hj:k≤j):(((List.range' k (j+1-k)).map fun j=>(j,s+powP j)):List (Nat×Plc))=((List.range' k (j-k)).map fun j=>(j,s+powP j))++[(j,s+powP j)]:=by
  rw [show j+1-k=(j-k)+1 by omega,List.range'_1_concat,List.map_append,show k+(j-k)=j by omega]
  rfl
theorem startsL_split {s:Plc} {k:Nat} {pre post:List (Nat×Plc)} {x:Nat×Plc} (hx:UM s k=pre++x::post):k+pre.length<160∧x=(k+pre.length,s+powP (k+pre.length)):=by
  have hl:=congrArg List.length hx
  unfold UM at hl hx
  simp only [List.length_map,List.length_range',List.length_append,List.length_cons] at hl
  have hg:=congrArg (fun l=>l[pre.length]?) hx
  simp only [List.getElem?_map,List.getElem?_append_right (Nat.le_refl _),Nat.sub_self,List.getElem?_cons_zero] at hg
  rw [List.getElem?_range' jC] at hg
  simp only [Option.map_some,Option.some.injEq,Nat.one_mul] at hg
  exact ⟨by omega,hg.symm⟩
end Go.Esp
namespace Go.Esp
def cmp3 (x y:Int):Int:=if x<y then -1 else if y<x then 1 else 0
def UV (s:Zs) (acc:List Zs) (p:Zs):List Zs:=if 0≤p.addr∧p.addr≠s.addr∧¬hasA acc p.addr then acc++[p] else acc
def metT (t:Tb):List Zs:=(t.pred::(t.succ++t.fingers)).foldl (UV t.self) []
theorem insP_perm {p:Zs}:∀ {l:List Zs},(insP p l).Perm (p::l)
  | []=>.refl _
  | q::l=>by
    unfold insP
    split
    · exact (insP_perm.cons q).trans (.swap _ _ _)
    · exact .refl _
theorem insP_sorted {p:Zs}:∀ {l:List Zs},l.Pairwise (fun a b=>a.addr<b.addr)→¬hasA l p.addr→(insP p l).Pairwise (fun a b=>a.addr<b.addr)
  | [],_,_=>List.pairwise_singleton _ _
  | q::l,h,hn=>by
    obtain ⟨h1,h2⟩:=List.pairwise_cons.1 h
    have hq:p.addr≠q.addr:=fun e=>hn (by unfold hasA;rw [List.map_cons,e];exact .head _)
    have hl:¬hasA l p.addr:=fun e=>hn (by unfold hasA at *;rw [List.map_cons];exact .tail _ e)
    unfold insP
    split
    · rename_i hlt
      refine List.pairwise_cons.2 ⟨fun a ha=>?_,insP_sorted h2 hl⟩
      rcases List.mem_cons.1 (insP_perm.mem_iff.1 ha) with rfl|ha
      · exact hlt
      · exact h1 a ha
    · rename_i hge
      refine List.pairwise_cons.2 ⟨fun a ha=>?_,h⟩
      rcases List.mem_cons.1 ha with rfl|ha
      · omega
      · have:=h1 a ha;omega
theorem hasA_perm {l l':List Zs} (h:l.Perm l') {a:Int}:hasA l a↔hasA l' a:=(h.map Zs.addr).mem_iff
theorem known_met {s:Zs}:∀ {xs out acc:List Zs},out.Perm acc→out.Pairwise (fun a b=>a.addr<b.addr) →
    (xs.foldl (knownStep s) out).Perm (xs.foldl (UV s) acc)∧(xs.foldl (knownStep s) out).Pairwise (fun a b=>a.addr<b.addr)
  | [],out,acc,h1,h2=>⟨h1,h2⟩
  | p::xs,out,acc,h1,h2=>by
    rw [List.foldl_cons,List.foldl_cons]
    unfold knownStep UV
    by_cases hc:p.addr<0∨p.addr=s.addr∨hasA out p.addr
    · rw [if_pos hc,if_neg (by rintro ⟨g1,g2,g3⟩;rcases hc with hc|hc|hc;omega;exact g2 hc;exact g3 ((hasA_perm h1).1 hc))]
      exact known_met h1 h2
    · rw [if_neg hc,if_pos ⟨by have:¬p.addr<0:=fun h=>hc (.inl h);omega,fun h=>hc (.inr (.inl h)),fun h=>hc (.inr (.inr ((hasA_perm h1).2 h)))⟩]
      exact known_met (insP_perm.trans ((h1.cons p).trans (List.perm_append_singleton p acc).symm)) (insP_sorted h2 fun h=>hc (.inr (.inr h)))
theorem sorted_one:∀ {l l':List Zs},l.Perm l'→l.Pairwise (fun a b=>a.addr<b.addr)→l'.Pairwise (fun a b=>a.addr≤b.addr)→l=l'
  | [],l',h,_,_=>(h.symm.eq_nil).symm
  | a::l,[],h,_,_=>(h.eq_nil)
  | a::l,b::l',h,h1,h2=>by
    obtain ⟨g1,g2⟩:=List.pairwise_cons.1 h1
    obtain ⟨g3,g4⟩:=List.pairwise_cons.1 h2
    have hab:a=b:=by
      rcases List.mem_cons.1 (h.mem_iff.1 (.head _):a∈b::l') with e|e
      · exact e
      · rcases List.mem_cons.1 (h.mem_iff.2 (.head _):b∈a::l) with e2|e2
        · exact e2.symm
        · have:=g1 b e2;have:=g3 a e;omega
    subst hab
    rw [sorted_one (h.cons_inv) g2 g4]
theorem known_is {t:Tb} {l:List Zs} (h1:l.Perm (metT t)) (h2:l.Pairwise (fun a b=>a.addr≤b.addr)):l=To t:=by
  have h:=known_met (s:=t.self) (xs:=t.pred::(t.succ++t.fingers)) (List.Perm.refl []) List.Pairwise.nil
  exact (sorted_one (h.1.trans h1.symm) h.2 h2).symm
theorem met_step {s p:Zs} {xs:List Zs} {acc:List Zs} (h:acc=xs.foldl (UV s) []):(xs++[p]).foldl (UV s) []=UV s acc p:=by
  rw [List.foldl_append,← h];rfl
theorem flat_at {rows:List (Sl Zs)} {i k:Nat} {a:Option Addr} {c:Nat} {l:List Zs} (hi:i<rows.length) (hr:rows[i]=⟨a,c,l⟩) (hk:k<l.length) :
    (rows.map Sl.l).flatten=(((rows.take i).map Sl.l).flatten++l.take k)++l[k]::(l.drop (k+1)++((rows.drop (i+1)).map Sl.l).flatten):=by
  conv=>lhs;rw [← List.take_append_drop i rows,List.drop_eq_getElem_cons hi,hr]
  simp only [List.map_append,List.flatten_append,List.map_cons,List.flatten_cons]
  conv=>lhs;rw [← List.take_append_drop k l,List.drop_eq_getElem_cons hk]
  simp only [List.append_assoc,List.cons_append]
theorem flat_next {rows:List (Sl Zs)} {i:Nat} {a:Option Addr} {c:Nat} {l:List Zs} (hi:i<rows.length) (hr:rows[i]=⟨a,c,l⟩):((rows.take (i+1)).map Sl.l).flatten=((rows.take i).map Sl.l).flatten++l:=by
  rw [List.take_add_one,List.getElem?_eq_getElem hi,hr]
  simp
theorem flat_rest {rows:List (Sl Zs)} {i k:Nat} {a:Option Addr} {c:Nat} {l:List Zs} (hi:i<rows.length) (hr:rows[i]=⟨a,c,l⟩) (hk:k<l.length) :
    (rows.map Sl.l).flatten=((((rows.take i).map Sl.l).flatten++l.take k)++[l[k]])++(l.drop (k+1)++((rows.drop (i+1)).map Sl.l).flatten):=by
  rw [flat_at hi hr hk,List.append_assoc _ [l[k]]];rfl
theorem sub_shift (p b s:Plc):(p+s)-(b+s)=p-b:=by
  apply BitVec.eq_of_toNat_eq
  have h1:=p.isLt;have h2:=b.isLt;have h3:=s.isLt
  simp only [BitVec.toNat_sub,BitVec.toNat_add]
  omega
theorem open_less {s b p i:Plc} (h1:Tj s b i) (h2:Tj s p i):Tj b p i↔Vl (b-s) (p-s):=by
  obtain ⟨B,rfl⟩:∃ B,b=B+s:=⟨b-s,(BitVec.sub_add_cancel b s).symm⟩
  obtain ⟨Q,rfl⟩:∃ Q,p=Q+s:=⟨p-s,(BitVec.sub_add_cancel p s).symm⟩
  obtain ⟨I,rfl⟩:∃ I,i=I+s:=⟨i-s,(BitVec.sub_add_cancel i s).symm⟩
  unfold Tj Vl at *
  simp only [sub_shift,BitVec.add_sub_cancel] at *
  have e:∀ x y:Plc,(x+s=y+s)↔x=y:=fun x y=>⟨fun h=>by have:=congrArg (·-s) h;simpa [BitVec.add_sub_cancel] using this,fun h=>by rw [h]⟩
  have e0:∀ x:Plc,(x+s=s)↔x=0:=fun x=>by have:=e x 0;simpa using this
  have e1:∀ x:Plc,(s=x+s)↔x=0:=fun x=>by rw [eq_comm,e0]
  simp only [ne_eq,e,e0,e1] at *
  have q1:=B.isLt;have q2:=Q.isLt;have q3:=I.isLt
  have z:∀ x:Plc,x=0↔x.toNat=0:=fun x=>⟨fun h=>by rw [h];rfl,fun h=>BitVec.eq_of_toNat_eq h⟩
  have n:∀ x y:Plc,x=y↔x.toNat=y.toNat:=fun x y=>⟨fun h=>by rw [h],fun h=>BitVec.eq_of_toNat_eq h⟩
  simp only [z,n,BitVec.toNat_sub] at *
  omega
end Go.Esp
namespace Go.Esp
theorem stay_learn {t:Tb} {p:Zs} (h:IsTb t):IsTb (Ub t p):=by
  unfold Ub
  split
  · rename_i hc
    obtain ⟨h1,h2,h3,h4,h5,h6⟩:=h
    exact ⟨h1,.inr hc.2.1,h3,h4,h5,h6⟩
  · exact h
theorem stay_forget {t:Tb} {a:Int} (h:IsTb t):IsTb (XK t a):=by
  obtain ⟨h1,h2,h3,h4,h5,h6⟩:=h
  refine ⟨h1,?_,?_,?_,⟨?_,?_⟩,?_⟩
  · show Sd t.self (if t.pred.addr=a then YD else t.pred)
    split
    · exact .inl rfl
    · exact h2
  · exact Nat.le_trans (List.length_filter_le _ _) h3
  · show (t.fingers.map _).length=160
    rw [List.length_map];exact h4
  · intro p hp
    exact h5.1 p (List.mem_filter.1 hp).1
  · exact h5.2.sublist (List.filter_sublist.map _)
  · intro p hp
    obtain ⟨q,hq,rfl⟩:=List.mem_map.1 hp
    split
    · exact .inl rfl
    · exact h6 q hq
theorem stay_adoptL {s:Zs} {r:Int}:∀ {rest acc:List Zs},Sc s acc→(acc.length:Int)≤r→Sc s (VD s r acc rest)∧((VD s r acc rest).length:Int)≤r
  | [],acc,h1,h2=>⟨h1,h2⟩
  | p::rest,acc,h1,h2=>by
    unfold VD
    split
    · exact ⟨h1,h2⟩
    · rename_i hc
      split
      · exact stay_adoptL h1 h2
      · rename_i hn
        have ho:Xn s p:=Decidable.byContradiction fun h=>hc (.inl h)
        have hl:¬(acc.length:Int)=r:=fun h=>hc (.inr h)
        refine stay_adoptL ⟨fun q hq=>?_,?_⟩ (by rw [List.length_append,List.length_singleton];omega)
        · rcases List.mem_append.1 hq with hq|hq
          · exact h1.1 q hq
          · rw [List.mem_singleton.1 hq];exact ho
        · rw [List.map_append,List.nodup_append]
          refine ⟨h1.2,by simp,fun x hx y hy e=>hn ?_⟩
          rw [List.map_singleton,List.mem_singleton] at hy
          unfold hasA
          rw [← hy,← e];exact hx
theorem adoptL_head {s:Zs} {r:Int} {p:Zs}:∀ {rest acc:List Zs},acc.head?=some p→(VD s r acc rest).head?=some p
  | [],acc,h=>h
  | q::rest,acc,h=>by
    unfold VD
    split
    · exact h
    · split
      · exact adoptL_head h
      · refine adoptL_head ?_
        cases acc with
        | nil=>cases h
        | cons a l=>exact h
theorem stay_adopt {t:Tb} {p:Zs} {l:List Zs} {r:Int} (h:IsTb t) (he:(VK t p l r).2=0):IsTb (VK t p l r).1∧Xy (VK t p l r).1=p∧((VK t p l r).1.succ.length:Int)≤r:=by
  unfold VK at *
  split at he
  · rename_i hc
    rw [if_pos hc]
    obtain ⟨h1,h2,h3,h4,h5,h6⟩:=h
    obtain ⟨_,ho,hr1,hr2⟩:=hc
    have hk:=stay_adoptL (rest:=l) (s:=t.self) (r:=r) (acc:=[p]) ⟨fun q hq=>by rw [List.mem_singleton.1 hq];exact ho,by simp⟩ jY
    refine ⟨⟨h1,h2,?_,h4,hk.1,h6⟩,?_,hk.2⟩
    · have:=hk.2;show (VD t.self r [p] l).length≤8;omega
    · have:=adoptL_head (s:=t.self) (r:=r) (p:=p) (rest:=l) (acc:=[p]) rfl
      show (VD t.self r [p] l).headD t.self=p
      cases hh:VD t.self r [p] l with
      | nil=>rw [hh] at this;cases this
      | cons a b=>rw [hh] at this;simpa using this
  · cases he
theorem pointEnd_gt {s p:Zs} {k:Nat} (hk:k<160):k<WW s p k k (160-k)∧WW s p k k (160-k)≤160:=by
  rw [pointEnd_go hk (by rintro ⟨h,_⟩;omega)]
  have:=pointEnd_ge (s:=s) (p:=p) (k:=k) (n:=160-(k+1)) (j:=k+1)
  omega
theorem stay_point {t:Tb} {p:Zs} {k:Int} (h:IsTb t) (he:(WV t k p).2.2=0):IsTb (WV t k p).1∧0≤(WV t k p).2.1∧(WV t k p).2.1<160∧((WV t k p).2.1=0∨k<(WV t k p).2.1):=by
  by_cases hc:IsTb t∧(0≤k∧k<160)∧(p=t.self∨Xn t.self p)
  · obtain ⟨_,⟨hk1,hk2⟩,hp⟩:=hc
    obtain ⟨n,rfl⟩:=Int.eq_ofNat_of_zero_le hk1
    have hn:n<160:=by omega
    obtain ⟨g1,g2⟩:=pointEnd_gt (s:=t.self) (p:=p) hn
    have e:=pointT_at (t:=t) (k:=n) (p:=p) h hn hp rfl
    rw [show WV t (n:Nat) p=_ from e]
    generalize hj:WW t.self p n n (160-n)=j at *
    obtain ⟨h1,h2,h3,h4,h5,h6⟩:=h
    refine ⟨⟨h1,h2,h3,?_,h5,?_⟩,?_,?_,?_⟩
    · show (ptW t.fingers n j _).length=160
      rw [ptW_len jC jC];exact h4
    · intro q hq
      have hq:q∈ptW t.fingers n j (fingerOf t p):=hq
      unfold ptW at hq
      rcases List.mem_append.1 hq with hq|hq
      · rcases List.mem_append.1 hq with hq|hq
        · exact h6 q (List.mem_of_mem_take hq)
        · obtain ⟨_,rfl⟩:=List.mem_replicate.1 hq
          unfold fingerOf
          show Sd t.self _
          split
          · exact .inl rfl
          · rename_i hns;exact .inr (hp.resolve_left hns)
      · exact h6 q (List.mem_of_mem_drop hq)
    all_goals (show _;dsimp only;split <;> omega)
  · rw [pointT_no hc] at he;cases he
def others (a:Int) (l:List Zs):List Zs:=l.filter (fun p=>p.addr≠a)
end Go.Esp
namespace Go.Esp
structure Lt where
  kind:Int
  frm:Zs
  req:Int
  id:Plc
  avoid:List Int
  done:Bool
  peer:Zs
  peers:List Zs
  deriving DecidableEq
structure Snd where
  to:Int
  letter:Lt
  deriving DecidableEq
structure Nd where
  table:Tb
  copies:Int
  joined:Bool
  boot:Int
  cursor:Int
  req:Int
  askTo:Int
  askReq:Int
  pingTo:Int
  pingReq:Int
  findTo:Int
  findReq:Int
  findID:Plc
  avoid:List Int
  hops:Int
  turn:Int
  deriving DecidableEq
def Nd.zero:Nd:=⟨Tb.zero,0,false,0,0,0,0,0,0,0,0,0,0,[],0,0⟩
def Xp (s:Zs) (a:Int):Prop:=(-1≤a∧a≤999)∧a≠s.addr
instance (s:Zs) (a:Int):Decidable (Xp s a):=by unfold Xp;exact inferInstance
def IsNd (n:Nd):Prop :=
  IsTb n.table∧(1≤n.copies∧n.copies≤8)∧(n.joined=true∨n.boot≠-1)∧(0≤n.cursor∧n.cursor≤159)∧n.avoid.length≤16∧(0≤n.hops∧n.hops≤64)∧(0≤n.turn∧n.turn≤999999) ∧
  (Xp n.table.self n.boot∧Xp n.table.self n.askTo∧Xp n.table.self n.pingTo∧Xp n.table.self n.findTo)∧∀ a∈n.avoid,Yo a
instance (n:Nd):Decidable (IsNd n):=by unfold IsNd;exact inferInstance
def VJ (k:Int):Prop:=k=1∨k=2∨k=3∨k=6∨k=7∨k=4
instance (k:Int):Decidable (VJ k):=by unfold VJ;exact inferInstance
def WY (k:Int):Prop:=k=2∨k=4∨k=8
instance (k:Int):Decidable (WY k):=by unfold WY;exact inferInstance
def Wx (k:Int):Prop:=k=4∨k=8
instance (k:Int):Decidable (Wx k):=by unfold Wx;exact inferInstance
def IsLt (l:Lt):Prop :=
  (1≤l.kind∧l.kind≤8)∧Yo l.frm.addr∧l.avoid.length≤16∧l.peers.length≤8∧(l.peer=YD∨Yo l.peer.addr)∧¬(l.peer=YD∧l.kind=2) ∧
  (VJ l.kind∨l.req=0)∧(l.kind=1∨l.id=0)∧(l.kind=1∨l.avoid=[])∧(l.kind=2∨l.done=false)∧(WY l.kind∨l.peer=YD)∧(Wx l.kind∨l.peers=[]) ∧
  (∀ a∈l.avoid,Yo a)∧∀ p∈l.peers,Yo p.addr
instance (l:Lt):Decidable (IsLt l):=by unfold IsLt VJ WY Wx;exact inferInstance
def nxR (r:Int):Int:=(r+1) % 18446744073709551616
def lett (n:Nd) (kind req:Int):Lt:=⟨kind,n.table.self,req,0,[],false,YD,[]⟩
def Uw (self:Zs) (r:Int):Nd×Int:=if Yo self.addr∧1≤r∧r≤8 then (⟨(newT self).1,r,true,-1,0,0,-1,0,-1,0,-1,0,0,[],0,0⟩,0) else (Nd.zero,1)
def UT (self:Zs) (r boot:Int):Nd×Int:=if (Uw self r).2=0∧Yo boot∧boot≠self.addr then ({ (Uw self r).1 with joined:=false,boot:=boot },0) else (Nd.zero,1)
def SA (n:Nd) (to:Int):Nd×List Snd :=
  ({ n with req:=nxR n.req,findTo:=to,findReq:=nxR n.req },[⟨to,{ lett n 1 (nxR n.req) with id:=n.findID,avoid:=n.avoid }⟩])
def TY (n:Nd) (a:Int):Nd:=if a∈n.avoid∨16≤n.avoid.length then n else { n with avoid:=n.avoid++[a] }
def WG (n:Nd) (first:Zs) (rest:List Zs):Nd:=if (VK n.table first rest n.copies).2=0 then { n with table:=(VK n.table first rest n.copies).1 } else n
def Tf (n:Nd) (p:Zs):Nd:=if (WV n.table n.cursor p).2.2=0 then { n with table:=(WV n.table n.cursor p).1,cursor:=(WV n.table n.cursor p).2.1 } else n
def TA (n:Nd):Nd×List Snd :=
  if n.joined=false then
    let m:=if n.findTo≠-1∧n.findTo≠n.boot then TY n n.findTo else n
    SA { m with findID:=m.table.self.id,hops:=0 } m.boot
  else
    let m:=if n.askTo≠-1 then { n with table:=XK n.table n.askTo,askTo:=-1 } else n
    let m:=if m.table.succ=[]∧m.table.pred≠YD then WG m m.table.pred [] else m
    if m.table.succ=[] then (m,[])
    else ({ m with req:=nxR m.req,askTo:=(Xy m.table).addr,askReq:=nxR m.req },[⟨(Xy m.table).addr,lett m 3 (nxR m.req)⟩])
def fixN (n:Nd):Nd×List Snd :=
  if n.joined=false then (n,[])
  else
    let m:=if n.findTo=-1 then { n with avoid:=[] } else { TY n n.findTo with table:=XK n.table n.findTo,findTo:=-1 }
    let id:=m.table.self.id+powP m.cursor.toNat
    if (Th m.table id).2 then (Tf m (Th m.table id).1,[])
    else if (Ww m.table id m.avoid).2=false then ({ m with cursor:=0 },[])
    else SA { m with findID:=id,hops:=0 } (Ww m.table id m.avoid).1.addr
def Tg (n:Nd):Nd×List Snd :=
  let m:=if n.pingTo≠-1 then { n with table:=XK n.table n.pingTo,pingTo:=-1 } else n
  match To m.table with
  | []=>(m,[])
  | p::l =>
    let a:=(((p::l)[m.turn.toNat % (l.length+1)]?).getD YD).addr
    ({ m with req:=nxR m.req,pingTo:=a,pingReq:=nxR m.req,turn:=(m.turn+1) % 1000000 },[⟨a,lett m 6 (nxR m.req)⟩])
def Uh (n:Nd) (kind:Int):Nd×List Snd×Int :=
  if IsNd n∧1≤kind∧kind≤3 then
    let r:=if kind=1 then TA n else if kind=2 then fixN n else Tg n
    (r.1,r.2,0)
  else (Nd.zero,[],1)
def Sn (n:Nd) (l:Lt):List Snd :=
  if n.joined=false then []
  else
    let d:=Th n.table l.id
    let q:=Ww n.table l.id l.avoid
    [⟨l.frm.addr,{ lett n 2 l.req with done:=d.2 || !q.2,peer:=if d.2 || !q.2 then d.1 else q.1 }⟩]
def UK (n:Nd) (l:Lt):Nd×List Snd :=
  if n.findTo≠l.frm.addr∨n.findReq≠l.req then (n,[])
  else if l.done then
    let m:={ n with findTo:=-1 }
    if n.joined=true∧(Xn n.table.self l.peer∨l.peer=n.table.self) then (Tf m l.peer,[])
    else if n.joined=false∧Xn n.table.self l.peer then ({ WG m l.peer [] with joined:=true,cursor:=0,avoid:=[] },[])
    else (m,[])
  else if ¬Xn n.table.self l.peer∨l.peer.addr∈n.avoid∨l.peer.addr=l.frm.addr∨32≤n.hops then ({ n with findTo:=-1 },[])
  else SA { n with hops:=n.hops+1 } l.peer.addr
def TS (n:Nd) (l:Lt):Nd×List Snd :=
  if n.askTo≠l.frm.addr∨n.askReq≠l.req then (n,[])
  else
    let m:=WG { n with askTo:=-1 } l.frm l.peers
    let m:=if Ta m.table l.peer then WG m l.peer (l.frm::l.peers) else m
    (m,[⟨(Xy m.table).addr,lett m 5 0⟩])
def byeN (n:Nd) (l:Lt):Nd :=
  let t:=XK n.table l.frm.addr
  let t:=if n.table.pred.addr=l.frm.addr then Ub t l.peer else t
  let m:={ n with table:=t }
  match l.peers with
  | []=>m
  | p::ps=>if (Xy n.table).addr=l.frm.addr then WG m p ps else m
def VZ (n:Nd) (l:Lt):Nd×List Snd×Int :=
  if IsNd n∧IsLt l then
    if ¬Xn n.table.self l.frm then (n,[],0)
    else if l.kind=1 then (n,Sn n l,0)
    else if l.kind=2 then ((UK n l).1,(UK n l).2,0)
    else if l.kind=3 then (n,if n.joined then [⟨l.frm.addr,{ lett n 4 l.req with peer:=n.table.pred,peers:=n.table.succ }⟩] else [],0)
    else if l.kind=4 then ((TS n l).1,(TS n l).2,0)
    else if l.kind=5 then ({ n with table:=Ub n.table l.frm },[],0)
    else if l.kind=6 then (n,[⟨l.frm.addr,lett n 7 l.req⟩],0)
    else if l.kind=7 then (if n.pingTo=l.frm.addr∧n.pingReq=l.req then { n with pingTo:=-1 } else n,[],0)
    else (byeN n l,[],0)
  else (Nd.zero,[],1)
def TL (n:Nd):List Snd×Int :=
  if IsNd n then
    let l:={ lett n 8 0 with peer:=n.table.pred,peers:=n.table.succ }
    ((if n.table.succ=[] then [] else [⟨(Xy n.table).addr,l⟩])++(if n.table.pred≠YD∧n.table.pred≠Xy n.table then [⟨n.table.pred.addr,l⟩] else []),0)
  else ([],1)
end Go.Esp
namespace Go.Esp
section
variable {P:Program} {n:Sh} {ops:Array Oper} {Q:Exit→Act→World→Prop} {rest:List Nat} {M M':Mem} {H H' H0:Hp} {e:Env} {J S:World→Prop} {A:As} {i:Nat}
  {dst:Option Tmp} {d:Tmp} {op:Op} {ty:TypeId} {pos:String} {af:Array Edge} {gd:Option (Nat×Bool)}
theorem X_min {x y:Operand} {p q r:Int} {ats:Array TypeId} (hi:ops[i]?=some ⟨some d,.call ⟨.builtin .min,#[x,y],ats⟩,ty,pos,af,gd⟩) (hg:want ops e gd=some true)
    (hx:ev e x=some (.int .i64 p)) (hy:ev e y=some (.int .i64 q)) (hr:(if q<p then q else p)=r) (hd:Nat.ble (d+1) n.sz=true) (hk:XD P n ops Q rest J A ((d,.int .i64 r)::e)):XD P n ops Q (i::rest) J A e :=
  Ux hi rfl hg (fun a' w ha _=>XJ (by
    subst hr
    simp only [execOp,resolve]
    simp [invoke,builtin,Builtin.min_,Builtin.min2,ha.ev hx,ha.ev hy])) (fun a ha=>ha.put hd _) hk
theorem X_cap_sl {t E sz by_:Nat} {x:Operand} {a:Option Addr} {l c:Nat} {ats:Array TypeId} (hi:ops[i]?=some ⟨some d,.call ⟨.builtin .cap,#[x],ats⟩,ty,pos,af,gd⟩) (hg:want ops e gd=some true)
    (hx:ev e x=some (.slice a l c)) (hat:ats[0]?=some t) (ht:slOf P t=some (E,sz,by_)) (hd:Nat.ble (d+1) n.sz=true) (hk:XD P n ops Q rest J A ((d,.int .i64 (c:Int))::e)):XD P n ops Q (i::rest) J A e :=
  Ux hi rfl hg (fun a' w ha _=>XJ (by
    obtain ⟨it,hu,_⟩:=WA ht
    simp only [execOp,resolve]
    simp [invoke,builtin,Builtin.cap_,ha.ev hx,hat,run_underlying hu,goInt])) (fun a ha=>ha.put hd _) hk
theorem X_appendZ {t tn E sz by_ k:Nat} {z:Value} {kn:IntKind} {x y:Operand} (hi:ops[i]?=some ⟨some d,.call ⟨.builtin .append,#[x,y],#[t,tn]⟩,ty,pos,af,gd⟩) (hg:want ops e gd=some true)
    (hx:ev e x=some (.slice none 0 0)) (hy:ev e y=some (.int .i64 (k:Int))) (ht:slOf P t=some (E,sz,by_)) (htn:P.underlying tn=some (.int kn)) (hz:XW P E=some z) (hzs:z.cells.size=sz) (hsz:Nat.ble 1 sz=true) (h0:0<k) (hk9:k≤16777216) (hkb:k * by_≤140737488355328) (hd:Nat.ble (d+1) n.sz=true)
    (hk:∀ (b c:Nat) hs',k≤c→OSl E sz (.slice (some ⟨b,0,none⟩) 0 c) hs' []→XD P n ops Q rest (St M (hs'++H)) ⟨M,hs'++H⟩ ((d,.slice (some ⟨b,0,none⟩) k c)::e)) (hnw:n.wrs.contains i=false:=by rfl):XD P n ops Q (i::rest) J ⟨M,H⟩ e:=by
  refine Tz hi rfl hg (fun a w ha hw=>?_) hnw
  obtain ⟨it,hu,hit,rfl,rfl⟩:=WA ht
  have hz':it.zero=some z:=by simpa [XW,hit] using hz
  have hpos:1≤it.size:=Nat.le_of_ble_eq_true hsz
  have hr:=Lib.run_append_nil_zeros (P:=P) w t tn ty E it z .i64 kn hu htn hit hz' k h0 jC jC jC
  have hge:=grownCap_ge w k 0 E
  have hcm:grownCap w k 0 E≤maxLen:=grownCap_le_maxLen w k 0 E zZ
  have h0':St M H w.drew:=hw.heap rfl ⟨rfl,rfl,rfl,Nat.le_succ _⟩
  have h2:=h0'.alloc (.cells (Builtin.zeroCells z.cells k++Builtin.zeroCells z.cells (grownCap w k 0 E-k)) E)
  have ho:OSl E it.size (.slice (some ⟨w.heap.size,0,none⟩) 0 (grownCap w k 0 E)) [(w.heap.size,.cells (Builtin.zeroCells z.cells k++Builtin.zeroCells z.cells (grownCap w k 0 E-k)) E (0,0))] []:=by
    refine OSl.own (T:=E) (sz:=it.size) w.heap.size (grownCap w k 0 E) [] _ (fun r hr=>by cases hr) (Nat.zero_le _) hcm ?_ (by simp [ZZ])
    simp only [Array.size_append,size_zeroCells,hzs]
    rw [← Nat.add_mul];congr 1;omega
  unfold Oper.does
  have:(execOp a.eval ⟨some d,.call ⟨.builtin .append,#[x,y],#[t,tn]⟩,ty,pos,af,gd⟩).run P w=.ok (.value (.slice (some ⟨w.heap.size,0,none⟩) k (grownCap w k 0 E))) (w.drew.alloc (.cells (Builtin.zeroCells z.cells k++Builtin.zeroCells z.cells (grownCap w k 0 E-k)) E)):=by
    simp only [execOp,resolve]
    simp only [invoke,builtin]
    have e1:#[x,y].map a.eval=#[.slice none 0 0,.int .i64 (k:Int)]:=by simp [ha.ev hx,ha.ev hy]
    rw [e1]
    rw [Sem.run_bind]
    show (Result.ok _ w).andThen _=_
    rw [Result.andThen_ok]
    exact Wp hr
  rw [this]
  exact ⟨⟨M,_⟩,_,h2,ha.put hd _,hk _ _ _ hge ho⟩
theorem C_cutX {α:Type} {c rest:Code} (pre:α→Env) (F:α→Prop) {e0:Env} (hp:Pick e e0)
    (h1:C P n c (Exit.then (fun a w=>∃ x,F x∧Sat n (pre x++e0) a∧S w) Q) S e) (h2:∀ x,F x→C P n rest Q S (pre x++e0)) :
    C P n c (Exit.then (rest.wpIn (Fr n.ro) 0 P Q) Q) S e:=by
  intro a w ha hw
  refine wpIn_mono (h1 a w ha hw) fun x a' w' hx=>?_
  cases x with
  | normal =>
    obtain ⟨x,hF,hs,hw2⟩:=hx
    exact h2 x hF a' w' hs hw2
  | _=>exact hx
theorem K_cutX {α:Type} {S':World→Prop} {pre:α→Env} {F:α→Prop} {e0 e1:Env} (x:α) (hF:F x) (hp:Pick e1 (pre x++e0)) (hS:∀ w,S' w→S w) :
    K n (Exit.then (fun a w=>∃ x,F x∧Sat n (pre x++e0) a∧S w) Q) .normal S' e1:=fun a w ha hw=>⟨x,hF,ha.pick hp,hS w hw⟩
theorem K_is {x:Exit} {v v':Value} (k:Nat) (hk:get e k=some v) (hv:v=v') (h:K n Q x S ((k,v')::e)):K n Q x S e:=fun a w ha hw=>h a w (ha.more (hv ▸ hk)) hw
end
end Go.Esp
namespace Go.Esp
section
variable {P:Program} {n:Sh} {ops:Array Oper} {Q:Exit→Act→World→Prop} {rest:List Nat} {M M':Mem} {H H' H0:Hp} {e:Env} {J S:World→Prop} {A:As} {i:Nat}
  {dst:Option Tmp} {d:Tmp} {op:Op} {ty:TypeId} {pos:String} {af:Array Edge} {gd:Option (Nat×Bool)}
theorem X_cat {t t':TypeId} {x y:Operand} {a b c:ByteArray} (hi:ops[i]?=some ⟨some d,.binOp .add t x y t',ty,pos,af,gd⟩) (hg:want ops e gd=some true)
    (hx:ev e x=some (.string a)) (hy:ev e y=some (.string b)) (hn:a.size+b.size≤9223372036854775807) (hc:a++b=c) (hd:Nat.ble (d+1) n.sz=true)
    (hk:XD P n ops Q rest J A ((d,.string c)::e)):XD P n ops Q (i::rest) J A e :=
  Vk hi rfl hg (fun a' w ha=>XJ (by
    subst hc
    simp only [execOp,ha.ev hx,ha.ev hy]
    refine Wp ?_
    have h9:¬(((a.size+b.size:Nat):Int) > IntKind.i64.max):=by
      rw [show IntKind.i64.max=(9223372036854775807:Int) by decide];omega
    rw [Sem.run_bind]
    simp only [eqGuard,binOp,Op.stringOp,if_neg h9]
    rfl)) (fun a ha=>ha.put hd _) hk
theorem run_bounds {a':Act} {w:World} {lo hi:Option Operand} {olo ohi:Option Nat} {l c:Nat} {isS:Bool} (ha:Sat n e a') (h1:Bnd e lo olo) (h2:Bnd e hi ohi) (hlc:l≤c) (hh:ohi.getD l≤c) (hl:olo.getD 0≤ohi.getD l) :
    (Instr.sliceBounds isS l c (lo.map a'.eval) (hi.map a'.eval) none).run P w=.ok (olo.getD 0,ohi.getD l,c) w:=by
  unfold Instr.sliceBounds
  simp only []
  rw [Yf (show (pure c:Sem Nat).run P w=.ok c w from rfl)]
  cases h2 with
  | none =>
    simp only [Option.map_none,Option.getD_none] at hh hl ⊢
    rw [Yf (show (pure l:Sem Nat).run P w=.ok l w from rfl)]
    cases h1 with
    | none=>rfl
    | some hz hzk =>
      subst hzk
      simp only [Option.map_some,ha.ev hz,Option.getD_some] at hl ⊢
      rw [Yf (run_sliceBound hl)];rfl
  | some hy hyk =>
    subst hyk
    simp only [Option.map_some,ha.ev hy,Option.getD_some] at hh hl ⊢
    rw [Yf (run_sliceBound hh)]
    cases h1 with
    | none=>rfl
    | some hz hzk =>
      subst hzk
      simp only [Option.map_some,ha.ev hz,Option.getD_some] at hl ⊢
      rw [Yf (run_sliceBound hl)];rfl
theorem X_slice_str {t:TypeId} {x:Operand} {lo hi:Option Operand} {olo ohi:Option Nat} {s c:ByteArray} (hi':ops[i]?=some ⟨some d,.slice t x lo hi none,ty,pos,af,gd⟩) (hg:want ops e gd=some true)
    (hx:ev e x=some (.string s)) (h1:Bnd e lo olo) (h2:Bnd e hi ohi) (hu:P.underlying t=some .string) (hh:ohi.getD s.size≤s.size) (hl:olo.getD 0≤ohi.getD s.size) (hc:s.extract (olo.getD 0) (ohi.getD s.size)=c) (hd:Nat.ble (d+1) n.sz=true)
    (hk:XD P n ops Q rest J A ((d,.string c)::e)):XD P n ops Q (i::rest) J A e :=
  Vk hi' rfl hg (fun a' w ha=>XJ (by
    subst hc
    simp only [execOp]
    refine Wp ?_
    unfold Instr.sliceAt
    rw [Yf (Xf hu)]
    simp only [ha.ev hx]
    unfold Instr.slice
    rw [Yf (Xf hu)]
    simp only [Option.map_none,Option.isSome_none,Bool.false_eq_true,if_false]
    have hb:=run_bounds (P:=P) (w:=w) (isS:=false) ha h1 h2 (Nat.le_refl s.size) hh hl
    rw [Yf hb]
    rfl)) (fun a ha=>ha.put hd _) hk
theorem X_slice_arrB {t el b off len:Nat} {x:Operand} {lo hi:Option Operand} {olo ohi:Option Nat} {v:Value} (hi':ops[i]?=some ⟨some d,.slice t x lo hi none,ty,pos,af,gd⟩) (hg:want ops e gd=some true)
    (hx:ev e x=some (.pointer (some ⟨b,off,none⟩))) (h1:Bnd e lo olo) (h2:Bnd e hi ohi) (ht:arOf P t=some (len,el)) (hh:ohi.getD len≤len) (hl:olo.getD 0≤ohi.getD len)
    (hv:WJ (some ⟨b,off,none⟩) 1 (olo.getD 0) (ohi.getD len) len=v) (hd:Nat.ble (d+1) n.sz=true)
    (hK:XD P n ops Q rest J A ((d,v)::e)):XD P n ops Q (i::rest) J A e :=
  Vk hi' rfl hg (fun a' w ha=>XJ (by
    subst hv
    simp only [execOp,ha.ev hx]
    refine Wp ?_
    obtain ⟨it,hu,hit,h9⟩:=arOf_spec ht
    unfold Instr.sliceAt
    rw [Yf (Xf hu)]
    simp only [Option.map_none]
    have hb:=run_bounds (P:=P) (w:=w) (isS:=false) ha h1 h2 (Nat.le_refl len) hh hl
    rw [Yf (show (Instr.sureAddr (.pointer (some ⟨b,off,none⟩))).run P w=.ok ⟨b,off,none⟩ w from rfl),Yf hb,Yf (run_sizeOf' hit)]
    simp only [h9]
    unfold WJ
    split <;> rfl)) (fun a ha=>ha.put hd _) hK
def Uv (s:ByteArray):List Value:=s.data.toList.map fun b=>.int .u8 (b.toNat:Int)
theorem X_copyS {t t' E by_:Nat} {x y:Operand} {s:ByteArray} {b m T:Nat} {r u:Segs} {ats:Array TypeId} (hi:ops[i]?=some ⟨some d,.call ⟨.builtin .copy,#[x,y],ats⟩,ty,pos,af,gd⟩) (hg:want ops e gd=some true)
    (hx:ev e x=some (.slice (some ⟨b,0,Option.none⟩) m m)) (hy:ev e y=some (.string s)) (hat:ats=#[t,t']) (ht:slOf P t=some (E,1,by_)) (hs:s.size=m)
    (hu:Upd b (rowO r T) (rowO u T) H H') (hr:(Segs.cells r).length=m) (hc:Segs.cells u=Uv s) (hd:Nat.ble (d+1) n.sz=true)
    (hk:XD P n ops Q rest (St M H') ⟨M,H'⟩ ((d,.int .i64 (m:Int))::e)) (hnw:n.wrs.contains i=false:=by rfl):XD P n ops Q (i::rest) J ⟨M,H⟩ e:=by
  subst hat
  refine Tz hi rfl hg (fun a w ha hw=>?_) hnw
  obtain ⟨it,hun,hit,hsz,rfl⟩:=WA ht
  have hb:=hw.own _ _ hu.mem
  have hcl:(Uv s).length=m:=by
    unfold Uv
    rw [List.length_map,Array.length_toList];exact hs
  have hstore:=run_storeCells_at P b 0 T (Uv s) 0 (Segs.cells r).toArray w hb jY (fun v hv=>by
    obtain ⟨b9,-,rfl⟩:=List.mem_map.1 hv;rfl)
  have e1:(List.take 0 (Segs.cells r)++Uv s++List.drop (0+(Uv s).length) (Segs.cells r))=Segs.cells u:=by
    rw [hc,List.take_zero,List.nil_append,Nat.zero_add,List.drop_eq_nil_of_le jC,List.append_nil]
  have hrun:(Builtin.copy_ #[t,t'] ty #[.slice (some ⟨b,0,Option.none⟩) m m,.string s]).run P w=.ok (goInt m) (w.setRow b (Segs.cells u).toArray):=by
    have e9:Nat.min s.size m=m:=by rw [hs];exact Nat.min_self m
    have e8:((s.extract 0 m).data.map fun b=>Value.int .u8 (b.toNat:Int)).toList=Uv s:=by
      rw [← hs];simp [Uv]
    have h5:=hstore
    simp only [Nat.add_zero,List.append_assoc,Nat.zero_add] at h5
    simp [Builtin.copy_,run_underlying hun,Builtin.lenOf,Builtin.firstCells,sizeOf,typeInfo,hit,e9,hsz]
    have e7:List.take m (List.map (fun b:UInt8=>Value.int .u8 (b.toNat:Int)) s.data.toList)=Uv s:=by
      show List.take m (Uv s)=Uv s
      exact List.take_of_length_le jC
    rw [e7,h5]
    have e6:List.take 0 (Segs.cells r)++(Uv s++List.drop (Uv s).length (Segs.cells r))=Segs.cells u:=by
      rw [← e1,Nat.zero_add,List.append_assoc]
    rw [e6];rfl
  unfold Oper.does
  have:(execOp a.eval ⟨some d,.call ⟨.builtin .copy,#[x,y],#[t,t']⟩,ty,pos,af,gd⟩).run P w=.ok (.value (.int .i64 (m:Int))) (w.setRow b (Segs.cells u).toArray):=by
    simp only [execOp,resolve]
    simp only [invoke,builtin]
    have e1:#[x,y].map a.eval=#[.slice (some ⟨b,0,Option.none⟩) m m,.string s]:=by simp [ha.ev hx,ha.ev hy]
    rw [e1]
    rw [Sem.run_bind]
    show (Result.ok _ w).andThen _=_
    rw [Result.andThen_ok]
    exact Wp hrun
  rw [this]
  exact ⟨⟨M,H'⟩,_,hw.upd hu (setRow_heap w b _ _ T _ hb) (fun c hc z hz=>by rw [setRow_other w b c _ hc];exact hz) (VM.refl _),ha.put hd _,hk⟩
theorem Sy {f:FuncId} {g:Operand} {xs:List Operand} {ats:Array TypeId} {vs:List Value} {R:Value→Prop} (hi:ops[i]?=some ⟨some d,.call ⟨.value g,xs.toArray,ats⟩,ty,pos,af,gd⟩) (hcl:clOf P (.call ⟨.value g,xs.toArray,ats⟩)=.eff) (hg:want ops e gd=some true)
    (hf:okFn P f=true) (hgv:ev e g=some (.func (.func f) #[] #[])) (hx:evs e xs=some vs) (hc:Fs P f vs M R) (hd:Nat.ble (d+1) n.sz=true)
    (hk:∀ v,R v→XD P n ops Q rest J ⟨M,H⟩ ((d,v)::e)):XD P n ops Q (i::rest) J ⟨M,H⟩ e:=by
  obtain ⟨fn,h1,h2,h3⟩:=VG hf
  refine X_eff hi hcl hg (fun a F w ha hw=>does_callV (caps:=[]) h1 h2 h3 (ha.ev hgv) zD ?_)
  have:=hc (F++H) w hw
  rw [List.append_nil]
  exact this.mono fun e' w' ⟨v,he,hs,hr⟩=>⟨v,he,⟨M,H⟩,_,hs,fun _ h=>h,ha.put hd v,hk v hr⟩
def arOfN (P:Program) (t:TypeId):Option (Nat×TypeId×Nat):=match P.underlying t with
  | some (.array k el)=>match P.info? el with
    | some i=>some (k,el,i.size)
    | none=>none
  | _=>none
theorem arOfN_spec {t el k sz:Nat} (h:arOfN P t=some (k,el,sz)):∃ i,P.underlying t=some (.array k el)∧P.info? el=some i∧i.size=sz:=by
  unfold arOfN at h
  split at h
  · rename_i k' el' hu
    split at h
    · rename_i i hi
      cases h
      exact ⟨i,hu,hi,rfl⟩
    · cases h
  · cases h
theorem X_indexAddr_arrN {t el b off len k sz:Nat} {x ix:Operand} {q:IntKind} {z:Int} (hi:ops[i]?=some ⟨some d,.indexAddr t x ix,ty,pos,af,gd⟩) (hg:want ops e gd=some true)
    (hx:ev e x=some (.pointer (some ⟨b,off,none⟩))) (hix:ev e ix=some (.int q z)) (ht:arOfN P t=some (len,el,sz)) (hz:z=(k:Int)) (hk:k<len) (hd:Nat.ble (d+1) n.sz=true)
    (hK:XD P n ops Q rest J A ((d,.pointer (some ⟨b,off+k * sz,none⟩))::e)):XD P n ops Q (i::rest) J A e :=
  Vk hi rfl hg (fun a' w hA=>XJ (by
    simp only [execOp,hA.ev hx,hA.ev hix]
    refine Wp ?_
    obtain ⟨it,hu,hit,h1⟩:=arOfN_spec ht
    subst hz
    simp [Instr.indexAt,asIntOf,run_underlying hu,sizeOf,typeInfo,hit,hk,h1,Instr.sureAddr,Addr.add_lit])) (fun a ha=>ha.put hd _) hK
def u8R (n:Nat):Segs:=[.one (.int .u8 (n:Int))]
theorem u8_cells:∀ l:List Nat,ZZ (l.map u8R)=(l.map fun n:Nat=>(n:Int)).map (Value.int .u8)
  | []=>rfl
  | x::l=>by
    have:=u8_cells l
    show (Value.int .u8 (x:Int))::ZZ (l.map u8R)=_
    rw [this];rfl
theorem X_convS {src dst' E by_:Nat} {x:Operand} {u:Value} {l:List Nat} {s:ByteArray} {MJ:Mem} {HJ:Hp} (hi:ops[i]?=some ⟨some d,.convert src dst' x,ty,pos,af,gd⟩) (hg:want ops e gd=some true)
    (hx:ev e x=some u) (hsrc:Src MJ HJ 1 u (l.map u8R)) (ht:slOf P src=some (E,1,by_)) (he:P.underlying E=some (.int .u8)) (hd':P.underlying dst'=some .string) (hs:strOfNums (l.map fun n:Nat=>(n:Int))=s) (hd:Nat.ble (d+1) n.sz=true)
    (hk:XD P n ops Q rest (St MJ HJ) A ((d,.string s)::e)):XD P n ops Q (i::rest) (St MJ HJ) A e:=by
  obtain ⟨it,hun,hit,hsz,rfl⟩:=WA ht
  have hcl:clOf P (.convert src dst' x)=.read:=by simp [clOf,hun,hd']
  obtain ⟨hln,h1,ad,c2,rfl,hsr⟩:=hsrc
  refine Ux hi hcl hg (fun a w ha hw=>XJ ?_) (fun a ha=>ha.put hd _) hk
  have hload:=run_loadCells_list (P:=P) w ad (ZZ (l.map u8R)) (fun j v hj=>hsr w hw j v hj)
  rw [u8_cells,List.length_map,List.length_map] at hload
  have hr:(convert src dst' (.slice (some ad) (l.map u8R).length c2)).run P w=.ok (.string s) w:=by
    rw [run_convert_bytes_string w src dst' E _ _ c2 hun he hd',List.length_map,run_bytesToString w ad l.length c2 _ hload,foldl_push_bytes,← hs]
    simp [strOfNums,ByteArray.empty,ByteArray.emptyWithCapacity]
    first|done|rfl
  simp only [execOp,ha.ev hx]
  exact Wp hr
end
def XY (s:ByteArray):List Nat:=s.data.toList.map fun b=>b.toNat
theorem Vm (s:ByteArray):(XY s).length=s.size:=by
  unfold XY;rw [List.length_map,Array.length_toList];rfl
theorem natsOf_lt (s:ByteArray):∀ b∈XY s,b<256:=fun b hb=>by
  obtain ⟨u,-,rfl⟩:=List.mem_map.1 hb
  exact u.toNat_lt
theorem getD_lt {B:List Nat} (h:∀ b∈B,b<256) (j:Nat):B.getD j 0<256:=by
  rw [List.getD_eq_getElem?_getD]
  cases hg:B[j]? with
  | none=>simp
  | some v=>exact h v (List.mem_of_getElem? hg)
theorem byteVs_nats (s:ByteArray):Uv s=(XY s).map fun n=>.int .u8 (n:Int):=by
  unfold Uv XY;rw [List.map_map];rfl
theorem byteVec (s:ByteArray) {m:Nat} (hs:s.size=m):∃ bv:Vector Value m,bv.toList=Uv s :=
  ⟨⟨(Uv s).toArray,by rw [List.size_toArray,byteVs_nats,List.length_map,Vm,hs]⟩,rfl⟩
theorem byteCell {s:ByteArray} {m j:Nat} {bv:Vector Value m} (h:bv.toList=Uv s) (hs:s.size=m) (hj:j<m):(Segs.cells [.arr m bv])[j]?=some (.int .u8 (((XY s).getD j 0:Nat):Int)):=by
  rw [arr_cells,h,byteVs_nats,List.getElem?_map,List.getD_eq_getElem?_getD,List.getElem?_eq_getElem (by rw [Vm];omega)]
  rfl
theorem pieceV_at {b off lo hi m:Nat} (h:lo<m):WJ (some ⟨b,off,none⟩) 1 lo hi m=.slice (some ⟨b,off+lo,none⟩) (hi-lo) (m-lo):=by
  unfold WJ
  rw [if_neg jC]
  simp [Addr.add_lit]
def u32R (n:Nat):Segs:=[.one (.int .u32 (n:Int))]
end Go.Esp
namespace Go.Esp
section
variable {P:Program} {ops:Array Oper} {Q:Exit→Act→World→Prop} {M M':Mem} {H H' H0:Hp} {e:Env}
theorem YB {m:Nat} {ds:List Deferred} {ro:Option Nat} {id:Nat} {l:List Nat} (ws:List Nat) (hl:List.range ops.size=l) (h:XD P ⟨m,ds,ro,ws⟩ ops Q l (St M H) ⟨M,H⟩ e):C P ⟨m,ds,ro,[]⟩ (.region id ops false) Q (St M H) e :=
  fun a w ha hw=>wpIn_region (wpOps_of_WD _ (St M H) ⟨M,H⟩ a w (fun _ h=>h) hw (hl ▸ h (fun _ h=>h) a ⟨ha.size,ha.defers,ha.slot⟩))
end
end Go.Esp
namespace Go.Esp
section
variable {P:Program} {n:Sh} {ops:Array Oper} {Q:Exit→Act→World→Prop} {rest:List Nat} {M M':Mem} {H H' H0:Hp} {e:Env} {J S:World→Prop} {A:As} {i:Nat}
  {dst:Option Tmp} {d:Tmp} {op:Op} {ty:TypeId} {pos:String} {af:Array Edge} {gd:Option (Nat×Bool)}
theorem Vs {t k:Nat} {x ix:Operand} {q:IntKind} {z:Int} {s:ByteArray} {v:Value} (hi:ops[i]?=some ⟨some d,.index t x ix,ty,pos,af,gd⟩) (hg:want ops e gd=some true)
    (hx:ev e x=some (.string s)) (hix:ev e ix=some (.int q z)) (ht:P.underlying t=some .string) (hz:z=(k:Int)) (hk:k<s.size) (hv:Value.int .u8 (((XY s).getD k 0:Nat):Int)=v) (hd:Nat.ble (d+1) n.sz=true)
    (hK:XD P n ops Q rest J A ((d,v)::e)):XD P n ops Q (i::rest) J A e :=
  Vk hi rfl hg (fun a' w hA=>XJ (by
    subst hz hv
    simp only [execOp,hA.ev hx,hA.ev hix]
    refine Wp ?_
    rw [run_index_string w t s q (k:Int) ht,dif_pos ⟨by omega,by omega⟩]
    have e1:(XY s).getD k 0=(s[k]'hk).toNat:=by
      unfold XY
      rw [List.getD_eq_getElem?_getD,List.getElem?_map,List.getElem?_eq_getElem (by rw [Array.length_toList];exact hk)]
      simp only [Option.map_some,Option.getD_some,Array.getElem_toList]
      rfl
    rw [e1]
    rfl)) (fun a ha=>ha.put hd _) hK
theorem X_convSA {src dst' E by_:Nat} {x:Operand} {u:Value} {l:List Nat} {s:ByteArray} (hi:ops[i]?=some ⟨some d,.convert src dst' x,ty,pos,af,gd⟩) (hws:n.wrs.contains i=true) (hg:want ops e gd=some true)
    (hx:ev e x=some u) (hsrc:Src M H 1 u (l.map u8R)) (ht:slOf P src=some (E,1,by_)) (he:P.underlying E=some (.int .u8)) (hd':P.underlying dst'=some .string) (hs:strOfNums (l.map fun n:Nat=>(n:Int))=s) (hd:Nat.ble (d+1) n.sz=true)
    (hk:XD P n ops Q rest J ⟨M,H⟩ ((d,.string s)::e)):XD P n ops Q (i::rest) J ⟨M,H⟩ e:=by
  obtain ⟨it,hun,hit,hsz,rfl⟩:=WA ht
  have hcl:clOf P (.convert src dst' x)=.read:=by simp [clOf,hun,hd']
  obtain ⟨hln,h1,ad,c2,rfl,hsr⟩:=hsrc
  refine X_readA hi hcl hws hg (fun a w ha hw=>XJ ?_) (fun a ha=>ha.put hd _) hk
  have hload:=run_loadCells_list (P:=P) w ad (ZZ (l.map u8R)) (fun j v hj=>hsr w hw j v hj)
  rw [u8_cells,List.length_map,List.length_map] at hload
  have hr:(convert src dst' (.slice (some ad) (l.map u8R).length c2)).run P w=.ok (.string s) w:=by
    rw [run_convert_bytes_string w src dst' E _ _ c2 hun he hd',List.length_map,run_bytesToString w ad l.length c2 _ hload,foldl_push_bytes,← hs]
    simp [strOfNums,ByteArray.empty,ByteArray.emptyWithCapacity]
    first|done|rfl
  simp only [execOp,ha.ev hx]
  exact Wp hr
end
end Go.Esp
namespace Go.Esp
def strN (l:List Nat):ByteArray:=strOfNums (l.map fun n:Nat=>(n:Int))
theorem Vr (l:List Nat):(strN l).size=l.length:=by unfold strN;rw [strOfNums_size,List.length_map]
theorem strN_app (a b:List Nat):strN a++strN b=strN (a++b):=by
  refine ByteArray.ext ?_
  rw [ByteArray.data_append]
  unfold strN strOfNums
  simp
theorem strN_cut (a b:List Nat):(strN (a++b)).extract 0 a.length=strN a:=by
  refine ByteArray.ext ?_
  rw [ByteArray.data_extract]
  unfold strN strOfNums
  simp
theorem strN_rest (a b:List Nat):(strN (a++b)).extract a.length (strN (a++b)).size=strN b:=by
  refine ByteArray.ext ?_
  rw [ByteArray.data_extract,Vr]
  unfold strN strOfNums
  simp [List.take_of_length_le]
theorem natsOf_strN {l:List Nat} (h:∀ b∈l,b<256):XY (strN l)=l:=by
  unfold XY strN strOfNums
  simp only [List.map_map]
  conv=>rhs;rw [← List.map_id l]
  refine List.map_congr_left fun b hb=>?_
  have:=h b hb
  simp [Nat.mod_eq_of_lt this]
def bitL (n:Nat):Nat:=if n=0 then 0 else Nat.log2 n+1
theorem UI {n k:Nat} (h:2 ^ k≤n):k+bitL (n / 2 ^ k)=bitL n:=by
  have h1:n / 2 ^ k≠0:=Nat.ne_of_gt (Nat.div_pos h (Nat.two_pow_pos k))
  have h0:n≠0:=by have:=Nat.two_pow_pos k;omega
  have h2:Nat.log2 n=Nat.log2 (n / 2 ^ k)+k:=by
    refine Nat.le_antisymm ?_ ?_
    · have h3:k≤Nat.log2 n:=(Nat.le_log2 h0).2 h
      have h4:2 ^ (Nat.log2 n-k)≤n / 2 ^ k:=by
        rw [Nat.le_div_iff_mul_le (Nat.two_pow_pos k),← Nat.pow_add,Nat.sub_add_cancel h3]
        exact Nat.log2_self_le h0
      have:=(Nat.le_log2 h1).2 h4
      omega
    · refine (Nat.le_log2 h0).2 ?_
      rw [Nat.pow_add]
      have h4:=Nat.log2_self_le h1
      exact (Nat.le_div_iff_mul_le (Nat.two_pow_pos k)).1 h4
  unfold bitL
  rw [if_neg h1,if_neg h0,h2];omega
theorem bitL_lt (n:Nat):n<2 ^ bitL n:=by
  unfold bitL
  split
  · subst_vars;decide
  · exact Nat.lt_log2_self
theorem bitL_ge {n:Nat} (h:n≠0):2 ^ (bitL n-1)≤n:=by
  unfold bitL;rw [if_neg h];exact Nat.log2_self_le h
theorem bitL_le {n k:Nat} (h:n<2 ^ k):bitL n≤k:=by
  unfold bitL
  split
  · exact Nat.zero_le _
  · exact (Nat.log2_lt jE).2 h
def lenB (v:Nat):Nat:=(bitL v+7) / 8
theorem lenB_lt (v:Nat):v<256 ^ lenB v:=by
  refine Nat.lt_of_lt_of_le (bitL_lt v) ?_
  rw [show (256:Nat)=2 ^ 8 from rfl,← Nat.pow_mul]
  exact Nat.pow_le_pow_right jJ (by unfold lenB;omega)
theorem lenB_ge {v:Nat} (h:v≠0):0<lenB v∧256 ^ (lenB v-1)≤v:=by
  have h1:0<bitL v:=by unfold bitL;rw [if_neg h];omega
  refine ⟨by unfold lenB;omega,Nat.le_trans ?_ (bitL_ge h)⟩
  rw [show (256:Nat)=2 ^ 8 from rfl,← Nat.pow_mul]
  exact Nat.pow_le_pow_right jJ (by unfold lenB;omega)
theorem lenB_le {v:Nat} (h:v<18446744073709551616):lenB v≤8:=by have:=bitL_le (n:=v) (k:=64) h;unfold lenB;omega
def beL:Nat→Nat→List Nat
  | 0,_=>[]
  | k+1,v=>v / 256 ^ k % 256::beL k v
theorem Tn (k v:Nat):(beL k v).length=k:=by induction k with
  | zero=>rfl
  | succ k ih=>simp [beL,ih]
theorem beL_lt (k v:Nat):∀ b∈beL k v,b<256:=by
  induction k with
  | zero=>intro b hb;cases hb
  | succ k ih =>
    intro b hb
    rcases List.mem_cons.1 hb with rfl|hb
    · exact Nat.mod_lt _ jJ
    · exact ih b hb
theorem beL_get {k v i:Nat} (h:i<k):(beL k v).getD i 0=v / 256 ^ (k-1-i) % 256:=by
  induction k generalizing i with
  | zero=>omega
  | succ k ih =>
    cases i with
    | zero=>simp [beL]
    | succ i=>have:=ih (i:=i) jC;simp only [beL,List.getD_cons_succ,this];congr 3;omega
theorem beL_take {k v i:Nat} (h:i<k):(beL k v).take (i+1)=(beL k v).take i++[v / 256 ^ (k-1-i) % 256]:=by
  rw [List.take_add_one]
  congr 1
  have h1:=beL_get (v:=v) h
  rw [List.getD_eq_getElem?_getD,List.getElem?_eq_getElem (by rw [Tn];exact h)] at h1
  rw [List.getElem?_eq_getElem (by rw [Tn];exact h)]
  exact congrArg (fun x=>[x]) h1
def numL (v:Nat):List Nat:=lenB v::beL (lenB v) v
theorem numL_len (v:Nat):(numL v).length=lenB v+1:=by unfold numL;rw [List.length_cons,Tn]
def plcL (x:Plc):List Nat:=(List.range 20).map (idB x)
theorem plcL_len (x:Plc):(plcL x).length=20:=by simp [plcL]
theorem plcL_lt (x:Plc):∀ b∈plcL x,b<256:=by
  intro b hb;obtain ⟨i,-,rfl⟩:=List.mem_map.1 hb;exact TZ x i
def Wv (p:Zs):List Nat:=numL p.addr.toNat++plcL p.id
def Sb (b:Bool):List Nat:=numL (if b then 1 else 0)
def manyL {α:Type} (f:α→List Nat) (l:List α):List Nat:=numL l.length++l.flatMap f
def Tr (a:Int):List Nat:=numL a.toNat
def bA0 (l:Lt):List Nat:=numL l.kind.toNat++Wv l.frm
def bA1 (l:Lt):List Nat:=bA0 l++if VJ l.kind then numL l.req.toNat else []
def bA2 (l:Lt):List Nat:=bA1 l++if l.kind=1 then plcL l.id else []
def bA3 (l:Lt):List Nat:=bA2 l++if l.kind=1 then manyL Tr l.avoid else []
def bA4 (l:Lt):List Nat:=bA3 l++if l.kind=2 then Sb l.done else []
def bA5 (l:Lt):List Nat:=bA4 l++if WY l.kind then Sb (decide (l.peer≠YD))++(if l.peer≠YD then Wv l.peer else []) else []
def bA6 (l:Lt):List Nat:=bA5 l++if Wx l.kind then manyL Wv l.peers else []
def body (l:Lt):ByteArray:=strN (bA6 l)
theorem Tt {v:Nat} (h:v<18446744073709551616):(numL v).length≤9:=by rw [numL_len];have:=lenB_le h;omega
theorem peerL_le {p:Zs} (h:Yo p.addr):(Wv p).length≤29:=by
  have h9:0≤p.addr∧p.addr≤999:=h
  unfold Wv;rw [List.length_append,plcL_len];have:=Tt (v:=p.addr.toNat) jC;omega
theorem addrL_le {a:Int} (h:Yo a):(Tr a).length≤9:=by
  have h9:0≤a∧a≤999:=h
  exact Tt (v:=a.toNat) jC
theorem flagL_le (b:Bool):(Sb b).length≤9:=by unfold Sb;exact Tt (by split <;> omega)
theorem flat_le {α:Type} {f:α→List Nat} {m:Nat}:∀ {l:List α},(∀ x∈l,(f x).length≤m)→(l.flatMap f).length≤l.length * m
  | [],_=>by simp
  | x::l,h=>by
    have h1:=h x (List.mem_cons_self)
    have h2:=flat_le (f:=f) (m:=m) (l:=l) fun y hy=>h y (List.mem_cons_of_mem _ hy)
    rw [List.flatMap_cons,List.length_append,List.length_cons,Nat.succ_mul];omega
theorem flat_take {α:Type} {f:α→List Nat} {l:List α} {k:Nat} (hk:k<l.length):(l.take (k+1)).flatMap f=(l.take k).flatMap f++f l[k]:=by
  rw [List.take_add_one,List.getElem?_eq_getElem hk,List.flatMap_append];simp
theorem flat_take_le {α:Type} {f:α→List Nat} {m:Nat} {l:List α} (h:∀ x∈l,(f x).length≤m) (k:Nat):((l.take k).flatMap f).length≤l.length * m :=
  Nat.le_trans (flat_le fun x hx=>h x (List.mem_of_mem_take hx)) (Nat.mul_le_mul_right m (by rw [List.length_take];omega))
def Ts (r:Int):Prop:=0≤r∧r<18446744073709551616
theorem bA_len {l:Lt} (h:IsLt l) (hr:Ts l.req):(bA0 l).length≤40∧(bA1 l).length≤50∧(bA2 l).length≤70∧(bA3 l).length≤230∧(bA4 l).length≤240∧(bA5 l).length≤280∧(bA6 l).length≤530:=by
  obtain ⟨h1,h2,h3,h4,h5,-,-,-,-,-,-,-,h13,h14⟩:=h
  obtain ⟨r1,r2⟩:=hr
  have e0:(bA0 l).length≤40:=by
    have:=Tt (v:=l.kind.toNat) jC;have:=peerL_le h2
    unfold bA0;rw [List.length_append];omega
  have e1:(bA1 l).length≤50:=by
    have:=Tt (v:=l.req.toNat) jC
    unfold bA1;rw [List.length_append];split <;> (try simp only [List.length_nil]) <;> omega
  have e2:(bA2 l).length≤70:=by
    have:=plcL_len l.id
    unfold bA2;rw [List.length_append];split <;> (try simp only [List.length_nil]) <;> omega
  have e3:(bA3 l).length≤230:=by
    have:=flat_le (f:=Tr) (m:=9) (l:=l.avoid) (fun x hx=>addrL_le (h13 x hx))
    have:=Tt (v:=l.avoid.length) jC
    unfold bA3 manyL;rw [List.length_append];split <;> (try simp only [List.length_nil,List.length_append]) <;> omega
  have e4:(bA4 l).length≤240:=by
    have:=flagL_le l.done
    unfold bA4;rw [List.length_append];split <;> (try simp only [List.length_nil]) <;> omega
  have e5:(bA5 l).length≤280:=by
    have:=flagL_le (decide (l.peer≠YD))
    have h9:(if l.peer≠YD then Wv l.peer else []).length≤29:=by
      split
      · rename_i h8;exact peerL_le (h5.resolve_left h8)
      · exact Nat.zero_le _
    unfold bA5;rw [List.length_append];split <;> (try simp only [List.length_nil,List.length_append]) <;> omega
  refine ⟨e0,e1,e2,e3,e4,e5,?_⟩
  have:=flat_le (f:=Wv) (m:=29) (l:=l.peers) (fun x hx=>peerL_le (h14 x hx))
  have:=Tt (v:=l.peers.length) jC
  unfold bA6 manyL;rw [List.length_append];split <;> (try simp only [List.length_nil,List.length_append]) <;> omega
def pt1 (l:Lt):List Nat:=if VJ l.kind then numL l.req.toNat else []
def pt2 (l:Lt):List Nat:=if l.kind=1 then plcL l.id else []
def pt3 (l:Lt):List Nat:=if l.kind=1 then manyL Tr l.avoid else []
def pt4 (l:Lt):List Nat:=if l.kind=2 then Sb l.done else []
def pt5 (l:Lt):List Nat:=if WY l.kind then Sb (decide (l.peer≠YD))++(if l.peer≠YD then Wv l.peer else []) else []
def pt6 (l:Lt):List Nat:=if Wx l.kind then manyL Wv l.peers else []
def bS5 (l:Lt):List Nat:=pt6 l++[]
def bS4 (l:Lt):List Nat:=pt5 l++bS5 l
def bS3 (l:Lt):List Nat:=pt4 l++bS4 l
def bS2 (l:Lt):List Nat:=pt3 l++bS3 l
def bS1 (l:Lt):List Nat:=pt2 l++bS2 l
def bS0 (l:Lt):List Nat:=pt1 l++bS1 l
theorem bA_bS (l:Lt):bA6 l=numL l.kind.toNat++(Wv l.frm++bS0 l):=by
  unfold bA6 bA5 bA4 bA3 bA2 bA1 bA0 bS0 bS1 bS2 bS3 bS4 bS5 pt1 pt2 pt3 pt4 pt5 pt6
  simp only [List.append_assoc,List.append_nil]
theorem bS_len {l:Lt} (h:IsLt l) (hr:Ts l.req):(numL l.kind.toNat++(Wv l.frm++bS0 l)).length≤530∧(Wv l.frm++bS0 l).length≤530∧(bS0 l).length≤530∧(bS1 l).length≤530∧(bS2 l).length≤530∧(bS3 l).length≤530∧(bS4 l).length≤530∧(bS5 l).length≤530:=by
  have h1:=(bA_len h hr).2.2.2.2.2.2
  rw [bA_bS] at h1
  have e4:(bS4 l).length=(pt5 l).length+(bS5 l).length:=List.length_append ..
  have e3:(bS3 l).length=(pt4 l).length+(bS4 l).length:=List.length_append ..
  have e2:(bS2 l).length=(pt3 l).length+(bS3 l).length:=List.length_append ..
  have e1:(bS1 l).length=(pt2 l).length+(bS2 l).length:=List.length_append ..
  have e0:(bS0 l).length=(pt1 l).length+(bS1 l).length:=List.length_append ..
  have ep:(Wv l.frm++bS0 l).length=(Wv l.frm).length+(bS0 l).length:=List.length_append ..
  have en:(numL l.kind.toNat++(Wv l.frm++bS0 l)).length=(numL l.kind.toNat).length+(Wv l.frm++bS0 l).length:=List.length_append ..
  omega
theorem many_cut {α:Type} {f:α→List Nat} {l:List α} {k:Nat} (hk:k<l.length) (b:List Nat):(l.drop k).flatMap f++b=f l[k]++((l.drop (k+1)).flatMap f++b):=by
  rw [List.drop_eq_getElem_cons hk,List.flatMap_cons,List.append_assoc]
theorem flat_drop_le {α:Type} {f:α→List Nat} (l:List α) (k:Nat):((l.drop k).flatMap f).length≤(l.flatMap f).length:=by
  conv=>rhs;rw [← List.take_append_drop k l,List.flatMap_append,List.length_append]
  omega
end Go.Esp
namespace Go.Proofs.YtglnjnacodgmaaaGreatDoor
open Go.Esp
theorem F.arr36:arOf Tryz.prog 36=some (20,5):=by kernel_rfl
theorem F.ext199:Ext Tryz.prog 199 Extern.BytealgCompare.compare:=fun args w=>by kernel_rfl
theorem F.lay36:lay Tryz.prog 36=some (true,20):=by kernel_rfl
theorem F.lay5:lay Tryz.prog 5=some (false,1):=by kernel_rfl
theorem F.ok154:okFn Tryz.prog 154=true:=by kernel_rfl
theorem F.zero36:XW Tryz.prog 36=some (aggV [Yb 0]):=by rw [TM];kernel_rfl
theorem bcmp_ok (M:Mem) (ba bb:Nat) (a b:Plc):Fo Tryz.prog 154 [.slice (some ⟨ba,0,none⟩) 20 20,.slice (some ⟨bb,0,none⟩) 20 20] M [(bb,rowO [Yb b] 36),(ba,rowO [Yb a] 36)] (fun M' v=>M'=M∧v=.int .i64 (cmpP a b)):=by
  refine Vu Tryz.func154 rfl Tryz.ntmps154 rfl ?_;intro H
  iterate 9 refine Stp ?_
  refine X_ext rfl rfl F.ext199 rfl (fun w hw=>run_compare (hw.own _ _ jB) (hw.own _ _ jB)) rfl ?_
  iterate 4 refine Stp ?_
  refine ZV (.inr rfl) (.tmp rfl .nil) (fun w hw=>?_)
  exact ⟨_,M,rfl,Mem.le.refl M,hw.c,rfl,rfl⟩
theorem Less_ok (M:Mem) (a:Plc) (b:Plc):Fs Tryz.prog 95 [aggV [Yb a],aggV [Yb b]] M (fun v=>v=Value.bool (decide (Vl a b))):=by
  refine Xe Tryz.func95 rfl Tryz.ntmps95 rfl ?_;intro H
  iterate 2 refine Stp ?_
  refine Xq ?_;intro b1
  refine Xq ?_;intro b2
  iterate 4 refine Stp ?_
  refine Yg (l:=[0,1,2,3,4]) #[0,0,3,7,15] _ rfl jI jI St.drawn (fun _ h=>h) ?_
  iterate 2 refine X_slice_arr rfl rfl rfl F.arr36 rfl ?_
  refine X_fo rfl rfl F.ok154 rfl (bcmp_ok _ _ _ a b) jA (ZT rfl) ?_
  rintro _ M1 _ ⟨hM1,rfl⟩;subst M1
  iterate 5 refine Stp ?_
  refine ZV (.inr rfl) (.tmp rfl .nil) (fun w hw=>?_)
  refine ⟨_,rfl,(hw.c),?_⟩
  clear hw
  exact congrArg Value.bool (decide_eq_decide.2 cmpP_neg)
theorem Plus_ok (M:Mem) (a:Plc) (b:Plc):Fs Tryz.prog 148 [aggV [Yb a],aggV [Yb b]] M (fun v=>v= (aggV [Yb (a+b)])):=by
  refine Xe Tryz.func148 rfl Tryz.ntmps148 rfl ?_;intro H
  iterate 2 refine Stp ?_
  refine Xq ?_;intro b1
  refine Xq ?_;intro b2
  refine Yz F.zero36 ?_;intro b3
  iterate 4 refine Stp ?_
  refine Yz F.zero36 ?_;intro b4
  iterate 14 refine Stp ?_
  refine Y_pk [6,7,5,4,3,2] ?_;refine Wt (Hin:=[(b4,rowO [Yb 0] 36)]) (.succ (.succ .zero)) jA (fun (j:Nat) M1 h1 z=>M1=M∧z=[(6,.int .u64 ((TO a b (20-j):Nat):Int)),(7,.int .i64 ((j:Int)-1))]∧j≤20∧h1=[(b4,rowO [.arr 20 (SB (a+b) (20-j))] 36)]) (fun j=>j) (20) (⟨rfl,by simp only [Nat.sub_self];rw [carryK_zero];rfl,by omega,by simp only [Nat.sub_self];rw [lastV_none'];rfl⟩) ?_
  rintro j M1 h1 z hm1 ⟨hM1,rfl,hk,rfl⟩
  subst hM1
  rcases j with _|m
  ·rw [show (((0:Nat):Int)-1)=-1 from rfl,show SB (a+b) (20-0)=idV (a+b) from lastV_all _]
   iterate 7 refine Stp ?_
   refine ZW rfl (cT fun hc5=>?_) (cF fun hc5=>?_)
   ·(exfalso;omega)
   ·iterate 7 refine Stp ?_
    refine Zy F.lay36 ?_;refine Ya F.lay36 ?_
    iterate 3 refine Stp ?_
    refine ZV (.inr rfl) (.cell rfl jB F.lay36 rfl rfl .nil) (fun w hw=>?_)
    refine ⟨_,rfl,(hw.c),?_⟩
    clear hw
    rfl
  ·rw [show (((m+1:Nat):Int)-1)=(m:Int) by omega]
   have ha:=TZ a m
   have hb:=TZ b m
   have hc:=carryK_le a b (20-(m+1))
   have hs:=sum_at a b (m:=m) jC
   iterate 7 refine Stp ?_
   refine ZW rfl (cT fun hc6=>?_) (cF fun hc6=>?_)
   ·iterate 5 refine Stp ?_
    refine Yg (l:=[0,1,2,3,4,5,6,7,8,9,10,11]) #[0,0,2,6,14,0,32,96,224,510,1023,2047] _ rfl jI jI St.drawn (fun _ h=>h) ?_
    iterate 2 refine Stp ?_
    refine XC rfl rfl rfl rfl F.arr36 jR jC rfl ?_;refine WQ rfl rfl rfl jB F.lay5 (by exact id_at jC) rfl ?_;refine Wz rfl rfl rfl Tryz.underlying5 Tryz.underlying136 yE rfl ?_;refine Yk ?_;refine XC rfl rfl rfl rfl F.arr36 jR jC rfl ?_;refine WQ rfl rfl rfl jB F.lay5 (by exact id_at jC) rfl ?_;refine Wz rfl rfl rfl Tryz.underlying5 Tryz.underlying136 yE rfl ?_
    iterate 2 refine YO rfl rfl rfl rfl rfl yE rfl ?_
    iterate 7 refine Stp ?_
    refine Wz rfl rfl rfl Tryz.underlying136 Tryz.underlying5 (by exact wrap_u8 _) rfl ?_;refine XC rfl rfl rfl rfl F.arr36 jR jC rfl ?_;refine X_store_cell rfl rfl rfl rfl rfl rfl jH F.lay5 (arr_len jC) (arr_set jC) ?_
    rw [lastV_put (a+b) (m:=m) jC (by exact hs.1)]
    iterate 4 refine Stp ?_
    refine Vt rfl rfl rfl rfl jJ (VY 8 jJ) rfl rfl ?_
    iterate 6 refine Stp ?_
    refine YO rfl rfl rfl rfl rfl yA rfl ?_
    iterate 2 refine Stp ?_
    refine Xa (a':=[(6,_),(7,_)]) (m) ([(b4,rowO [.arr 20 (SB (a+b) (20-m))] 36)]) (.cons (k:=6) rfl (.cons (k:=7) rfl (.cons (k:=5) rfl (.cons (k:=4) rfl (.cons (k:=3) rfl (.cons (k:=2) rfl (.nil))))))) jP (fun w hw=>by first|exact hw|exact hw.c) ?_ ?_
    ·refine ⟨rfl,?_,by omega,rfl⟩
     exact congrArg (fun v=>[(6,Value.int .u64 v),(7,Value.int .i64 ((m:Int)-1))]) (by simpa using hs.2)
    ·omega
   ·(exfalso;omega)
theorem F.bld38:Bld Tryz.prog 38 [[.one (.int .i64 0)],[Yb 0]]:=by rw [TM];exact ⟨by kernel_rfl,by kernel_rfl⟩
theorem F.guard36:Tryz.prog.eqGuardType Tryz.prog.depth 36=false:=by kernel_rfl
theorem F.kinds36:Uk Tryz.prog 20 36=some [.i .u8,.i .u8,.i .u8,.i .u8,.i .u8,.i .u8,.i .u8,.i .u8,.i .u8,.i .u8,.i .u8,.i .u8,.i .u8,.i .u8,.i .u8,.i .u8,.i .u8,.i .u8,.i .u8,.i .u8]:=by kernel_rfl
theorem F.lay38:lay Tryz.prog 38=some (true,21):=by kernel_rfl
theorem F.ok101:okFn Tryz.prog 101=true:=by kernel_rfl
theorem F.ok95:okFn Tryz.prog 95=true:=by kernel_rfl
theorem F.zero38:XW Tryz.prog 38=some (aggV [.one (.int .i64 0),Yb 0]):=by rw [TM];kernel_rfl
theorem Power_ok_in (M:Mem) (n:Nat) (h:n<160):Fs Tryz.prog 147 [.int .i64 (n:Int)] M (fun v=>v=.tuple #[aggV [Yb (powP n)],.int .i64 0]):=by
  have h8:((n:Nat):Int) % 8=((n % 8:Nat):Int):=(Int.natCast_emod _ _).symm
  have h9:(19:Int)-((n:Nat):Int) / 8=((19-n / 8:Nat):Int):=by omega
  refine Xe Tryz.func147 rfl Tryz.ntmps147 rfl ?_;intro H
  iterate 2 refine Stp ?_
  refine Yz F.zero36 ?_;intro b1
  iterate 5 refine Stp ?_
  refine Yz F.zero36 ?_;intro b2
  iterate 8 refine Stp ?_
  refine Yt 7 rfl (cT fun hc3=>?_) (cF fun hc3=>?_)
  ·(exfalso;omega)
  ·iterate 5 refine Stp ?_
   refine ZW rfl (cT fun hc4=>?_) (cF fun hc4=>?_)
   ·(exfalso;omega)
   ·iterate 5 refine Stp ?_
    refine X_quo rfl rfl rfl rfl jJ yU rfl ?_;refine YO rfl rfl rfl rfl rfl yA rfl ?_
    rw [h9]
    refine Yk ?_;refine X_rem rfl rfl rfl rfl jJ yR rfl ?_
    rw [h8]
    refine Vt rfl rfl rfl rfl jC rfl rfl rfl ?_;refine XC rfl rfl rfl rfl F.arr36 jR jC rfl ?_
    have hl8:n / 8≤19:=by omega
    refine X_store_cell rfl rfl rfl rfl rfl rfl jH F.lay5 (arr_len jC) (arr_set jC) ?_
    rw [powV0 (k:=n) h rfl shl_one jC]
    iterate 4 refine Stp ?_
    refine Zy F.lay36 ?_;refine Ya F.lay36 ?_
    iterate 4 refine Stp ?_
    refine ZV (.inr rfl) (.cell rfl jB F.lay36 rfl rfl (.tmp rfl .nil)) (fun w hw=>?_)
    refine ⟨_,rfl,(hw.c),?_⟩
    clear hw
    rfl
theorem Open_ok (M:Mem) (a:Plc) (x:Plc) (b:Plc):Fs Tryz.prog 101 [aggV [Yb a],aggV [Yb x],aggV [Yb b]] M (fun v=>v=Value.bool (decide (Tj a x b))):=by
  refine Xe Tryz.func101 rfl Tryz.ntmps101 rfl ?_;intro H
  iterate 2 refine Stp ?_
  refine Xq ?_;intro b1
  refine Xq ?_;intro b2
  refine Xq ?_;intro b3
  iterate 7 refine Stp ?_
  iterate 2 refine Zy F.lay36 ?_
  refine VE (m:=20) rfl rfl rfl rfl rfl jG jG F.lay36 F.kinds36 rfl F.guard36 (TD UZ) (TD UZ) rfl rfl rfl ?_;intro c4 he5
  replace he5:c4=true↔Segs.cells _=Segs.cells _:=he5
  obtain rfl:=eqD he5 (cells_id1 (x:=_) (y:=_));clear he5
  iterate 3 refine Stp ?_
  refine ZW rfl (cT fun hc6=>?_) (cF fun hc6=>?_)
  ·iterate 2 refine Stp ?_
   iterate 2 refine Zy F.lay36 ?_
   refine VE (m:=20) rfl rfl rfl rfl rfl jG jG F.lay36 F.kinds36 rfl F.guard36 (TD UZ) (TD UZ) rfl rfl rfl ?_;intro c7 he8
   replace he8:c7=true↔¬(Segs.cells _=Segs.cells _):=he8
   obtain rfl:=neD he8 (cells_id1 (x:=_) (y:=_));clear he8
   iterate 6 refine Stp ?_
   refine ZV (.inr rfl) (.tmp rfl .nil) (fun w hw=>?_)
   refine ⟨_,rfl,(hw.c),?_⟩
   clear hw
   refine congrArg Value.bool ?_
   simp_all [open_arms]
  ·iterate 2 refine Stp ?_
   iterate 2 refine Zy F.lay36 ?_
   refine X_fs rfl rfl F.ok95 rfl (Less_ok _ _ _) rfl ?_
   rintro _ rfl
   iterate 3 refine Stp ?_
   refine ZW rfl (cT fun hc9=>?_) (cF fun hc9=>?_)
   ·iterate 2 refine Stp ?_
    iterate 2 refine Zy F.lay36 ?_
    refine X_fs rfl rfl F.ok95 rfl (Less_ok _ _ _) rfl ?_
    rintro _ rfl
    refine Yk ?_
    refine Yt 21 rfl (cT fun hc10=>?_) (cF fun hc10=>?_)
    ·iterate 2 refine Zy F.lay36 ?_
     refine X_fs rfl rfl F.ok95 rfl (Less_ok _ _ _) rfl ?_
     rintro _ rfl
     iterate 7 refine Stp ?_
     refine ZV (.inr rfl) (.tmp rfl .nil) (fun w hw=>?_)
     refine ⟨_,rfl,(hw.c),?_⟩
     clear hw
     refine congrArg Value.bool ?_
     simp_all [open_arms]
    ·iterate 10 refine Stp ?_
     refine ZV (.inr rfl) (.tmp rfl .nil) (fun w hw=>?_)
     refine ⟨_,rfl,(hw.c),?_⟩
     clear hw
     refine congrArg Value.bool ?_
     simp_all [open_arms]
   ·iterate 5 refine Stp ?_
    iterate 2 refine Zy F.lay36 ?_
    refine X_fs rfl rfl F.ok95 rfl (Less_ok _ _ _) rfl ?_
    rintro _ rfl
    refine Yk ?_
    refine Yt 29 rfl (cT fun hc11=>?_) (cF fun hc11=>?_)
    ·iterate 8 refine Stp ?_
     refine ZV (.inr rfl) (.tmp rfl .nil) (fun w hw=>?_)
     refine ⟨_,rfl,(hw.c),?_⟩
     clear hw
     refine congrArg Value.bool ?_
     simp_all [open_arms]
    ·iterate 2 refine Zy F.lay36 ?_
     refine X_fs rfl rfl F.ok95 rfl (Less_ok _ _ _) rfl ?_
     rintro _ rfl
     iterate 5 refine Stp ?_
     refine ZV (.inr rfl) (.tmp rfl .nil) (fun w hw=>?_)
     refine ⟨_,rfl,(hw.c),?_⟩
     clear hw
     refine congrArg Value.bool ?_
     simp_all [open_arms]
theorem Half_ok (M:Mem) (a:Plc) (x:Plc) (b:Plc):Fs Tryz.prog 100 [aggV [Yb a],aggV [Yb x],aggV [Yb b]] M (fun v=>v=Value.bool (decide (HalfP a x b))):=by
  refine Xe Tryz.func100 rfl Tryz.ntmps100 rfl ?_;intro H
  iterate 2 refine Stp ?_
  refine Xq ?_;intro b1
  refine Xq ?_;intro b2
  refine Xq ?_;intro b3
  iterate 5 refine Stp ?_
  iterate 2 refine Zy F.lay36 ?_
  refine VE (m:=20) rfl rfl rfl rfl rfl jG jG F.lay36 F.kinds36 rfl F.guard36 (TD UZ) (TD UZ) rfl rfl rfl ?_;intro c4 he5
  replace he5:c4=true↔Segs.cells _=Segs.cells _:=he5
  obtain rfl:=eqD he5 (cells_id1 (x:=_) (y:=_));clear he5
  refine Yk ?_
  refine Yt 10 rfl (cT fun hc6=>?_) (cF fun hc6=>?_)
  ·iterate 9 refine Stp ?_
   refine ZV (.inr rfl) (.tmp rfl .nil) (fun w hw=>?_)
   refine ⟨_,rfl,(hw.c),?_⟩
   clear hw
   refine congrArg Value.bool ?_
   simp_all [HalfP]
  ·iterate 3 refine Zy F.lay36 ?_
   refine X_fs rfl rfl F.ok101 rfl (Open_ok _ _ _ _) rfl ?_
   rintro _ rfl
   iterate 5 refine Stp ?_
   refine ZV (.inr rfl) (.tmp rfl .nil) (fun w hw=>?_)
   refine ⟨_,rfl,(hw.c),?_⟩
   clear hw
   refine congrArg Value.bool ?_
   simp_all [HalfP]
theorem Vp (M:Mem):Fs Tryz.prog 78 [] M (fun v=>v= (YD.enc)):=by
  refine Xe Tryz.func78 rfl Tryz.ntmps78 rfl ?_;intro H
  iterate 2 refine Stp ?_
  refine Yz F.zero38 ?_;intro b1
  iterate 4 refine Stp ?_
  refine Xo rfl rfl F.bld38 (.cons rfl jG .nil) rfl rfl ?_;refine Ya F.lay38 ?_
  iterate 3 refine Stp ?_
  refine ZV (.inr rfl) (.cell rfl jB F.lay38 rfl rfl .nil) (fun w hw=>?_)
  refine ⟨_,rfl,(hw.c),?_⟩
  clear hw
  rfl
theorem F.elem39:slOf Tryz.prog 39=some (38,21,32):=by kernel_rfl
theorem F.foff38_0:foff Tryz.prog 38 0=some 0:=by kernel_rfl
theorem F.foff38_1:foff Tryz.prog 38 1=some 1:=by kernel_rfl
theorem F.foff41_0:foff Tryz.prog 41 0=some 0:=by kernel_rfl
theorem F.lay3:lay Tryz.prog 3=some (false,1):=by kernel_rfl
theorem F.ok136:okFn Tryz.prog 136=true:=by kernel_rfl
theorem F.ok80:okFn Tryz.prog 80=true:=by kernel_rfl
theorem F.ok81:okFn Tryz.prog 81=true:=by kernel_rfl
theorem F.ok84:okFn Tryz.prog 84=true:=by kernel_rfl
theorem is_ok (M:Mem) (a:Int):Fs Tryz.prog 80 [.int .i64 a] M (fun v=>v=Value.bool (decide (Yo a))):=by
  refine Xe Tryz.func80 rfl Tryz.ntmps80 rfl ?_;intro H
  iterate 10 refine Stp ?_
  refine Yt 5 rfl (cT fun hc1=>?_) (cF fun hc1=>?_)
  ·iterate 7 refine Stp ?_
   refine ZV (.inr rfl) (.tmp rfl .nil) (fun w hw=>?_)
   refine ⟨_,rfl,(hw.c),?_⟩
   clear hw
   refine congrArg Value.bool (a₁:=_) ?_
   grind [w64,Yo]
  ·iterate 7 refine Stp ?_
   refine ZV (.inr rfl) (.tmp rfl .nil) (fun w hw=>?_)
   refine ⟨_,rfl,(hw.c),?_⟩
   clear hw
   refine congrArg Value.bool (a₁:=_) ?_
   grind [w64,Yo]
theorem other_ok (M:Mem) (t:ZO) (p:Zs):Fs Tryz.prog 79 [t.enc,p.enc] M (fun v=>v=Value.bool (decide (Xn t.self p))):=by
  obtain ⟨⟨Ye,Yn⟩,⟨Yp,YC⟩,⟨Yx,Yw,Yc⟩,⟨Yi,Yh,ZI⟩⟩:=t
  obtain ⟨YI,p_id⟩:=p
  refine Xe Tryz.func79 rfl Tryz.ntmps79 rfl ?_;intro H
  iterate 2 refine Stp ?_
  refine Xq ?_;intro b1
  refine Xq ?_;intro b2
  iterate 5 refine Stp ?_
  refine Zi F.foff38_0 ?_;refine Zy F.lay3 ?_;refine X_fs rfl rfl F.ok80 rfl (is_ok _ _) rfl ?_
  rintro _ rfl
  refine Yk ?_
  refine Yt 8 rfl (cT fun hc3=>?_) (cF fun hc3=>?_)
  ·refine Zi F.foff38_0 ?_
   refine Zy F.lay3 ?_;refine Zi F.foff41_0 ?_;refine Zi F.foff38_0 ?_;refine Zy F.lay3 ?_
   iterate 3 refine Stp ?_
   refine Yt 16 rfl (eT fun hc4=>?_) (eF fun hc4=>?_)
   ·refine Zi F.foff38_1 ?_
    refine Zy F.lay36 ?_;refine Zi F.foff41_0 ?_;refine Zi F.foff38_1 ?_;refine Zy F.lay36 ?_
    refine VE (m:=20) rfl rfl rfl rfl rfl jG jG F.lay36 F.kinds36 rfl F.guard36 (TD UZ) (TD UZ) rfl rfl rfl ?_;intro c5 he6
    replace he6:c5=true↔¬(Segs.cells _=Segs.cells _):=he6
    obtain rfl:=neD he6 (cells_id1 (x:=_) (y:=_));clear he6
    iterate 5 refine Stp ?_
    refine ZV (.inr rfl) (.tmp rfl .nil) (fun w hw=>?_)
    refine ⟨_,rfl,(hw.c),?_⟩
    clear hw
    refine congrArg Value.bool (a₁:=_) ?_
    grind [w64,Xn]
   ·iterate 11 refine Stp ?_
    refine ZV (.inr rfl) (.tmp rfl .nil) (fun w hw=>?_)
    refine ⟨_,rfl,(hw.c),?_⟩
    clear hw
    refine congrArg Value.bool (a₁:=_) ?_
    grind [w64,Xn]
  ·iterate 19 refine Stp ?_
   refine ZV (.inr rfl) (.tmp rfl .nil) (fun w hw=>?_)
   refine ⟨_,rfl,(hw.c),?_⟩
   clear hw
   refine congrArg Value.bool (a₁:=_) ?_
   grind [w64,Xn]
theorem IndexFP_rd (M:Mem) (Hin:Hp) (l:Sl Zs) (g:FuncId) (caps:List Value) (p:Zs→Bool) (hl:RdS M Hin l.a (l.l.map Zs.segs) 21) (bl:l.l.length≤9223372036854775807) (hok:okFn Tryz.prog g=true) (hc:∀ x∈l.l,Fo Tryz.prog g ([x.enc]++caps) M Hin (fun M' v=>M'=M∧v=.bool (p x))):Fo Tryz.prog 136 [l.val,.func (.func g) #[] caps.toArray] M Hin (fun M' v=>M'=M∧v=.int .i64 (idxF p l.l)):=by
  have nl:(l.l.map Zs.segs).length=l.l.length:=List.length_map ..
  refine Vu Tryz.func136 rfl Tryz.ntmps136 rfl ?_;intro H
  have hrd:=hl.app H
  iterate 9 refine Stp ?_
  refine YA F.elem39 ?_
  iterate 4 refine Stp ?_
  refine Y_pk [8,7,4,0,1] ?_;refine VI (.succ .zero) (fun (k:Nat) z=>z=[(8,.int .i64 (k:Int))]∧k≤l.l.length∧(∀ j (h:j<k) (h2:j<l.l.length),p l.l[j]=false)) (fun k=>l.l.length-k) (0) (⟨rfl,by omega,by (intro j hj;omega)⟩) ?_
  rintro k _ ⟨rfl,hk,hI⟩
  iterate 6 refine Stp ?_
  refine ZW rfl (fun hc1=>?_) (fun hc1=>?_)
  ·skip
   replace hc1:=dT hc1
   iterate 15 refine Stp ?_
   refine Ys rfl rfl rfl rfl F.elem39 jR jC yT rfl ?_;refine X_load_rd rfl rfl rfl jE yC F.lay38 rfl rfl rfl ?_;refine X_foV rfl rfl rfl hok rfl rfl (hc _ (List.getElem_mem (n:=k) jC)) (Rem.here _) (ZT rfl) ?_
   rintro _ M1 _ ⟨hM1,rfl⟩;subst M1
   iterate 2 refine Stp ?_
   refine ZW rfl (fun hc2=>?_) (fun hc2=>?_)
   ·skip
    have hP:=hc2
    iterate 12 refine Stp ?_
    refine ZV (.inr rfl) (.tmp rfl .nil) (fun w hw=>?_)
    refine ⟨_,M,rfl,Mem.le.refl M,hw.c,rfl,?_⟩
    refine congrArg (Value.int .i64) ?_
    exact (idxF_at jC (fun j hj=>hI j hj _) hP).symm
   ·skip
    have hP:=hc2
    iterate 4 refine Stp ?_
    refine YO rfl rfl rfl rfl rfl yA rfl ?_
    iterate 2 refine Stp ?_
    refine Vq (a':=[(8,_)]) (k+1) (.cons (k:=8) rfl (.cons (k:=7) rfl (.cons (k:=4) rfl (.cons (k:=0) rfl (.cons (k:=1) rfl (.nil)))))) (fun w hw=>by first|exact hw|exact hw.c) ?_ ?_
    ·refine ⟨rfl,by omega,?_⟩
     (intro j hj hj2;rcases Nat.lt_or_ge j k with h9|h9;exact hI j h9 hj2;obtain rfl:j=k:=jC;simp_all)
    ·omega
  ·skip
   replace hc1:=dF hc1
   iterate 11 refine Stp ?_
   refine ZV (.inr rfl) (.tmp rfl .nil) (fun w hw=>?_)
   refine ⟨_,M,rfl,Mem.le.refl M,hw.c,rfl,?_⟩
   refine congrArg (Value.int .i64) ?_
   exact (idxF_none (fun j hj=>hI j jC hj)).symm
theorem ContainsFP_rd (M:Mem) (Hin:Hp) (l:Sl Zs) (g:FuncId) (caps:List Value) (p:Zs→Bool) (hl:RdS M Hin l.a (l.l.map Zs.segs) 21) (bl:l.l.length≤9223372036854775807) (hok:okFn Tryz.prog g=true) (hc:∀ x∈l.l,Fo Tryz.prog g ([x.enc]++caps) M Hin (fun M' v=>M'=M∧v=.bool (p x))):Fo Tryz.prog 81 [l.val,.func (.func g) #[] caps.toArray] M Hin (fun M' v=>M'=M∧v=.bool (l.l.any p)):=by
  refine Vu Tryz.func81 rfl Tryz.ntmps81 rfl ?_;intro H
  iterate 9 refine Stp ?_
  refine X_fo rfl rfl F.ok136 rfl (IndexFP_rd _ Hin ⟨_,_,_⟩ g caps p hl bl hok hc) jA (ZT rfl) ?_
  rintro _ M1 _ ⟨hM1,rfl⟩;subst M1
  iterate 5 refine Stp ?_
  refine ZV (.inr rfl) (.tmp rfl .nil) (fun w hw=>?_)
  exact ⟨_,M,rfl,Mem.le.refl M,hw.c,rfl,congrArg Value.bool idxF_nn⟩
theorem has1_ok (M:Mem) (b:Nat) (a:Int) (p:Zs):Fo Tryz.prog 84 ([p.enc]++[.pointer (some ⟨b,0,none⟩)]) M [(b,rowO [.one (.int .i64 a)] 3)] (fun M' v=>M'=M∧v=.bool (decide (p.addr=a))):=by
  obtain ⟨YI,p_id⟩:=p
  refine Vu Tryz.func84 rfl Tryz.ntmps84 rfl ?_;intro H
  iterate 2 refine Stp ?_
  refine Xq ?_;intro b1
  iterate 5 refine Stp ?_
  refine Zi F.foff38_0 ?_
  iterate 2 refine Zy F.lay3 ?_
  iterate 5 refine Stp ?_
  refine ZV (.inr rfl) (.tmp rfl .nil) (fun w hw=>?_)
  refine ⟨_,M,rfl,Mem.le.refl M,hw.c,rfl,?_⟩
  clear hw
  rfl
theorem has_rd (M:Mem) (Hin:Hp) (l:Sl Zs) (a:Int) (hl:RdS M Hin l.a (l.l.map Zs.segs) 21) (bl:l.l.length≤9223372036854775807):Fo Tryz.prog 45 [l.val,.int .i64 a] M Hin (fun M' v=>M'=M∧v=.bool (decide (hasA l.l a))):=by
  refine Vu Tryz.func45 rfl Tryz.ntmps45 rfl ?_;intro H
  iterate 2 refine Stp ?_
  refine Xq ?_;intro b1
  iterate 6 refine Stp ?_
  refine VL rfl rfl rfl rfl rfl ?_;refine X_fo rfl rfl F.ok81 rfl (ContainsFP_rd _ ((b1,_)::Hin) l 84 [_] (fun p=>decide (p.addr=a)) (hl.cnt (by intro zz;first|exact Nat.le_refl _|(simp only [WI,WC,WS,cat,List.append_eq,List.append_assoc,List.cons_append,List.nil_append,List.append_nil];omega)|(simp only [WI,WC,WS,cat,List.append_eq,List.append_assoc,List.cons_append,List.nil_append,List.append_nil,Zs.segs,ZO.segs,ZJ.segs,ZF.segs,Ym.segs,Yv.segs,Yy.segs,Yq.segs,ZN.segs,YF.segs,ZU.segs];omega))) bl F.ok84 (fun x hx=>(has1_ok M b1 a x).frame Hin)) jA (ZT rfl) ?_
  rintro _ M1 _ ⟨hM1,rfl⟩;subst M1
  iterate 4 refine Stp ?_
  refine ZV (.inr rfl) (.tmp rfl .nil) (fun w hw=>?_)
  refine ⟨_,M,rfl,Mem.le.refl M,hw.c,rfl,?_⟩
  clear hw
  exact congrArg Value.bool any_has
theorem has_ok (M:Mem) (l:Sl Zs) (a:Int) (hl:SlK M Zs.segs 21 l):Fs Tryz.prog 45 [l.val,.int .i64 a] M (fun v=>v=.bool (decide (hasA l.l a))) :=
  fs_of_fo (has_rd M [] l a (hl.h1.rd []) hl.h2)
theorem F.fld38_1:fld Tryz.prog 38 1=some (1,36):=by kernel_rfl
theorem F.foff41_2:foff Tryz.prog 41 2=some 42:=by kernel_rfl
theorem F.lay39:lay Tryz.prog 39=some (false,1):=by kernel_rfl
theorem F.lay41:lay Tryz.prog 41=some (true,44):=by kernel_rfl
theorem F.ok79:okFn Tryz.prog 79=true:=by kernel_rfl
theorem F.ok99:okFn Tryz.prog 99=true:=by kernel_rfl
theorem First_nil (M:Mem) (t:ZO) (ht0:ZO.ok M t) (h:t.succ.l=[]):Fs Tryz.prog 99 [t.enc] M (fun v=>v= ((Xy t.tb).enc)):=by
  obtain ⟨⟨Ye,Yn⟩,⟨Yp,YC⟩,⟨Yx,Yw,Yc⟩,⟨Yi,Yh,ZI⟩⟩:=t
  have Xc:SlK M Zs.segs 21 ⟨Yx,Yw,Yc⟩:=ht0.h0
  have s_t_succ:SlM M Yx (Yc.map Zs.segs) 21:=Xc.h1
  have n_t_succ:(Yc.map Zs.segs).length=Yc.length:=List.length_map ..
  have m_t_succ:Yc.length≤9223372036854775807:=Xc.h2
  have c_t_succ:Yc.length≤Yw:=Xc.h3
  have YG:SlK M Zs.segs 21 ⟨Yi,Yh,ZI⟩:=ht0.h1
  have Vz:SlM M Yi (ZI.map Zs.segs) 21:=YG.h1
  have n_t_fingers:(ZI.map Zs.segs).length=ZI.length:=List.length_map ..
  have VC:ZI.length≤9223372036854775807:=YG.h2
  have c_t_fingers:ZI.length≤Yh:=YG.h3
  simp only at h
  subst h
  refine Xe Tryz.func99 rfl Tryz.ntmps99 rfl ?_;intro H
  iterate 2 refine Stp ?_
  refine Xq ?_;intro b1
  refine Yz F.zero38 ?_;intro b2
  iterate 5 refine Stp ?_
  refine Zi F.foff41_2 ?_;refine Zy F.lay39 ?_;refine YA F.elem39 ?_
  iterate 4 refine Stp ?_
  refine Y_pk [8,7,6,2,1] ?_;refine VI (.zero) (fun (k:Nat) z=>z=[]∧k=0) (fun k=>1) (0) (⟨rfl,rfl⟩) ?_
  rintro k _ ⟨rfl,rfl⟩
  iterate 6 refine Stp ?_
  refine ZW rfl (cT fun hc3=>?_) (cF fun hc3=>?_)
  ·(exfalso;simp [eqX] at hc3;done)
  ·iterate 7 refine Stp ?_
   refine Zi F.foff41_0 ?_;refine Zy F.lay38 ?_;refine Ya F.lay38 ?_
   iterate 3 refine Stp ?_
   refine ZV (.inr rfl) (.cell rfl jB F.lay38 rfl rfl .nil) (fun w hw=>?_)
   refine ⟨_,rfl,(hw.c),?_⟩
   clear hw
   rfl
theorem First_cons (M:Mem) (t:ZO) (ht0:ZO.ok M t) (p:Zs) (r:List Zs) (h:t.succ.l=p::r):Fs Tryz.prog 99 [t.enc] M (fun v=>v= ((Xy t.tb).enc)):=by
  obtain ⟨⟨Ye,Yn⟩,⟨Yp,YC⟩,⟨Yx,Yw,Yc⟩,⟨Yi,Yh,ZI⟩⟩:=t
  have Xc:SlK M Zs.segs 21 ⟨Yx,Yw,Yc⟩:=ht0.h0
  have s_t_succ:SlM M Yx (Yc.map Zs.segs) 21:=Xc.h1
  have n_t_succ:(Yc.map Zs.segs).length=Yc.length:=List.length_map ..
  have m_t_succ:Yc.length≤9223372036854775807:=Xc.h2
  have c_t_succ:Yc.length≤Yw:=Xc.h3
  have YG:SlK M Zs.segs 21 ⟨Yi,Yh,ZI⟩:=ht0.h1
  have Vz:SlM M Yi (ZI.map Zs.segs) 21:=YG.h1
  have n_t_fingers:(ZI.map Zs.segs).length=ZI.length:=List.length_map ..
  have VC:ZI.length≤9223372036854775807:=YG.h2
  have c_t_fingers:ZI.length≤Yh:=YG.h3
  obtain ⟨p0,i0⟩:=p
  simp only at h
  subst h
  refine Xe Tryz.func99 rfl Tryz.ntmps99 rfl ?_;intro H
  iterate 2 refine Stp ?_
  refine Xq ?_;intro b1
  refine Yz F.zero38 ?_;intro b2
  iterate 5 refine Stp ?_
  refine Zi F.foff41_2 ?_;refine Zy F.lay39 ?_;refine YA F.elem39 ?_
  iterate 4 refine Stp ?_
  refine Y_pk [8,7,6,2,1] ?_;refine VI (.zero) (fun (k:Nat) z=>z=[]∧k=0) (fun k=>1) (0) (⟨rfl,rfl⟩) ?_
  rintro k _ ⟨rfl,rfl⟩
  iterate 6 refine Stp ?_
  refine ZW rfl (cT fun hc3=>?_) (cF fun hc3=>?_)
  ·iterate 6 refine Stp ?_
   refine Ys rfl rfl rfl rfl F.elem39 jR zK (by exact SlM.plain jE zK) rfl ?_;refine Xm rfl rfl rfl jE (by exact rfl) F.lay38 rfl rfl rfl ?_
   refine Yz F.zero38 ?_;intro b4
   refine Ya F.lay38 ?_
   iterate 4 refine Stp ?_
   refine Zy F.lay38 ?_;refine Ya F.lay38 ?_
   iterate 8 refine Stp ?_
   refine ZV (.inr rfl) (.cell rfl jB F.lay38 rfl rfl .nil) (fun w hw=>?_)
   refine ⟨_,rfl,(hw.c),?_⟩
   clear hw
   rfl
  ·(exfalso;simp [eqX] at hc3;done)
theorem First_ok (M:Mem) (t:ZO) (ht0:ZO.ok M t):Fs Tryz.prog 99 [t.enc] M (fun v=>v=(Xy t.tb).enc):=by
  rcases hs:t.succ.l with _|⟨p,r⟩
  ·exact First_nil M t ht0 hs
  ·exact First_cons M t ht0 p r hs
theorem Closer_ok (M:Mem) (t:ZO) (p:Zs) (ht0:ZO.ok M t):Fs Tryz.prog 174 [t.enc,p.enc] M (fun v=>v=Value.bool (decide (Ta t.tb p))):=by
  obtain ⟨⟨Ye,Yn⟩,⟨Yp,YC⟩,⟨Yx,Yw,Yc⟩,⟨Yi,Yh,ZI⟩⟩:=t
  obtain ⟨YI,p_id⟩:=p
  have Xc:SlK M Zs.segs 21 ⟨Yx,Yw,Yc⟩:=ht0.h0
  have s_t_succ:SlM M Yx (Yc.map Zs.segs) 21:=Xc.h1
  have n_t_succ:(Yc.map Zs.segs).length=Yc.length:=List.length_map ..
  have m_t_succ:Yc.length≤9223372036854775807:=Xc.h2
  have c_t_succ:Yc.length≤Yw:=Xc.h3
  have YG:SlK M Zs.segs 21 ⟨Yi,Yh,ZI⟩:=ht0.h1
  have Vz:SlM M Yi (ZI.map Zs.segs) 21:=YG.h1
  have n_t_fingers:(ZI.map Zs.segs).length=ZI.length:=List.length_map ..
  have VC:ZI.length≤9223372036854775807:=YG.h2
  have c_t_fingers:ZI.length≤Yh:=YG.h3
  refine Xe Tryz.func174 rfl Tryz.ntmps174 rfl ?_;intro H
  iterate 2 refine Stp ?_
  refine Xq ?_;intro b1
  refine Xq ?_;intro b2
  iterate 4 refine Stp ?_
  refine Yg (l:=[0,1,2,3,4,5,6,7,8,9,10,11,12,13,14]) #[0,0,3,7,15,31,63,15,143,15,527,1551,4095,8191,16383] _ rfl jI jI St.drawn (fun _ h=>h) ?_;refine Zy F.lay41 ?_;refine Zy F.lay38 ?_;refine X_fs rfl rfl F.ok79 rfl (other_ok _ ⟨⟨_,_⟩,⟨_,_⟩,⟨_,_,_⟩,⟨_,_,_⟩⟩ ⟨_,_⟩) rfl ?_
  rintro _ rfl
  refine Yk ?_
  refine Yt 8 rfl (cT fun hc3=>?_) (cF fun hc3=>?_)
  ·simp only [Zs.eta,ZO.eta,ZJ.eta,ZF.eta,Ym.eta,Yv.eta,Yy.eta,Yq.eta,ZN.eta,YF.eta,ZU.eta] at hc3
   refine Zi F.foff41_0 ?_;refine Zi F.foff38_1 ?_;refine Zy F.lay36 ?_;refine Zi F.foff38_1 ?_;refine Zy F.lay36 ?_;refine Zy F.lay41 ?_;refine X_fs rfl rfl F.ok99 rfl (First_ok _ ⟨⟨_,_⟩,⟨_,_⟩,⟨_,_,_⟩,⟨_,_,_⟩⟩ jE) rfl ?_
   rintro _ rfl
   refine Y_field F.fld38_1 F.lay36 ?_;refine X_fs rfl rfl F.ok101 rfl (Open_ok _ _ _ _) rfl ?_
   rintro _ rfl
   iterate 5 refine Stp ?_
   refine ZV (.inr rfl) (.tmp rfl .nil) (fun w hw=>?_)
   refine ⟨_,rfl,(hw.c),?_⟩
   clear hw
   refine congrArg Value.bool ?_
   (simp_all [Ta,ZO.tb];rfl)
  ·simp only [Zs.eta,ZO.eta,ZJ.eta,ZF.eta,Ym.eta,Yv.eta,Yy.eta,Yq.eta,ZN.eta,YF.eta,ZU.eta] at hc3
   iterate 14 refine Stp ?_
   refine ZV (.inr rfl) (.tmp rfl .nil) (fun w hw=>?_)
   refine ⟨_,rfl,(hw.c),?_⟩
   clear hw
   refine congrArg Value.bool ?_
   (simp_all [Ta,ZO.tb];done)
theorem F.foff41_1:foff Tryz.prog 41 1=some 21:=by kernel_rfl
theorem F.foff41_3:foff Tryz.prog 41 3=some 43:=by kernel_rfl
theorem F.guard38:Tryz.prog.eqGuardType Tryz.prog.depth 38=false:=by kernel_rfl
theorem F.kinds38:Uk Tryz.prog 20 38=some [.i .i64,.i .u8,.i .u8,.i .u8,.i .u8,.i .u8,.i .u8,.i .u8,.i .u8,.i .u8,.i .u8,.i .u8,.i .u8,.i .u8,.i .u8,.i .u8,.i .u8,.i .u8,.i .u8,.i .u8,.i .u8]:=by kernel_rfl
theorem F.ok45:okFn Tryz.prog 45=true:=by kernel_rfl
theorem F.ok77:okFn Tryz.prog 77=true:=by kernel_rfl
theorem F.ok78:okFn Tryz.prog 78=true:=by kernel_rfl
theorem odd_ok (M:Mem) (b:Nat) (t:ZO) (ht:ZO.ok M t) (p:Zs):Fo Tryz.prog 77 ([p.enc]++[.pointer (some ⟨b,0,none⟩)]) M [(b,rowO t.segs 41)] (fun M' v=>M'=M∧v=.bool (decide (¬Sd t.self p))):=by
  obtain ⟨YI,p_id⟩:=p
  obtain ⟨⟨Ye,Yn⟩,⟨Yp,YC⟩,⟨Yx,Yw,Yc⟩,⟨Yi,Yh,ZI⟩⟩:=t
  refine Vu Tryz.func77 rfl Tryz.ntmps77 rfl ?_;intro H
  iterate 2 refine Stp ?_
  refine Xq ?_;intro b1
  iterate 4 refine Stp ?_
  refine Yg (l:=[0,1,2,3,4,5,6,7,8,9]) #[0,0,3,7,15,15,63,127,255,511] _ rfl jI jI St.drawn (fun _ h=>h) ?_;refine Zy F.lay38 ?_;refine X_fs rfl rfl F.ok78 rfl (Vp _) rfl ?_
  rintro _ rfl
  refine XI 5 rfl (show _=aggV [.one (.int .i64 (-1)),Yb 0] from rfl) ?_
  refine VE (m:=20) rfl rfl rfl rfl rfl jG jG F.lay38 F.kinds38 rfl F.guard38 jS jS rfl rfl rfl ?_;intro c2 he3
  replace he3:c2=true↔¬(Segs.cells _=Segs.cells _):=he3
  obtain rfl:=neD he3 (Zs.inj (x:=⟨_,_⟩) (y:=⟨_,_⟩));clear he3
  refine Yk ?_
  refine Yt 7 rfl (eT fun hc4=>?_) (eF fun hc4=>?_)
  ·refine Zy F.lay41 ?_
   refine Zy F.lay38 ?_;refine X_fs rfl rfl F.ok79 rfl (other_ok _ ⟨⟨_,_⟩,⟨_,_⟩,⟨_,_,_⟩,⟨_,_,_⟩⟩ ⟨_,_⟩) rfl ?_
   rintro _ rfl
   iterate 6 refine Stp ?_
   refine ZV (.inr rfl) (.tmp rfl .nil) (fun w hw=>?_)
   refine ⟨_,M,rfl,Mem.le.refl M,hw.c,rfl,?_⟩
   clear hw
   (refine congrArg Value.bool ?_;simp_all [Sd,YD];done)
  ·iterate 9 refine Stp ?_
   refine ZV (.inr rfl) (.tmp rfl .nil) (fun w hw=>?_)
   refine ⟨_,M,rfl,Mem.le.refl M,hw.c,rfl,?_⟩
   clear hw
   (refine congrArg Value.bool ?_;simp_all [Sd,YD];done)
theorem IsT_ok (M:Mem) (t:ZO) (ht0:ZO.ok M t):Fs Tryz.prog 41 [t.enc] M (fun v=>v=Value.bool (decide (IsTb t.tb))):=by
  obtain ⟨⟨Ye,Yn⟩,⟨Yp,YC⟩,⟨Yx,Yw,Yc⟩,⟨Yi,Yh,ZI⟩⟩:=t
  have Xc:SlK M Zs.segs 21 ⟨Yx,Yw,Yc⟩:=ht0.h0
  have s_t_succ:SlM M Yx (Yc.map Zs.segs) 21:=Xc.h1
  have n_t_succ:(Yc.map Zs.segs).length=Yc.length:=List.length_map ..
  have m_t_succ:Yc.length≤9223372036854775807:=Xc.h2
  have c_t_succ:Yc.length≤Yw:=Xc.h3
  have YG:SlK M Zs.segs 21 ⟨Yi,Yh,ZI⟩:=ht0.h1
  have Vz:SlM M Yi (ZI.map Zs.segs) 21:=YG.h1
  have n_t_fingers:(ZI.map Zs.segs).length=ZI.length:=List.length_map ..
  have VC:ZI.length≤9223372036854775807:=YG.h2
  have c_t_fingers:ZI.length≤Yh:=YG.h3
  refine Xe Tryz.func41 rfl Tryz.ntmps41 rfl ?_;intro H
  iterate 2 refine Stp ?_
  refine Xq ?_;intro b1
  iterate 5 refine Stp ?_
  refine VL rfl rfl rfl rfl rfl ?_
  iterate 6 refine Stp ?_
  refine Zi F.foff41_0 ?_;refine Zi F.foff38_0 ?_;refine Zy F.lay3 ?_;refine X_fs rfl rfl F.ok80 rfl (is_ok _ _) rfl ?_
  rintro _ rfl
  iterate 2 refine Stp ?_
  refine Yt 12 rfl (eT fun hc2=>?_) (eF fun hc2=>?_)
  ·iterate 33 refine Stp ?_
   refine ZV (.inr rfl) (.tmp rfl .nil) (fun w hw=>?_)
   refine ⟨_,rfl,(hw.c),?_⟩
   clear hw
   refine congrArg Value.bool ?_
   (simp_all [IsTb,ZO.tb];done)
  ·refine Yk ?_
   refine Zi F.foff41_1 ?_;refine Zy F.lay38 ?_;refine X_foV rfl rfl rfl F.ok77 rfl rfl (odd_ok M _ ⟨⟨Ye,Yn⟩,⟨Yp,YC⟩,⟨Yx,Yw,Yc⟩,⟨Yi,Yh,ZI⟩⟩ ht0 ⟨Yp,YC⟩) jA (ZT rfl) ?_
   rintro _ M1 _ ⟨hM1,rfl⟩;subst M1
   iterate 2 refine Stp ?_
   refine Yt 18 rfl (cT fun hc3=>?_) (cF fun hc3=>?_)
   ·simp only [Zs.eta,ZO.eta,ZJ.eta,ZF.eta,Ym.eta,Yv.eta,Yy.eta,Yq.eta,ZN.eta,YF.eta,ZU.eta] at hc3
    iterate 27 refine Stp ?_
    refine ZV (.inr rfl) (.tmp rfl .nil) (fun w hw=>?_)
    refine ⟨_,rfl,(hw.c),?_⟩
    clear hw
    refine congrArg Value.bool ?_
    (simp_all [IsTb,ZO.tb];done)
   ·simp only [Zs.eta,ZO.eta,ZJ.eta,ZF.eta,Ym.eta,Yv.eta,Yy.eta,Yq.eta,ZN.eta,YF.eta,ZU.eta] at hc3
    refine Zi F.foff41_2 ?_;refine Zy F.lay39 ?_;refine YA F.elem39 ?_
    iterate 3 refine Stp ?_
    refine Yt 24 rfl (cT fun hc4=>?_) (cF fun hc4=>?_)
    ·iterate 21 refine Stp ?_
     refine ZV (.inr rfl) (.tmp rfl .nil) (fun w hw=>?_)
     refine ⟨_,rfl,(hw.c),?_⟩
     clear hw
     refine congrArg Value.bool ?_
     (simp_all [IsTb,ZO.tb];omega)
    ·refine Zi F.foff41_3 ?_
     refine Zy F.lay39 ?_;refine YA F.elem39 ?_
     iterate 3 refine Stp ?_
     refine Yt 30 rfl (eT fun hc5=>?_) (eF fun hc5=>?_)
     ·iterate 15 refine Stp ?_
      refine ZV (.inr rfl) (.tmp rfl .nil) (fun w hw=>?_)
      refine ⟨_,rfl,(hw.c),?_⟩
      clear hw
      refine congrArg Value.bool ?_
      (simp_all [IsTb,ZO.tb];omega)
     ·refine Zi F.foff41_3 ?_
      refine Zy F.lay39 ?_;refine Yk ?_;refine X_fo rfl rfl F.ok81 rfl (ContainsFP_rd _ [(b1,_)] ⟨_,_,_⟩ 77 [_] (fun p=>decide (¬Sd ⟨Ye,Yn⟩ p)) (Vz.rd _) VC F.ok77 (fun x hx=>odd_ok M _ ⟨⟨Ye,Yn⟩,⟨Yp,YC⟩,⟨Yx,Yw,Yc⟩,⟨Yi,Yh,ZI⟩⟩ ht0 x)) jA (ZT rfl) ?_
      rintro _ M1 _ ⟨hM1,rfl⟩;subst M1
      iterate 3 refine Stp ?_
      refine ZW rfl (fun hc6=>?_) (fun hc6=>?_)
      ·skip
       simp only [Zs.eta,ZO.eta,ZJ.eta,ZF.eta,Ym.eta,Yv.eta,Yy.eta,Yq.eta,ZN.eta,YF.eta,ZU.eta] at hc6
       iterate 7 refine Stp ?_
       refine ZV (.inr rfl) (.tmp rfl .nil) (fun w hw=>?_)
       refine ⟨_,rfl,(hw.c),?_⟩
       clear hw
       refine congrArg Value.bool ?_
       (simp_all [IsTb,ZO.tb];done)
      ·skip
       simp only [Zs.eta,ZO.eta,ZJ.eta,ZF.eta,Ym.eta,Yv.eta,Yy.eta,Yq.eta,ZN.eta,YF.eta,ZU.eta] at hc6
       iterate 5 refine Stp ?_
       refine Zi F.foff41_2 ?_;refine Zy F.lay39 ?_;refine YA F.elem39 ?_
       iterate 4 refine Stp ?_
       refine Y_pk [39,38,37,2,1] ?_;refine VI (.succ .zero) (fun (k:Nat) z=>z=[(39,.int .i64 (k:Int))]∧k≤Yc.length∧(Sc ⟨Ye,Yn⟩ (Yc.take k))) (fun k=>Yc.length-k) (0) (⟨rfl,by omega,by (refine ⟨fun p hp=>?_,?_⟩;simp at hp;simp)⟩) ?_
       rintro k _ ⟨rfl,hk,hI⟩
       have k_tk:=Xc.take k hk
       have hlk:(Yc.take k).length=k:=by rw [List.length_take];omega
       iterate 6 refine Stp ?_
       refine ZW rfl (cT fun hc7=>?_) (cF fun hc7=>?_)
       ·iterate 7 refine Stp ?_
        refine Ys rfl rfl rfl rfl F.elem39 jR jC yB rfl ?_;refine Xm rfl rfl rfl jE yC F.lay38 rfl rfl rfl ?_
        refine Yz F.zero38 ?_;intro b8
        refine VO ?_;refine Ya F.lay38 ?_
        iterate 3 refine Stp ?_
        refine Yg (l:=[0,1,2,3,4,5,6,7,8,9,10,11,12]) #[0,0,3,7,15,31,63,31,255,31,543,2047,4095] _ rfl jI jI St.drawn (fun _ h=>h) ?_;refine Zy F.lay41 ?_;refine Zy F.lay38 ?_;refine X_fs rfl rfl F.ok79 rfl (other_ok _ ⟨⟨_,_⟩,⟨_,_⟩,⟨_,_,_⟩,⟨_,_,_⟩⟩ ⟨_,_⟩) rfl ?_
        rintro _ rfl
        iterate 2 refine Stp ?_
        refine Yt 48 rfl (eT fun hc9=>?_) (eF fun hc9=>?_)
        ·simp only [Zs.eta,ZO.eta,ZJ.eta,ZF.eta,Ym.eta,Yv.eta,Yy.eta,Yq.eta,ZN.eta,YF.eta,ZU.eta] at hc9
         simp only [List.get_eq_getElem] at hc9
         iterate 22 refine Stp ?_
         refine ZV (.inr rfl) (.tmp rfl .nil) (fun w hw=>?_)
         refine ⟨_,rfl,(hw.c),?_⟩
         clear hw
         refine congrArg Value.bool ?_
         (have hd:=succOk_take (s:=⟨Ye,Yn⟩) (l:=Yc) (k:=k) jC;have hp:=succOk_pre (s:=⟨Ye,Yn⟩) (l:=Yc);grind [IsTb,ZO.tb])
        ·simp only [Zs.eta,ZO.eta,ZJ.eta,ZF.eta,Ym.eta,Yv.eta,Yy.eta,Yq.eta,ZN.eta,YF.eta,ZU.eta] at hc9
         simp only [List.get_eq_getElem] at hc9
         refine Zi F.foff41_2 ?_;refine Zy F.lay39 ?_;refine Yk ?_;refine WK rfl rfl rfl .none (.some (k:=k) rfl rfl) .none F.elem39 zJ jK jK jU (pieceV_take (l:=Yc) (k:=k) jC) rfl ?_;refine Zi F.foff38_0 ?_;refine Zy F.lay3 ?_;refine X_fs rfl rfl F.ok45 rfl (has_ok _ ⟨_,_,_⟩ _ jE) rfl ?_
         rintro _ rfl
         iterate 3 refine Stp ?_
         refine ZW rfl (cT fun hc10=>?_) (cF fun hc10=>?_)
         ·simp only [Zs.eta,ZO.eta,ZJ.eta,ZF.eta,Ym.eta,Yv.eta,Yy.eta,Yq.eta,ZN.eta,YF.eta,ZU.eta] at hc10
          simp only [List.get_eq_getElem] at hc10
          iterate 11 refine Stp ?_
          refine ZV (.inr rfl) (.tmp rfl .nil) (fun w hw=>?_)
          refine ⟨_,rfl,(hw.c),?_⟩
          clear hw
          refine congrArg Value.bool ?_
          (have hd:=succOk_take (s:=⟨Ye,Yn⟩) (l:=Yc) (k:=k) jC;have hp:=succOk_pre (s:=⟨Ye,Yn⟩) (l:=Yc);grind [IsTb,ZO.tb])
         ·simp only [Zs.eta,ZO.eta,ZJ.eta,ZF.eta,Ym.eta,Yv.eta,Yy.eta,Yq.eta,ZN.eta,YF.eta,ZU.eta] at hc10
          simp only [List.get_eq_getElem] at hc10
          iterate 4 refine Stp ?_
          refine YO rfl rfl rfl rfl rfl yA rfl ?_
          iterate 2 refine Stp ?_
          refine Vq (a':=[(39,_)]) (k+1) (.cons (k:=39) rfl (.cons (k:=38) rfl (.cons (k:=37) rfl (.cons (k:=2) rfl (.cons (k:=1) rfl (.nil)))))) (fun w hw=>by first|exact hw|exact hw.c) ?_ ?_
          ·refine ⟨rfl,by omega,?_⟩
           rw [succOk_take jC];simp_all
          ·omega
       ·iterate 11 refine Stp ?_
        refine ZV (.inr rfl) (.tmp rfl .nil) (fun w hw=>?_)
        refine ⟨_,rfl,(hw.c),?_⟩
        clear hw
        refine congrArg Value.bool ?_
        (have hk9:k=Yc.length:=jC;subst hk9;rw [List.take_length] at hI;simp_all [IsTb,ZO.tb];omega)
theorem F.ok186:okFn Tryz.prog 186=true:=by kernel_rfl
theorem F.ok214:okFn Tryz.prog 214=true:=by kernel_rfl
theorem CloneP_nil (M:Mem) (c:Nat) (l:List Zs) (k:SlK M Zs.segs 21 ⟨none,c,l⟩) (hb:l.length≤1000000):Fh Tryz.prog 89 [.slice none l.length c] M [] (fun M' v Hout=>M'=M∧OSl 38 21 v Hout (l.map Zs.segs)):=by
  have hl0:l=[]:=SlM.none_nil k.h1
  subst hl0
  have hl0:([]:List Zs).map Zs.segs=[]:=rfl
  refine Ui Tryz.func89 rfl Tryz.ntmps89 rfl ?_;intro H
  iterate 9 refine Stp ?_
  refine Tx Tryz.underlying39 ?_
  iterate 2 refine Stp ?_
  refine ZW rfl (fun hc1=>?_) (fun hc1=>?_)
  ·skip
   iterate 7 refine Stp ?_
   refine ZV (.inr rfl) (.tmp rfl .nil) (fun w hw=>?_)
   exact ⟨_,M,[],rfl,Mem.le.refl M,hw.c,rfl,by rw [hl0];exact OSl.nil⟩
  ·skip
   (exfalso;simp [eqX] at hc1;done)
theorem CloneP_some (M:Mem) (ad:Addr) (c:Nat) (l:List Zs) (k:SlK M Zs.segs 21 ⟨some ad,c,l⟩) (hb:l.length≤1000000):Fh Tryz.prog 89 [.slice (some ad) l.length c] M [] (fun M' v Hout=>M'=M∧OSl 38 21 v Hout (l.map Zs.segs)):=by
  have hml:l.length=(l.map Zs.segs).length:=(List.length_map ..).symm
  refine Ui Tryz.func89 rfl Tryz.ntmps89 rfl ?_;intro H
  iterate 9 refine Stp ?_
  refine Tx Tryz.underlying39 ?_
  iterate 2 refine Stp ?_
  refine ZW rfl (fun hc1=>?_) (fun hc1=>?_)
  ·skip
   (exfalso;simp [eqX] at hc1;done)
  ·skip
   iterate 4 refine Stp ?_
   refine YS rfl rfl F.elem39 F.zero38 rfl rfl (.nil) rfl rfl jL rfl ?_;intro b2 hob3
   refine Yk ?_
   refine WT (m:=1000000) rfl rfl rfl rfl rfl F.elem39 F.zero38 zL rfl jE jA (SlM.src k.h1 (rows_one Zs.flat _) hml) jN jJ rfl ?_;intro v6 hs5 ho4;obtain ⟨adv6,cpv6,rfl⟩:=ho4.val
   iterate 4 refine Stp ?_
   refine ZV (.inr rfl) (.tmp rfl .nil) (fun w hw=>?_)
   exact ⟨_,M,_,rfl,Mem.le.refl M,hw.c,rfl,by assumption⟩
theorem CloneP_ok (M:Mem) (a:Option Addr) (c:Nat) (l:List Zs) (k:SlK M Zs.segs 21 ⟨a,c,l⟩) (hb:l.length≤1000000):Fh Tryz.prog 89 [.slice a l.length c] M [] (fun M' v Hout=>M'=M∧OSl 38 21 v Hout (l.map Zs.segs)):=by
  cases a with
  |none=>exact CloneP_nil M c l k hb
  |some ad=>exact CloneP_some M ad c l k hb
theorem Mul64_ok (M:Mem):Fs Tryz.prog 214 [.int .u64 1,.int .u64 160] M (fun v=>v=.tuple #[.int .u64 0,.int .u64 160]):=by
  refine Xe Tryz.func214 rfl Tryz.ntmps214 rfl ?_;intro H
  iterate 9 refine Stp ?_
  refine WR rfl rfl rfl rfl rfl rfl rfl ?_
  iterate 6 refine Stp ?_
  refine Vt rfl rfl rfl rfl jJ (VY 32 jJ) rfl rfl ?_
  iterate 6 refine Stp ?_
  refine WR rfl rfl rfl rfl rfl rfl rfl ?_
  iterate 6 refine Stp ?_
  refine Vt rfl rfl rfl rfl jJ (VY 32 jJ) rfl rfl ?_
  iterate 7 refine Stp ?_
  refine YO rfl rfl rfl rfl rfl zX rfl ?_
  iterate 7 refine Stp ?_
  refine YO rfl rfl rfl rfl rfl yE rfl ?_;refine Yk ?_;refine Vt rfl rfl rfl rfl jJ (VY 32 jJ) rfl rfl ?_;refine YO rfl rfl rfl rfl rfl zX rfl ?_
  iterate 6 refine Stp ?_
  refine WR rfl rfl rfl rfl rfl rfl rfl ?_
  iterate 6 refine Stp ?_
  refine Vt rfl rfl rfl rfl jJ (VY 32 jJ) rfl rfl ?_
  iterate 8 refine Stp ?_
  refine YO rfl rfl rfl rfl rfl yE rfl ?_;refine YO rfl rfl rfl rfl rfl zX rfl ?_
  iterate 7 refine Stp ?_
  refine YO rfl rfl rfl rfl rfl yE rfl ?_;refine Yk ?_;refine YO rfl rfl rfl rfl rfl zX rfl ?_;refine Yk ?_;refine Vt rfl rfl rfl rfl jJ (VY 32 jJ) rfl rfl ?_;refine YO rfl rfl rfl rfl rfl zX rfl ?_
  iterate 7 refine Stp ?_
  refine YO rfl rfl rfl rfl rfl yE rfl ?_
  iterate 4 refine Stp ?_
  refine ZV (.inr rfl) (.tmp rfl (.tmp rfl .nil)) (fun w hw=>?_)
  refine ⟨_,rfl,hw.c,?_⟩
  rfl
theorem Mul_ok (M:Mem):Fs Tryz.prog 186 [.int .u64 1,.int .u64 160] M (fun v=>v=.tuple #[.int .u64 0,.int .u64 160]):=by
  refine Xe Tryz.func186 rfl Tryz.ntmps186 rfl ?_;intro H
  iterate 14 refine Stp ?_
  refine X_fs rfl rfl F.ok214 rfl (Mul64_ok M) rfl ?_
  rintro _ rfl
  iterate 16 refine Stp ?_
  refine ZV (.inr rfl) (.tmp rfl (.tmp rfl .nil)) (fun w hw=>?_)
  refine ⟨_,rfl,hw.c,?_⟩
  rfl
theorem Repeat_ok (M:Mem) (b:Nat) (hs1:Hp) (ho1:OSl 38 21 (.slice (some ⟨b,0,none⟩) 1 1) hs1 [YD.segs]):Fh Tryz.prog 145 [.slice (some ⟨b,0,none⟩) 1 1,.int .i64 160] M hs1 (fun M' v Hout=>M'=M∧OSl 38 21 v Hout (List.replicate 160 YD.segs)):=by
  refine Ui Tryz.func145 rfl Tryz.ntmps145 rfl ?_;intro H
  iterate 12 refine Stp ?_
  refine ZW rfl (cT fun hc1=>?_) (cF fun hc1=>?_)
  ·(exfalso;omega)
  ·iterate 5 refine Stp ?_
   refine YA F.elem39 ?_;refine Wz rfl rfl rfl Tryz.underlying3 Tryz.underlying136 yE rfl ?_;refine Yk ?_;refine Wz rfl rfl rfl Tryz.underlying3 Tryz.underlying136 yE rfl ?_;refine X_fs rfl rfl F.ok186 rfl (Mul_ok M) rfl ?_
   rintro _ rfl
   iterate 13 refine Stp ?_
   refine Yt 23 rfl (cT fun hc2=>?_) (cF fun hc2=>?_)
   ·(exfalso;omega)
   ·iterate 5 refine Stp ?_
    refine ZW rfl (cT fun hc3=>?_) (cF fun hc3=>?_)
    ·(exfalso;omega)
    ·iterate 5 refine Stp ?_
     refine Wz rfl rfl rfl Tryz.underlying136 Tryz.underlying3 yA rfl ?_
     refine X_makeSliceO (k:=160) (zr:=Zs.zero.segs) rfl rfl rfl rfl F.elem39 F.zero38 rfl (VN rfl) rfl jJ jJ rfl ?_;intro b2 hs2 ho2
     iterate 7 refine Stp ?_
     refine X_copyO (k:=0) (b:=b2) rfl rfl rfl rfl rfl F.elem39 rfl jU ho2 jA (OSl.srcAll ho1 jA (rep_one (Zs.flat _) 1)) rfl rfl ?_;intro hs3 ho3;rw [rep_first jJ] at ho3;replace ho3:OSl 38 21 (.slice (some ⟨b2,0,none⟩) 160 160) hs3 (List.replicate 1 YD.segs++List.replicate (160-1) Zs.zero.segs):=(by simpa using ho3)
     iterate 5 refine Stp ?_
     refine Y_pk [8,7,4] ?_;refine Wt (Hin:=hs3) (.succ .zero) jA (fun (k:Nat) M1 h1 z=>M1=M∧z=[(8,.int .i64 (k:Int))]∧1≤k∧k≤160∧OSl 38 21 (.slice (some ⟨b2,0,none⟩) 160 160) h1 (List.replicate k YD.segs++List.replicate (160-k) Zs.zero.segs)) (fun k=>160-k) (1) (⟨rfl,rfl,by omega,by omega,ho3⟩) ?_
     rintro k M1 h1 z hm1 ⟨hM1,rfl,hk1,hk,ho⟩
     subst hM1
     iterate 5 refine Stp ?_
     refine YA F.elem39 ?_
     iterate 3 refine Stp ?_
     refine ZW rfl (cT fun hc4=>?_) (cF fun hc4=>?_)
     ·iterate 3 refine Stp ?_
      refine Yg (l:=[0,1,2,3,4,5,6,7,8,9]) #[0,0,0,6,0,0,48,126,255,511] _ rfl jI jI St.drawn (fun _ h=>h) ?_
      iterate 3 refine Stp ?_
      refine WK rfl rfl rfl (.some (k:=k) rfl rfl) .none .none F.elem39 jU jZ jZ jU (show WJ (some ⟨b2,0,none⟩) 21 k 160 160=.slice (some ⟨b2,0+k * 21,none⟩) (160-k) (160-k) from Us jC) rfl ?_
      iterate 2 refine Stp ?_
      refine WK rfl rfl rfl .none (.some (k:=k) rfl rfl) .none F.elem39 jU jZ jZ jU (show WJ (some ⟨b2,0,none⟩) 21 0 k 160=.slice (some ⟨b2,0,none⟩) k 160 from pieceV_zero) rfl ?_
      have hcut:OSl 38 21 (.slice (some ⟨b2,0,none⟩) k 160) h1 (List.replicate k YD.segs):=(by have h9:=OSl.cut (k:=k) (rows:=(List.replicate k YD.segs++List.replicate (160-k) Zs.zero.segs)) (ho.aZ rfl) jU;rw [rep_take] at h9;exact h9)
      refine X_copyO (k:=k) (b:=b2) (m:=min k (160-k)) rfl rfl rfl rfl rfl F.elem39 jC jU ho jA (OSl.srcAll hcut jA (rep_one (Zs.flat _) k)) jU rfl ?_;intro hs5 ho5;rw [rep_next jC jC jC] at ho5;replace ho5:OSl 38 21 (.slice (some ⟨b2,0,none⟩) 160 160) hs5 (List.replicate (k+min k (160-k)) YD.segs++List.replicate (160-(k+min k (160-k))) Zs.zero.segs):=ho5.aZ jY
      refine YO rfl rfl rfl rfl rfl yA rfl ?_
      iterate 3 refine Stp ?_
      refine Xa (a':=[(8,_)]) (k+min k (160-k)) (hs5) (.cons (k:=8) rfl (.cons (k:=7) rfl (.cons (k:=4) rfl (.nil)))) jP (fun w hw=>by first|exact hw|exact hw.c) ?_ ?_
      ·exact ⟨rfl,congrArg (fun v=>[(8,Value.int .i64 v)]) jU,by omega,by omega,ho5⟩
      ·omega
     ·iterate 12 refine Stp ?_
      refine ZV (.inr rfl) (.tmp rfl .nil) (fun w hw=>?_)
      obtain rfl:k=160:=by omega
      rw [Nat.sub_self,List.replicate_zero,List.append_nil] at ho
      exact ⟨_,M1,h1,rfl,Mem.le.refl _,hw.c,rfl,ho⟩
theorem F.bld41:Bld Tryz.prog 41 [[.one (.int .i64 0),Yb 0],[.one (.int .i64 0),Yb 0],[.one (.slice none 0 0)],[.one (.slice none 0 0)]]:=by rw [TM];exact ⟨by kernel_rfl,by kernel_rfl⟩
theorem F.ok145:okFn Tryz.prog 145=true:=by kernel_rfl
theorem F.zero41:XW Tryz.prog 41=some (aggV [.one (.int .i64 0),Yb 0,.one (.int .i64 0),Yb 0,.one (.slice none 0 0),.one (.slice none 0 0)]):=by rw [TM];kernel_rfl
theorem New_ok (M:Mem) (self:Zs):Esp.Fn Tryz.prog 87 [self.enc] M (fun M' v=>TabE M' v (newT self)):=by
  obtain ⟨self_addr,self_id⟩:=self
  refine WF Tryz.func87 rfl Tryz.ntmps87 rfl ?_;intro H
  iterate 2 refine Stp ?_
  refine Xq ?_;intro b1
  refine Yz F.zero41 ?_;intro b2
  iterate 6 refine Stp ?_
  refine Zi F.foff38_0 ?_;refine Zy F.lay3 ?_;refine X_fs rfl rfl F.ok80 rfl (is_ok _ _) rfl ?_
  rintro _ rfl
  iterate 3 refine Stp ?_
  refine ZW rfl (eT fun hc3=>?_) (eF fun hc3=>?_)
  ·iterate 2 refine Stp ?_
   refine Xo rfl rfl F.bld41 (.nil) rfl rfl ?_;refine Ya F.lay41 ?_
   iterate 5 refine Stp ?_
   refine ZV (.inr rfl) (.cell rfl jB F.lay41 rfl rfl (.tmp rfl .nil)) (fun w hw=>?_)
   refine ⟨_,M,rfl,Mem.le.refl M,hw.c,?_⟩
   rw [show newT ⟨self_addr,self_id⟩=(Tb.zero,1) from if_neg jE]
   exact ⟨_,rfl,tabIs_zero⟩
  ·iterate 3 refine Stp ?_
   refine Yg (l:=[0,1,2,3,4,5,6,7]) #[0,0,2,6,14,31,63,127] _ rfl jI jI St.drawn (fun _ h=>h) ?_;refine Zy F.lay38 ?_;refine X_fs rfl rfl F.ok78 rfl (Vp _) rfl ?_
   rintro _ rfl
   refine XI 10 rfl (show _=aggV [.one (.int .i64 (-1)),Yb 0] from rfl) ?_;refine X_fs rfl rfl F.ok78 rfl (Vp _) rfl ?_
   rintro _ rfl
   refine XI 11 rfl (show _=aggV [.one (.int .i64 (-1)),Yb 0] from rfl) ?_
   refine YS rfl rfl F.elem39 F.zero38 rfl rfl (.cons rfl jG .nil) rfl rfl jL rfl ?_;intro b4 hob5
   refine WE rfl rfl F.ok145 rfl (Repeat_ok M _ _ hob5) jA (fun _ _ _ hm hw=>(hw.lower jV).c) (ZT rfl) ?_
   rintro v9 M1 hs9 hm1 ⟨hM1,ho9⟩;subst M1
   obtain ⟨ad9,cp9,rfl⟩:=ho9.val
   refine Xo rfl rfl F.bld41 (.cons rfl jG (.cons rfl jG (.cons rfl jG .nil))) rfl rfl ?_;refine Ya F.lay41 ?_
   iterate 4 refine Stp ?_
   refine ZV (.inr rfl) (.cell rfl jB F.lay41 rfl rfl (.tmp rfl .nil)) (fun w hw=>?_)
   obtain ⟨M9,s1,g1,g2,g3,g4,g5⟩:=OSl.freezeK (f:=Zs.segs) (H:=H) (l:=List.replicate 160 YD) (by rw [List.map_replicate];exact ho9) (hw.c)
   refine ⟨_,M9,rfl,g1,g2,?_⟩
   rw [show newT ⟨self_addr,self_id⟩=(⟨⟨self_addr,self_id⟩,YD,[],List.replicate 160 YD⟩,0) from if_pos jE]
   exact ⟨_,rfl,VU (s1:=⟨none,0,[]⟩) rfl g3 SlK.nil g5 (by rw [g4];rfl)⟩
theorem F.ok41:okFn Tryz.prog 41=true:=by kernel_rfl
theorem Adopt_ok (M:Mem) (t:ZO) (first:Zs) (rest:(Sl Zs)) (r:Int) (ht0:ZO.ok M t) (hrest1:SlK M Zs.segs 21 rest):Esp.Fn Tryz.prog 201 [t.enc,first.enc,Sl.val rest,.int .i64 r] M (fun M' v=>TabE M' v (VK t.tb first rest.l r)):=by
  obtain ⟨⟨Ye,Yn⟩,⟨Yp,YC⟩,⟨Yx,Yw,Yc⟩,⟨Yi,Yh,ZI⟩⟩:=t
  obtain ⟨first_addr,first_id⟩:=first
  obtain ⟨rest_a,rest_c,rest_l⟩:=rest
  have Xc:SlK M Zs.segs 21 ⟨Yx,Yw,Yc⟩:=ht0.h0
  have s_t_succ:SlM M Yx (Yc.map Zs.segs) 21:=Xc.h1
  have n_t_succ:(Yc.map Zs.segs).length=Yc.length:=List.length_map ..
  have m_t_succ:Yc.length≤9223372036854775807:=Xc.h2
  have c_t_succ:Yc.length≤Yw:=Xc.h3
  have YG:SlK M Zs.segs 21 ⟨Yi,Yh,ZI⟩:=ht0.h1
  have Vz:SlM M Yi (ZI.map Zs.segs) 21:=YG.h1
  have n_t_fingers:(ZI.map Zs.segs).length=ZI.length:=List.length_map ..
  have VC:ZI.length≤9223372036854775807:=YG.h2
  have c_t_fingers:ZI.length≤Yh:=YG.h3
  have k_rest:SlK M Zs.segs 21 ⟨rest_a,rest_c,rest_l⟩:=hrest1
  have s_rest:SlM M rest_a (rest_l.map Zs.segs) 21:=k_rest.h1
  have n_rest:(rest_l.map Zs.segs).length=rest_l.length:=List.length_map ..
  have m_rest:rest_l.length≤9223372036854775807:=k_rest.h2
  have c_rest:rest_l.length≤rest_c:=k_rest.h3
  refine WF Tryz.func201 rfl Tryz.ntmps201 rfl ?_;intro H
  iterate 2 refine Stp ?_
  refine Xq ?_;intro b1
  refine Xq ?_;intro b2
  refine Yz F.zero41 ?_;intro b3
  iterate 6 refine Stp ?_
  refine Zy F.lay41 ?_;refine X_fs rfl rfl F.ok41 rfl (IsT_ok _ ⟨⟨_,_⟩,⟨_,_⟩,⟨_,_,_⟩,⟨_,_,_⟩⟩ jE) rfl ?_
  rintro _ rfl
  iterate 2 refine Stp ?_
  refine Yt 15 rfl (eT fun hc4=>?_) (eF fun hc4=>?_)
  ·iterate 18 refine Stp ?_
   refine Xo rfl rfl F.bld41 (.nil) rfl rfl ?_;refine Ya F.lay41 ?_
   iterate 5 refine Stp ?_
   refine ZV (.inr rfl) (.cell rfl jB F.lay41 rfl rfl (.tmp rfl .nil)) (fun w hw=>?_)
   refine ⟨_,M,rfl,Mem.le.refl M,hw.c,?_⟩
   rw [show VK (ZO.tb ⟨⟨Ye,Yn⟩,⟨Yp,YC⟩,⟨Yx,Yw,Yc⟩,⟨Yi,Yh,ZI⟩⟩) ⟨first_addr,first_id⟩ rest_l r=(Tb.zero,1) from if_neg yJ]
   exact ⟨_,rfl,tabIs_zero⟩
  ·refine Zy F.lay41 ?_
   refine Zy F.lay38 ?_;refine X_fs rfl rfl F.ok79 rfl (other_ok _ ⟨⟨_,_⟩,⟨_,_⟩,⟨_,_,_⟩,⟨_,_,_⟩⟩ ⟨_,_⟩) rfl ?_
   rintro _ rfl
   iterate 3 refine Stp ?_
   refine Yt 21 rfl (eT fun hc5=>?_) (eF fun hc5=>?_)
   ·simp only [Zs.eta,ZO.eta,ZJ.eta,ZF.eta,Ym.eta,Yv.eta,Yy.eta,Yq.eta,ZN.eta,YF.eta,ZU.eta] at hc5
    iterate 12 refine Stp ?_
    refine Xo rfl rfl F.bld41 (.nil) rfl rfl ?_;refine Ya F.lay41 ?_
    iterate 5 refine Stp ?_
    refine ZV (.inr rfl) (.cell rfl jB F.lay41 rfl rfl (.tmp rfl .nil)) (fun w hw=>?_)
    refine ⟨_,M,rfl,Mem.le.refl M,hw.c,?_⟩
    rw [show VK (ZO.tb ⟨⟨Ye,Yn⟩,⟨Yp,YC⟩,⟨Yx,Yw,Yc⟩,⟨Yi,Yh,ZI⟩⟩) ⟨first_addr,first_id⟩ rest_l r=(Tb.zero,1) from if_neg yJ]
    exact ⟨_,rfl,tabIs_zero⟩
   ·simp only [Zs.eta,ZO.eta,ZJ.eta,ZF.eta,Ym.eta,Yv.eta,Yy.eta,Yq.eta,ZN.eta,YF.eta,ZU.eta] at hc5
    iterate 4 refine Stp ?_
    refine Yt 25 rfl (cT fun hc6=>?_) (cF fun hc6=>?_)
    ·iterate 8 refine Stp ?_
     refine Xo rfl rfl F.bld41 (.nil) rfl rfl ?_;refine Ya F.lay41 ?_
     iterate 5 refine Stp ?_
     refine ZV (.inr rfl) (.cell rfl jB F.lay41 rfl rfl (.tmp rfl .nil)) (fun w hw=>?_)
     refine ⟨_,M,rfl,Mem.le.refl M,hw.c,?_⟩
     rw [show VK (ZO.tb ⟨⟨Ye,Yn⟩,⟨Yp,YC⟩,⟨Yx,Yw,Yc⟩,⟨Yi,Yh,ZI⟩⟩) ⟨first_addr,first_id⟩ rest_l r=(Tb.zero,1) from if_neg yJ]
     exact ⟨_,rfl,tabIs_zero⟩
    ·iterate 5 refine Stp ?_
     refine ZW rfl (cT fun hc7=>?_) (cF fun hc7=>?_)
     ·iterate 2 refine Stp ?_
      refine Xo rfl rfl F.bld41 (.nil) rfl rfl ?_;refine Ya F.lay41 ?_
      iterate 5 refine Stp ?_
      refine ZV (.inr rfl) (.cell rfl jB F.lay41 rfl rfl (.tmp rfl .nil)) (fun w hw=>?_)
      refine ⟨_,M,rfl,Mem.le.refl M,hw.c,?_⟩
      rw [show VK (ZO.tb ⟨⟨Ye,Yn⟩,⟨Yp,YC⟩,⟨Yx,Yw,Yc⟩,⟨Yi,Yh,ZI⟩⟩) ⟨first_addr,first_id⟩ rest_l r=(Tb.zero,1) from if_neg yJ]
      exact ⟨_,rfl,tabIs_zero⟩
     ·iterate 4 refine Stp ?_
      refine Zy F.lay38 ?_
      refine YS rfl rfl F.elem39 F.zero38 rfl rfl (.cons rfl jG .nil) rfl rfl jL rfl ?_;intro b8 hob9
      refine Zi F.foff41_2 ?_;refine Ya F.lay39 ?_
      iterate 6 refine Stp ?_
      refine YA F.elem39 ?_
      iterate 4 refine Stp ?_
      refine Y_pk [35,34,33,9,8,4,3] ?_;refine C_loopO2 (Hin:=[(b1,rowO [.one (.int .i64 Ye),Yb Yn,.one (.int .i64 Yp),Yb YC,.one (.slice (some ⟨b8,0,none⟩) 1 1),.one (.slice Yi ZI.length Yh)] 41)]) (Hin2:=[(b8,_)]) (.succ .zero) jA jA (fun (k:Nat) M1 h1 z=>∃ (acc:List Zs) (v:Value) (hs:Hp),M1=M∧z=[(35,.int .i64 (k:Int))]∧k≤rest_l.length∧h1=(b1,rowO [.one (.int .i64 Ye),Yb Yn,.one (.int .i64 Yp),Yb YC,.one v,.one (.slice Yi ZI.length Yh)] 41)::hs∧OSl 38 21 v hs (acc.map Zs.segs)∧(acc.length:Int)≤r∧VD ⟨Ye,Yn⟩ r [⟨first_addr,first_id⟩] rest_l=VD ⟨Ye,Yn⟩ r acc (rest_l.drop (k))) (fun k=>rest_l.length-k) (0) (⟨[⟨first_addr,first_id⟩],_,_,rfl,rfl,by omega,rfl,hob9,by simp only [List.length_cons,List.length_nil];omega,by rw [List.drop_zero]⟩) ?_
      rintro k M1 h1 z hm1 ⟨acc,v0,hs0,hM1,rfl,hk,rfl,ho,hr8,hI⟩
      subst hM1
      obtain ⟨ad0,cp0,rfl⟩:=ho.valL
      have hml:(acc.map Zs.segs).length=acc.length:=List.length_map ..
      iterate 6 refine Stp ?_
      refine ZW rfl (cT fun hc10=>?_) (cF fun hc10=>?_)
      ·iterate 6 refine Stp ?_
       refine Ys rfl rfl rfl rfl F.elem39 jR jC yB rfl ?_;refine Xm rfl rfl rfl jE yC F.lay38 rfl rfl rfl ?_
       refine Yz F.zero38 ?_;intro b11
       refine Ya F.lay38 ?_
       iterate 5 refine Stp ?_
       refine Zy F.lay41 ?_;refine Zy F.lay38 ?_;refine X_fs rfl rfl F.ok79 rfl (other_ok _ ⟨⟨_,_⟩,⟨_,_⟩,⟨_,_,_⟩,⟨_,_,_⟩⟩ ⟨_,_⟩) rfl ?_
       rintro _ rfl
       iterate 2 refine Stp ?_
       refine Yt 43 rfl (eT fun hc12=>?_) (eF fun hc12=>?_)
       ·simp only [Zs.eta,ZO.eta,ZJ.eta,ZF.eta,Ym.eta,Yv.eta,Yy.eta,Yq.eta,ZN.eta,YF.eta,ZU.eta] at hc12
        simp only [List.get_eq_getElem] at hc12
        iterate 11 refine Stp ?_
        refine K_miss jJ ?_
        iterate 6 refine Stp ?_
        refine Zy F.lay41 ?_;refine Ya F.lay41 ?_
        iterate 4 refine Stp ?_
        refine ZV (.inr rfl) (.cell rfl jB F.lay41 rfl rfl (.tmp rfl .nil)) (fun w hw=>?_)
        have hacc:VD ⟨Ye,Yn⟩ r [⟨first_addr,first_id⟩] rest_l=acc:=by
         rw [hI,List.drop_eq_getElem_cons (by omega:k<rest_l.length)]
         unfold VD
         exact if_pos yQ
        obtain ⟨M9,s1,g1,g2,g3,g4,g5⟩:=OSl.freezeK (f:=Zs.segs) (H:=H) (l:=acc) ho (hw.c)
        refine ⟨_,M9,rfl,g1,g2,?_⟩
        rw [show VK (ZO.tb ⟨⟨Ye,Yn⟩,⟨Yp,YC⟩,⟨Yx,Yw,Yc⟩,⟨Yi,Yh,ZI⟩⟩) ⟨first_addr,first_id⟩ rest_l r=({ (ZO.tb ⟨⟨Ye,Yn⟩,⟨Yp,YC⟩,⟨Yx,Yw,Yc⟩,⟨Yi,Yh,ZI⟩⟩) with succ:=VD ⟨Ye,Yn⟩ r [⟨first_addr,first_id⟩] rest_l },0) from if_pos ⟨by assumption,by assumption,by omega,by omega⟩]
        exact ⟨_,rfl,VU g3 (s2:=⟨Yi,Yh,ZI⟩) rfl g5 (YG.mono g1) (by rw [g4,hacc];rfl)⟩
       ·simp only [Zs.eta,ZO.eta,ZJ.eta,ZF.eta,Ym.eta,Yv.eta,Yy.eta,Yq.eta,ZN.eta,YF.eta,ZU.eta] at hc12
        simp only [List.get_eq_getElem] at hc12
        refine Zi F.foff41_2 ?_;refine Zy F.lay39 ?_;refine YA F.elem39 ?_
        iterate 5 refine Stp ?_
        refine ZW rfl (cT fun hc13=>?_) (cF fun hc13=>?_)
        ·iterate 2 refine Stp ?_
         refine K_miss jJ ?_
         iterate 6 refine Stp ?_
         refine Zy F.lay41 ?_;refine Ya F.lay41 ?_
         iterate 4 refine Stp ?_
         refine ZV (.inr rfl) (.cell rfl jB F.lay41 rfl rfl (.tmp rfl .nil)) (fun w hw=>?_)
         have hacc:VD ⟨Ye,Yn⟩ r [⟨first_addr,first_id⟩] rest_l=acc:=by
          rw [hI,List.drop_eq_getElem_cons (by omega:k<rest_l.length)]
          unfold VD
          exact if_pos (by exact .inr jC)
         obtain ⟨M9,s1,g1,g2,g3,g4,g5⟩:=OSl.freezeK (f:=Zs.segs) (H:=H) (l:=acc) ho (hw.c)
         refine ⟨_,M9,rfl,g1,g2,?_⟩
         rw [show VK (ZO.tb ⟨⟨Ye,Yn⟩,⟨Yp,YC⟩,⟨Yx,Yw,Yc⟩,⟨Yi,Yh,ZI⟩⟩) ⟨first_addr,first_id⟩ rest_l r=({ (ZO.tb ⟨⟨Ye,Yn⟩,⟨Yp,YC⟩,⟨Yx,Yw,Yc⟩,⟨Yi,Yh,ZI⟩⟩) with succ:=VD ⟨Ye,Yn⟩ r [⟨first_addr,first_id⟩] rest_l },0) from if_pos ⟨by assumption,by assumption,by omega,by omega⟩]
         exact ⟨_,rfl,VU g3 (s2:=⟨Yi,Yh,ZI⟩) rfl g5 (YG.mono g1) (by rw [g4,hacc];rfl)⟩
        ·iterate 4 refine Stp ?_
         refine Zi F.foff41_2 ?_;refine Zy F.lay39 ?_;refine Zi F.foff38_0 ?_;refine Zy F.lay3 ?_;refine X_fo rfl rfl F.ok45 rfl (has_rd _ hs0 ⟨ad0,cp0,acc⟩ _ (ho.rd _) (by show acc.length≤9223372036854775807;omega)) jA (ZT rfl) ?_
         rintro _ M1 _ ⟨hM1,rfl⟩;subst M1
         iterate 3 refine Stp ?_
         refine ZW rfl (eT fun hc14=>?_) (eF fun hc14=>?_)
         ·simp only [Zs.eta,ZO.eta,ZJ.eta,ZF.eta,Ym.eta,Yv.eta,Yy.eta,Yq.eta,ZN.eta,YF.eta,ZU.eta] at hc14
          simp only [List.get_eq_getElem] at hc14
          refine Stp ?_;refine Zi F.foff41_2 ?_;refine Zy F.lay39 ?_;refine Zy F.lay38 ?_
          refine YS rfl rfl F.elem39 F.zero38 rfl rfl (.cons rfl jG .nil) rfl rfl jL rfl ?_;intro b15 hob16
          refine WT (m:=1000000) rfl rfl rfl rfl rfl F.elem39 F.zero38 zL rfl jE jA (Src.own hob16.lens jO rfl jB) jN jJ rfl ?_;intro v19 hs18 ho17;obtain ⟨adv19,cpv19,rfl⟩:=ho17.valAt (n:=acc.length+1) zK
          refine Zi F.foff41_2 ?_;refine Ya F.lay39 ?_
          iterate 4 refine Stp ?_
          refine YO rfl rfl rfl rfl rfl yA rfl ?_
          iterate 2 refine Stp ?_
          refine Xa (a':=[(35,_)]) (k+1) ((b1,rowO [.one (.int .i64 Ye),Yb Yn,.one (.int .i64 Yp),Yb YC,.one (.slice adv19 (acc.length+1) cpv19),.one (.slice Yi ZI.length Yh)] 41)::hs18) (.cons (k:=35) rfl (.cons (k:=34) rfl (.cons (k:=33) rfl (.cons (k:=9) rfl (.cons (k:=8) rfl (.cons (k:=4) rfl (.cons (k:=3) rfl (.nil)))))))) jP (fun w hw=>by first|exact hw|exact hw.c) ?_ ?_
          ·refine ⟨acc++[rest_l[k]],_,_,rfl,rfl,by omega,rfl,by rw [List.map_append];exact ho17,by simp only [List.length_append,List.length_cons,List.length_nil];omega,?_⟩
           rw [hI,List.drop_eq_getElem_cons (by omega:k<rest_l.length)]
           conv=>lhs;unfold VD
           rw [if_neg (by rintro (h|h);exact h jE;omega),if_neg jE]
          ·omega
         ·simp only [Zs.eta,ZO.eta,ZJ.eta,ZF.eta,Ym.eta,Yv.eta,Yy.eta,Yq.eta,ZN.eta,YF.eta,ZU.eta] at hc14
          simp only [List.get_eq_getElem] at hc14
          iterate 4 refine Stp ?_
          refine YO rfl rfl rfl rfl rfl yA rfl ?_
          iterate 2 refine Stp ?_
          refine Xa (a':=[(35,_)]) (k+1) ((b1,rowO [.one (.int .i64 Ye),Yb Yn,.one (.int .i64 Yp),Yb YC,.one (.slice ad0 acc.length cp0),.one (.slice Yi ZI.length Yh)] 41)::hs0) (.cons (k:=35) rfl (.cons (k:=34) rfl (.cons (k:=33) rfl (.cons (k:=9) rfl (.cons (k:=8) rfl (.cons (k:=4) rfl (.cons (k:=3) rfl (.nil)))))))) jP (fun w hw=>by first|exact hw|exact hw.c) ?_ ?_
          ·refine ⟨acc,_,_,rfl,rfl,by omega,rfl,ho,hr8,?_⟩
           rw [hI,List.drop_eq_getElem_cons (by omega:k<rest_l.length)]
           conv=>lhs;unfold VD
           rw [if_neg (by rintro (h|h);exact h jE;omega),if_pos jE]
          ·omega
      ·iterate 7 refine Stp ?_
       refine Zy F.lay41 ?_;refine Ya F.lay41 ?_
       iterate 4 refine Stp ?_
       refine ZV (.inr rfl) (.cell rfl jB F.lay41 rfl rfl (.tmp rfl .nil)) (fun w hw=>?_)
       have hacc:VD ⟨Ye,Yn⟩ r [⟨first_addr,first_id⟩] rest_l=acc:=by
        rw [hI,show k=rest_l.length from by omega,List.drop_length];simp only [VD]
       obtain ⟨M9,s1,g1,g2,g3,g4,g5⟩:=OSl.freezeK (f:=Zs.segs) (H:=H) (l:=acc) ho (hw.c)
       refine ⟨_,M9,rfl,g1,g2,?_⟩
       rw [show VK (ZO.tb ⟨⟨Ye,Yn⟩,⟨Yp,YC⟩,⟨Yx,Yw,Yc⟩,⟨Yi,Yh,ZI⟩⟩) ⟨first_addr,first_id⟩ rest_l r=({ (ZO.tb ⟨⟨Ye,Yn⟩,⟨Yp,YC⟩,⟨Yx,Yw,Yc⟩,⟨Yi,Yh,ZI⟩⟩) with succ:=VD ⟨Ye,Yn⟩ r [⟨first_addr,first_id⟩] rest_l },0) from if_pos ⟨by assumption,by assumption,by omega,by omega⟩]
       exact ⟨_,rfl,VU g3 (s2:=⟨Yi,Yh,ZI⟩) rfl g5 (YG.mono g1) (by rw [g4,hacc];rfl)⟩
theorem Learn_ok (M:Mem) (t:ZO) (p:Zs) (ht0:ZO.ok M t):Esp.Fn Tryz.prog 176 [t.enc,p.enc] M (fun M' v=>TabIs M' v (Ub t.tb p)):=by
  obtain ⟨⟨Ye,Yn⟩,⟨Yp,YC⟩,⟨Yx,Yw,Yc⟩,⟨Yi,Yh,ZI⟩⟩:=t
  obtain ⟨YI,p_id⟩:=p
  have Xc:SlK M Zs.segs 21 ⟨Yx,Yw,Yc⟩:=ht0.h0
  have s_t_succ:SlM M Yx (Yc.map Zs.segs) 21:=Xc.h1
  have n_t_succ:(Yc.map Zs.segs).length=Yc.length:=List.length_map ..
  have m_t_succ:Yc.length≤9223372036854775807:=Xc.h2
  have c_t_succ:Yc.length≤Yw:=Xc.h3
  have YG:SlK M Zs.segs 21 ⟨Yi,Yh,ZI⟩:=ht0.h1
  have Vz:SlM M Yi (ZI.map Zs.segs) 21:=YG.h1
  have n_t_fingers:(ZI.map Zs.segs).length=ZI.length:=List.length_map ..
  have VC:ZI.length≤9223372036854775807:=YG.h2
  have c_t_fingers:ZI.length≤Yh:=YG.h3
  refine WF Tryz.func176 rfl Tryz.ntmps176 rfl ?_;intro H
  iterate 2 refine Stp ?_
  refine Xq ?_;intro b1
  refine Xq ?_;intro b2
  refine Yz F.zero41 ?_;intro b3
  iterate 13 refine Stp ?_
  refine Zy F.lay41 ?_;refine X_fs rfl rfl F.ok41 rfl (IsT_ok _ ⟨⟨_,_⟩,⟨_,_⟩,⟨_,_,_⟩,⟨_,_,_⟩⟩ jE) rfl ?_
  rintro _ rfl
  iterate 2 refine Stp ?_
  refine Yt 9 rfl (eT fun hc4=>?_) (eF fun hc4=>?_)
  ·iterate 15 refine Stp ?_
   iterate 2 refine K_miss jJ ?_
   iterate 5 refine Stp ?_
   refine Zy F.lay41 ?_;refine Ya F.lay41 ?_
   iterate 3 refine Stp ?_
   refine ZV (.inr rfl) (.cell rfl jB F.lay41 rfl rfl .nil) (fun w hw=>?_)
   refine ⟨_,M,rfl,Mem.le.refl M,hw.c,?_⟩
   clear hw
   exact VU (s1:=⟨Yx,Yw,Yc⟩) (s2:=⟨Yi,Yh,ZI⟩) rfl rfl Xc YG yG
  ·refine Zy F.lay41 ?_
   refine Zy F.lay38 ?_;refine X_fs rfl rfl F.ok79 rfl (other_ok _ ⟨⟨_,_⟩,⟨_,_⟩,⟨_,_,_⟩,⟨_,_,_⟩⟩ ⟨_,_⟩) rfl ?_
   rintro _ rfl
   iterate 5 refine Stp ?_
   refine ZW rfl (eT fun hc5=>?_) (eF fun hc5=>?_)
   ·simp only [Zs.eta,ZO.eta,ZJ.eta,ZF.eta,Ym.eta,Yv.eta,Yy.eta,Yq.eta,ZN.eta,YF.eta,ZU.eta] at hc5
    iterate 6 refine Stp ?_
    iterate 2 refine K_miss jJ ?_
    iterate 5 refine Stp ?_
    refine Zy F.lay41 ?_;refine Ya F.lay41 ?_
    iterate 3 refine Stp ?_
    refine ZV (.inr rfl) (.cell rfl jB F.lay41 rfl rfl .nil) (fun w hw=>?_)
    refine ⟨_,M,rfl,Mem.le.refl M,hw.c,?_⟩
    clear hw
    exact VU (s1:=⟨Yx,Yw,Yc⟩) (s2:=⟨Yi,Yh,ZI⟩) rfl rfl Xc YG yG
   ·simp only [Zs.eta,ZO.eta,ZJ.eta,ZF.eta,Ym.eta,Yv.eta,Yy.eta,Yq.eta,ZN.eta,YF.eta,ZU.eta] at hc5
    iterate 4 refine Stp ?_
    refine Yg (l:=[0,1,2,3,4]) #[0,1,0,7,15] _ rfl jI jI St.drawn (fun _ h=>h) ?_;refine Zi F.foff41_1 ?_;refine Zy F.lay38 ?_;refine X_fs rfl rfl F.ok78 rfl (Vp _) rfl ?_
    rintro _ rfl
    refine XI 18 rfl (show _=aggV [.one (.int .i64 (-1)),Yb 0] from rfl) ?_
    refine VE (m:=20) rfl rfl rfl rfl rfl jG jG F.lay38 F.kinds38 rfl F.guard38 jS jS rfl rfl rfl ?_;intro c6 he7
    replace he7:c6=true↔Segs.cells _=Segs.cells _:=he7
    obtain rfl:=eqD he7 (Zs.inj (x:=⟨_,_⟩) (y:=⟨_,_⟩));clear he7
    iterate 3 refine Stp ?_
    refine ZW rfl (cT fun hc8=>?_) (cF fun hc8=>?_)
    ·iterate 3 refine Stp ?_
     refine K_miss jJ ?_
     iterate 6 refine Stp ?_
     refine Zy F.lay38 ?_;refine Zi F.foff41_1 ?_;refine Ya F.lay38 ?_
     iterate 7 refine Stp ?_
     refine Zy F.lay41 ?_;refine Ya F.lay41 ?_
     iterate 3 refine Stp ?_
     refine ZV (.inr rfl) (.cell rfl jB F.lay41 rfl rfl .nil) (fun w hw=>?_)
     refine ⟨_,M,rfl,Mem.le.refl M,hw.c,?_⟩
     clear hw
     exact VU (s1:=⟨Yx,Yw,Yc⟩) (s2:=⟨Yi,Yh,ZI⟩) rfl rfl Xc YG (by unfold Ub;rw [if_pos ⟨by assumption,by assumption,by first|exact .inl jE|exact .inr jE⟩];rfl)
    ·iterate 4 refine Stp ?_
     refine Zi F.foff41_1 ?_;refine Zi F.foff38_1 ?_;refine Zy F.lay36 ?_;refine Zi F.foff38_1 ?_;refine Zy F.lay36 ?_;refine Zi F.foff41_0 ?_;refine Zi F.foff38_1 ?_;refine Zy F.lay36 ?_;refine X_fs rfl rfl F.ok101 rfl (Open_ok _ _ _ _) rfl ?_
     rintro _ rfl
     iterate 3 refine Stp ?_
     refine ZW rfl (cT fun hc9=>?_) (cF fun hc9=>?_)
     ·iterate 2 refine Stp ?_
      refine K_miss jJ ?_;refine K_exit (K_miss jJ ?_)
      iterate 4 refine Stp ?_
      refine Zy F.lay38 ?_;refine Zi F.foff41_1 ?_;refine Ya F.lay38 ?_
      iterate 7 refine Stp ?_
      refine Zy F.lay41 ?_;refine Ya F.lay41 ?_
      iterate 3 refine Stp ?_
      refine ZV (.inr rfl) (.cell rfl jB F.lay41 rfl rfl .nil) (fun w hw=>?_)
      refine ⟨_,M,rfl,Mem.le.refl M,hw.c,?_⟩
      clear hw
      exact VU (s1:=⟨Yx,Yw,Yc⟩) (s2:=⟨Yi,Yh,ZI⟩) rfl rfl Xc YG (by unfold Ub;rw [if_pos ⟨by assumption,by assumption,by first|exact .inl jE|exact .inr jE⟩];rfl)
     ·iterate 3 refine Stp ?_
      refine K_miss jJ ?_;refine K_exit ?_
      iterate 2 refine K_miss jJ ?_
      iterate 5 refine Stp ?_
      refine Zy F.lay41 ?_;refine Ya F.lay41 ?_
      iterate 3 refine Stp ?_
      refine ZV (.inr rfl) (.cell rfl jB F.lay41 rfl rfl .nil) (fun w hw=>?_)
      refine ⟨_,M,rfl,Mem.le.refl M,hw.c,?_⟩
      clear hw
      exact VU (s1:=⟨Yx,Yw,Yc⟩) (s2:=⟨Yi,Yh,ZI⟩) rfl rfl Xc YG yG
theorem DeleteFP_no (M:Mem) (Hc:Hp) (a:Option Addr) (c:Nat) (l:List Zs) (hs:Hp) (ho:OSl 38 21 (.slice a l.length c) hs (l.map Zs.segs)) (bl:l.length≤1000000) (g:FuncId) (caps:List Value) (p:Zs→Bool) (hok:okFn Tryz.prog g=true) (hc:∀ x:Zs,Fo Tryz.prog g ([x.enc]++caps) M Hc (fun M' v=>M'=M∧v=.bool (p x))) (h:idxF p l=-1):Fh Tryz.prog 210 [.slice a l.length c,.func (.func g) #[] caps.toArray] M (hs++Hc) (fun M' v Hout=>M'=M∧∃ hs',Hout=hs'++Hc∧OSl 38 21 v hs' ((kept p l).map Zs.segs)):=by
  refine YR (fun H=>hs++(Hc++H)) (fun _=>List.append_assoc _ _ _) Tryz.func210 rfl Tryz.ntmps210 rfl ?_;intro H
  iterate 9 refine Stp ?_
  refine X_fo rfl rfl F.ok136 rfl (IndexFP_rd M (hs++Hc) ⟨a,c,l⟩ g caps p ((ho.rd M).app Hc) (by show l.length≤9223372036854775807;omega) hok (fun x _=>((hc x).frame hs).perm List.perm_append_comm)) jA (ZT rfl) ?_
  rintro _ M1 _ ⟨hM1,rfl⟩;subst M1
  rw [h]
  iterate 10 refine Stp ?_
  refine ZW rfl (cT fun hc1=>?_) (cF fun hc1=>?_)
  ·simp only [Zs.eta,ZO.eta,ZJ.eta,ZF.eta,Ym.eta,Yv.eta,Yy.eta,Yq.eta,ZN.eta,YF.eta,ZU.eta] at hc1
   iterate 8 refine Stp ?_
   refine ZV (.inr rfl) (.tmp rfl .nil) (fun w hw=>?_)
   exact ⟨_,M,hs++Hc,rfl,Mem.le.refl M,hw.c,rfl,hs,rfl,by rw [kept_none h];exact ho⟩
  ·simp only [Zs.eta,ZO.eta,ZJ.eta,ZF.eta,Ym.eta,Yv.eta,Yy.eta,Yq.eta,ZN.eta,YF.eta,ZU.eta] at hc1
   (exfalso;simp [eqX] at hc1;done)
theorem DeleteFP_yes (M:Mem) (Hc:Hp) (b:Nat) (c:Nat) (l:List Zs) (hs:Hp) (ho:OSl 38 21 (.slice (some ⟨b,0,none⟩) l.length c) hs (l.map Zs.segs)) (bl:l.length≤1000000) (g:FuncId) (caps:List Value) (p:Zs→Bool) (hok:okFn Tryz.prog g=true) (hc:∀ x:Zs,Fo Tryz.prog g ([x.enc]++caps) M Hc (fun M' v=>M'=M∧v=.bool (p x))) (i0:Nat) (h:idxF p l=(i0:Nat)) (hi0:i0<l.length) (hk0:kept p (l.take (i0+1))=l.take i0):Fh Tryz.prog 210 [.slice (some ⟨b,0,none⟩) l.length c,.func (.func g) #[] caps.toArray] M (hs++Hc) (fun M' v Hout=>M'=M∧∃ hs',Hout=hs'++Hc∧OSl 38 21 v hs' ((kept p l).map Zs.segs)):=by
  refine YR (fun H=>hs++(Hc++H)) (fun _=>List.append_assoc _ _ _) Tryz.func210 rfl Tryz.ntmps210 rfl ?_;intro H
  iterate 9 refine Stp ?_
  refine X_fo rfl rfl F.ok136 rfl (IndexFP_rd M (hs++Hc) ⟨some ⟨b,0,none⟩,c,l⟩ g caps p ((ho.rd M).app Hc) (by show l.length≤9223372036854775807;omega) hok (fun x _=>((hc x).frame hs).perm List.perm_append_comm)) jA (ZT rfl) ?_
  rintro _ M1 _ ⟨hM1,rfl⟩;subst M1
  rw [h]
  iterate 10 refine Stp ?_
  refine ZW rfl (fun hc1=>?_) (fun hc1=>?_)
  ·skip
   replace hc1:=dT hc1
   (exfalso;omega)
  ·skip
   replace hc1:=dF hc1
   iterate 6 refine Stp ?_
   refine YO rfl rfl rfl rfl rfl yA rfl ?_
   iterate 4 refine Stp ?_
   refine Y_pk [5,6,4,0,1] ?_;refine Wt (Hin:=hs) (.succ (.succ .zero)) jA (fun (j:Nat) M1 h1 z=>∃ (i:Nat) (w:List Zs),M1=M∧z=[(5,.int .i64 (i:Int)),(6,.int .i64 (j:Int))]∧i<j∧j≤l.length∧w.length=l.length∧w.take i=kept p (l.take j)∧w.drop j=l.drop j∧i=(kept p (l.take j)).length∧OSl 38 21 (.slice (some ⟨b,0,none⟩) l.length c) h1 (w.map Zs.segs)) (fun j=>l.length-j) (i0+1) (⟨i0,l,rfl,rfl,by omega,by omega,rfl,hk0.symm,rfl,by rw [hk0];simp;omega,ho⟩) ?_
   rintro j M1 h1 z hm1 ⟨i,w,hM1,rfl,hij,hj,hwl,hw1,hw2,hi9,ho1⟩
   subst hM1
   have hnw:(w.map Zs.segs).length=w.length:=List.length_map ..
   iterate 5 refine Stp ?_
   refine YA F.elem39 ?_
   iterate 3 refine Stp ?_
   refine ZW rfl (fun hc2=>?_) (fun hc2=>?_)
   ·skip
    replace hc2:=dT hc2
    iterate 8 refine Stp ?_
    refine Ys rfl rfl rfl rfl F.elem39 jR jC zA rfl ?_;refine Vo rfl rfl rfl jE jA yC F.lay38 rfl rfl rfl ?_
    refine Yz F.zero38 ?_;intro b3
    refine Ya F.lay38 ?_
    iterate 5 refine Stp ?_
    refine Zy F.lay38 ?_;refine X_foV rfl rfl rfl hok rfl rfl (hc w[j]) jA (ZT rfl) ?_
    rintro _ M1 _ ⟨hM1,rfl⟩;subst M1
    iterate 3 refine Stp ?_
    refine ZW rfl (fun hc4=>?_) (fun hc4=>?_)
    ·simp only [Bool.not_eq_true',Bool.not_eq_false'] at hc4
     have hP:=hc4
     iterate 4 refine Stp ?_
     refine Zy F.lay38 ?_;refine Ys rfl rfl rfl rfl F.elem39 jR jC zA rfl ?_
     refine UJ (b:=b) (j:=i) rfl rfl rfl rfl jG (Xw rfl (Wb Xx)) F.lay38 rfl rfl ho1 jA jC ?_;intro hs7 ho7
     replace ho7:OSl 38 21 (.slice (some ⟨b,0,none⟩) l.length c) hs7 ((w.set i w[j]).map Zs.segs):=by rw [List.map_set];exact ho7.aZ jY
     iterate 4 refine Stp ?_
     refine YO rfl rfl rfl rfl rfl yA rfl ?_
     iterate 6 refine Stp ?_
     refine YO rfl rfl rfl rfl rfl yA rfl ?_
     iterate 2 refine Stp ?_
     refine Xa (a':=[(5,_),(6,_)]) (j+1) (hs7) (.cons (k:=5) rfl (.cons (k:=6) rfl (.cons (k:=4) rfl (.cons (k:=0) rfl (.cons (k:=1) rfl (.nil)))))) jP (fun w hw=>by first|exact hw|exact hw.c) ?_ ?_
     ·have hd9:=drop_at hwl (by omega:j<l.length) hw2
      have hp9:p l[j]=false:=by rw [← hd9];simpa using hP
      obtain ⟨e1,e2,e3⟩:=keep_put hwl hij (by omega:j<l.length) hw1 hw2
      exact ⟨i+1,w.set i l[j],rfl,rfl,by omega,by omega,e1,by rw [e2,filt_step (by omega:j<l.length),hp9];rfl,e3,by rw [filt_step (by omega:j<l.length),hp9];simp;omega,by rw [← hd9];exact ho7⟩
     ·omega
    ·simp only [Bool.not_eq_true',Bool.not_eq_false'] at hc4
     have hP:=hc4
     iterate 5 refine Stp ?_
     refine YO rfl rfl rfl rfl rfl yA rfl ?_
     iterate 2 refine Stp ?_
     refine Xa (a':=[(5,_),(6,_)]) (j+1) (h1) (.cons (k:=5) rfl (.cons (k:=6) rfl (.cons (k:=4) rfl (.cons (k:=0) rfl (.cons (k:=1) rfl (.nil)))))) jP (fun w hw=>by first|exact hw|exact hw.c) ?_ ?_
     ·have hd9:=drop_at hwl (by omega:j<l.length) hw2
      have hp9:p l[j]=true:=by rw [← hd9];simpa using hP
      exact ⟨i,w,rfl,rfl,by omega,by omega,hwl,by rw [hw1,filt_step (by omega:j<l.length),hp9];rfl,by have:=congrArg (List.drop 1) hw2;simpa [List.drop_drop] using this,by rw [filt_step (by omega:j<l.length),hp9];simpa using hi9,ho1⟩
     ·omega
   ·skip
    replace hc2:=dF hc2
    iterate 9 refine Stp ?_
    obtain rfl:j=l.length:=by omega
    rw [List.take_length] at hw1 hi9
    have hcc:=ho1.caps
    refine WK rfl rfl rfl (.some (k:=i) rfl rfl) .none .none F.elem39 jU jZ jZ jU (show WJ (some ⟨b,0,none⟩) 21 i l.length c=.slice (some ⟨b,0+i * 21,none⟩) (l.length-i) (c-i) from Us jC) rfl ?_
    have hcut:OSl 38 21 (.slice (some ⟨b,0,none⟩) ((kept p l).map Zs.segs).length c) h1 ((kept p l).map Zs.segs):=(by have h9:=OSl.cut (k:=i) (ho1.aZ rfl) jC;rw [← List.map_take,hw1] at h9;exact h9.aZ rfl)
    have hkl:((kept p l).map Zs.segs).length=i:=by simp;omega
    refine X_clear_own rfl rfl rfl rfl rfl F.elem39 F.zero38 (VN rfl) (flat_all (Xw rfl (Wb Xx))) hcut jA jC jC putE_none ?_;intro hs8 ho8
    iterate 6 refine Stp ?_
    refine WK rfl rfl rfl .none (.some (k:=i) rfl rfl) .none F.elem39 jU jZ jZ jU (show WJ (some ⟨b,0,none⟩) 21 0 i c=.slice (some ⟨b,0,none⟩) i c from pieceV_zero) rfl ?_
    iterate 4 refine Stp ?_
    refine ZV (.inr rfl) (.tmp rfl .nil) (fun w hw=>?_)
    exact ⟨_,_,hs8++Hc,rfl,Mem.le.refl _,hw.c,rfl,hs8,rfl,ho8.aZ jC⟩
theorem DeleteFP_ok (M:Mem) (Hc:Hp) (a:Option Addr) (c:Nat) (l:List Zs) (hs:Hp) (ho:OSl 38 21 (.slice a l.length c) hs (l.map Zs.segs)) (bl:l.length≤1000000) (g:FuncId) (caps:List Value) (p:Zs→Bool) (hok:okFn Tryz.prog g=true) (hc:∀ x:Zs,Fo Tryz.prog g ([x.enc]++caps) M Hc (fun M' v=>M'=M∧v=.bool (p x))):Fh Tryz.prog 210 [.slice a l.length c,.func (.func g) #[] caps.toArray] M (hs++Hc) (fun M' v Hout=>M'=M∧∃ hs',Hout=hs'++Hc∧OSl 38 21 v hs' ((kept p l).map Zs.segs)):=by
  by_cases h:idxF p l=-1
  ·exact DeleteFP_no M Hc a c l hs ho bl g caps p hok hc h
  ·obtain ⟨i0,h1,h2,h3,h4⟩:=idxF_some h
   obtain ⟨b,rfl⟩:=ho.someB jC
   exact DeleteFP_yes M Hc b c l hs ho bl g caps p hok hc i0 h1 h2 h3
theorem F.ok209:okFn Tryz.prog 209=true:=by kernel_rfl
theorem F.ok210:okFn Tryz.prog 210=true:=by kernel_rfl
theorem F.ok89:okFn Tryz.prog 89=true:=by kernel_rfl
theorem gone_ok (M:Mem) (b:Nat) (a:Int) (p:Zs):Fo Tryz.prog 209 ([p.enc]++[.pointer (some ⟨b,0,none⟩)]) M [(b,rowO [.one (.int .i64 a)] 3)] (fun M' v=>M'=M∧v=.bool (decide (p.addr=a))):=by
  obtain ⟨YI,p_id⟩:=p
  refine Vu Tryz.func209 rfl Tryz.ntmps209 rfl ?_;intro H
  iterate 2 refine Stp ?_
  refine Xq ?_;intro b1
  iterate 5 refine Stp ?_
  refine Zi F.foff38_0 ?_
  iterate 2 refine Zy F.lay3 ?_
  iterate 5 refine Stp ?_
  refine ZV (.inr rfl) (.tmp rfl .nil) (fun w hw=>?_)
  refine ⟨_,M,rfl,Mem.le.refl M,hw.c,rfl,?_⟩
  clear hw
  rfl
theorem Forget_ok (M:Mem) (t:ZO) (addr:Int) (ht0:ZO.ok M t) (hbig:t.succ.l.length≤40∧t.fingers.l.length≤200):Esp.Fn Tryz.prog 177 [t.enc,.int .i64 addr] M (fun M' v=>TabIs M' v (XK t.tb addr)):=by
  obtain ⟨⟨Ye,Yn⟩,⟨Yp,YC⟩,⟨Yx,Yw,Yc⟩,⟨Yi,Yh,ZI⟩⟩:=t
  have Xc:SlK M Zs.segs 21 ⟨Yx,Yw,Yc⟩:=ht0.h0
  have s_t_succ:SlM M Yx (Yc.map Zs.segs) 21:=Xc.h1
  have n_t_succ:(Yc.map Zs.segs).length=Yc.length:=List.length_map ..
  have m_t_succ:Yc.length≤9223372036854775807:=Xc.h2
  have c_t_succ:Yc.length≤Yw:=Xc.h3
  have YG:SlK M Zs.segs 21 ⟨Yi,Yh,ZI⟩:=ht0.h1
  have Vz:SlM M Yi (ZI.map Zs.segs) 21:=YG.h1
  have n_t_fingers:(ZI.map Zs.segs).length=ZI.length:=List.length_map ..
  have VC:ZI.length≤9223372036854775807:=YG.h2
  have c_t_fingers:ZI.length≤Yh:=YG.h3
  simp only at hbig
  refine WF Tryz.func177 rfl Tryz.ntmps177 rfl ?_;intro H
  iterate 2 refine Stp ?_
  refine Xq ?_;intro b1
  refine Xq ?_;intro b2
  refine Yz F.zero41 ?_;intro b3
  iterate 4 refine Stp ?_
  refine VL rfl rfl rfl rfl rfl ?_
  iterate 7 refine Stp ?_
  refine Zi F.foff41_1 ?_;refine Zy F.lay38 ?_;refine X_foV rfl rfl rfl F.ok209 rfl rfl (gone_ok _ b2 addr ⟨Yp,YC⟩) jA (ZT rfl) ?_
  rintro _ M1 _ ⟨hM1,rfl⟩;subst M1
  iterate 2 refine Stp ?_
  refine ZW rfl (cT fun hc4=>?_) (cF fun hc4=>?_)
  ·simp only [Zs.eta,ZO.eta,ZJ.eta,ZF.eta,Ym.eta,Yv.eta,Yy.eta,Yq.eta,ZN.eta,YF.eta,ZU.eta] at hc4
   refine Stp ?_;refine X_fs rfl rfl F.ok78 rfl (Vp _) rfl ?_
   rintro _ rfl
   refine XI 13 rfl (show _=aggV [.one (.int .i64 (-1)),Yb 0] from rfl) ?_;refine Zi F.foff41_1 ?_;refine Ya F.lay38 ?_
   iterate 4 refine Stp ?_
   refine Zi F.foff41_2 ?_;refine Zy F.lay39 ?_;refine WE rfl rfl F.ok89 rfl (CloneP_ok M Yx Yw Yc Xc jC) jA (fun _ _ _ hm hw=>(hw.lower jV).c) (ZT rfl) ?_
   rintro v8 M1 hs8 hm1 ⟨hM1,ho8⟩;subst M1
   obtain ⟨ad8,cp8,rfl⟩:=ho8.valL
   refine Yk ?_;refine X_fhR2 rfl rfl F.ok210 rfl (DeleteFP_ok M [(b2,_)] ad8 cp8 Yc hs8 ho8 jC 209 [_] (fun p=>decide (p.addr=addr)) F.ok209 (fun x=>gone_ok M b2 addr x)) jA jA (by rintro v M9 _ w hm ⟨rfl,hs9,rfl,_⟩ hw;exact hw.c) (ZT rfl) ?_
   rintro v9 M1 _ hm1 ⟨hM1,hs9,rfl,ho9⟩;subst M1
   obtain ⟨ad9,cp9,rfl⟩:=ho9.valL
   simp only [List.append_assoc,List.cons_append,List.nil_append]
   refine Zi F.foff41_2 ?_;refine Ya F.lay39 ?_
   iterate 4 refine Stp ?_
   refine Zi F.foff41_3 ?_;refine Zy F.lay39 ?_;refine WE rfl rfl F.ok89 rfl (CloneP_ok M Yi Yh ZI YG jC) jA (fun _ _ _ hm hw=>(hw.lower jV).c) (ZT rfl) ?_
   rintro v7 M1 hs7 hm1 ⟨hM1,ho7⟩;subst M1
   obtain ⟨ad7,cp7,rfl⟩:=ho7.valL
   refine Zi F.foff41_3 ?_;refine Ya F.lay39 ?_
   iterate 5 refine Stp ?_
   refine Zi F.foff41_3 ?_;refine Zy F.lay39 ?_;refine YA F.elem39 ?_
   iterate 4 refine Stp ?_
   refine Y_pk [28,27,26,5,4,2] ?_;refine Wt (Hin:=hs7) (.succ .zero) jA (fun (k:Nat) M1 h1 z=>∃ (w:List Zs),M1=M∧z=[(28,.int .i64 (k:Int))]∧k≤ZI.length∧w.length=ZI.length∧w.take k=(ZI.take k).map (gone1 addr)∧w.drop k=ZI.drop k∧OSl 38 21 (.slice ad7 ZI.length cp7) h1 (w.map Zs.segs)) (fun k=>ZI.length-k) (0) (⟨ZI,rfl,rfl,by omega,rfl,rfl,rfl,ho7⟩) ?_
   rintro k M1 h1 z hm1 ⟨w,hM1,rfl,hk,hwl,hw1,hw2,ho1⟩
   subst hM1
   have hnw:(w.map Zs.segs).length=w.length:=List.length_map ..
   iterate 6 refine Stp ?_
   refine ZW rfl (cT fun hc5=>?_) (cF fun hc5=>?_)
   ·iterate 7 refine Stp ?_
    refine Ys rfl rfl rfl rfl F.elem39 jR jC yL rfl ?_;refine Vo rfl rfl rfl jE jA yC F.lay38 rfl rfl rfl ?_
    refine Yz F.zero38 ?_;intro b6
    refine VO ?_;refine Ya F.lay38 ?_
    iterate 5 refine Stp ?_
    refine Zy F.lay38 ?_;refine X_foV rfl rfl rfl F.ok209 rfl rfl (gone_ok _ b2 addr w[k]) jA (ZT rfl) ?_
    rintro _ M1 _ ⟨hM1,rfl⟩;subst M1
    iterate 2 refine Stp ?_
    refine ZW rfl (cT fun hc7=>?_) (cF fun hc7=>?_)
    ·refine Yg (l:=[0,1,2,3,4,5]) #[0,1,0,0,15,31] _ rfl jI jI St.drawn (fun _ h=>h) ?_
     refine Zi F.foff41_3 ?_;refine Zy F.lay39 ?_;refine Yk ?_;refine X_fs rfl rfl F.ok78 rfl (Vp _) rfl ?_
     rintro _ rfl
     refine XI 39 rfl (show _=aggV [.one (.int .i64 (-1)),Yb 0] from rfl) ?_;refine Ys rfl rfl rfl rfl F.elem39 jR jC yL rfl ?_
     obtain ⟨b6,rfl⟩:=ho1.someB jC
     refine UJ (b:=b6) (j:=k) rfl rfl rfl rfl jG (Xw rfl (Wb Xx)) F.lay38 rfl rfl ho1 jA jC ?_;intro hs6 ho6
     replace ho6:OSl 38 21 (.slice (some ⟨b6,0,none⟩) ZI.length cp7) hs6 ((w.set k YD).map Zs.segs):=by rw [List.map_set];exact ho6.aZ jY
     iterate 4 refine Stp ?_
     refine YO rfl rfl rfl rfl rfl yA rfl ?_
     iterate 2 refine Stp ?_
     refine Xa (a':=[(28,_)]) (k+1) (hs6) (.cons (k:=28) rfl (.cons (k:=27) rfl (.cons (k:=26) rfl (.cons (k:=5) rfl (.cons (k:=4) rfl (.cons (k:=2) rfl (.nil))))))) jP (fun w hw=>by first|exact hw|exact hw.c) ?_ ?_
     ·have hd9:=drop_at hwl (by omega:k<ZI.length) hw2
      obtain ⟨e1,e2,e3⟩:=turn_step (f:=gone1 addr) (x:=YD) hwl (by omega:k<ZI.length) hw1 hw2 (by unfold gone1;rw [if_pos (by rw [← hd9];assumption)])
      exact ⟨w.set k YD,rfl,rfl,by omega,e1,e2,e3,ho6⟩
     ·omega
    ·iterate 4 refine Stp ?_
     refine YO rfl rfl rfl rfl rfl yA rfl ?_
     iterate 2 refine Stp ?_
     refine Xa (a':=[(28,_)]) (k+1) (h1) (.cons (k:=28) rfl (.cons (k:=27) rfl (.cons (k:=26) rfl (.cons (k:=5) rfl (.cons (k:=4) rfl (.cons (k:=2) rfl (.nil))))))) jP (fun w hw=>by first|exact hw|exact hw.c) ?_ ?_
     ·have hd9:=drop_at hwl (by omega:k<ZI.length) hw2
      obtain ⟨e2,e3⟩:=turn_stay (f:=gone1 addr) hwl (by omega:k<ZI.length) hw1 hw2 (by unfold gone1;rw [if_neg (by rw [← hd9];assumption)])
      exact ⟨w,rfl,rfl,by omega,hwl,e2,e3,ho1⟩
     ·omega
   ·iterate 7 refine Stp ?_
    refine Zy F.lay41 ?_;refine Ya F.lay41 ?_
    iterate 3 refine Stp ?_
    refine ZV (.inr rfl) (.cell rfl jB F.lay41 rfl rfl .nil) (fun w hw=>?_)
    obtain rfl:k=ZI.length:=by omega
    rw [List.take_length,List.take_of_length_le jC] at hw1
    subst hw1
    obtain ⟨M9,s1,g1,g2,g3,g4,g5⟩:=OSl.freezeK (f:=Zs.segs) (H:=h1++H) ho9 (hw.c)
    obtain ⟨M8,s2,j1,j2,j3,j4,j5⟩:=OSl.freezeK (f:=Zs.segs) ho1 g2
    exact ⟨_,M8,rfl,g1.trans j1,j2,VU g3 j3 (g5.mono j1) j5 (by rw [g4,j4,kept_ne];unfold XK ZO.tb;simp only;rw [if_pos jE];rfl)⟩
  ·simp only [Zs.eta,ZO.eta,ZJ.eta,ZF.eta,Ym.eta,Yv.eta,Yy.eta,Yq.eta,ZN.eta,YF.eta,ZU.eta] at hc4
   iterate 4 refine Stp ?_
   refine Zi F.foff41_2 ?_;refine Zy F.lay39 ?_;refine WE rfl rfl F.ok89 rfl (CloneP_ok M Yx Yw Yc Xc jC) jA (fun _ _ _ hm hw=>(hw.lower jV).c) (ZT rfl) ?_
   rintro v8 M1 hs8 hm1 ⟨hM1,ho8⟩;subst M1
   obtain ⟨ad8,cp8,rfl⟩:=ho8.valL
   refine Yk ?_;refine X_fhR2 rfl rfl F.ok210 rfl (DeleteFP_ok M [(b2,_)] ad8 cp8 Yc hs8 ho8 jC 209 [_] (fun p=>decide (p.addr=addr)) F.ok209 (fun x=>gone_ok M b2 addr x)) jA jA (by rintro v M9 _ w hm ⟨rfl,hs9,rfl,_⟩ hw;exact hw.c) (ZT rfl) ?_
   rintro v9 M1 _ hm1 ⟨hM1,hs9,rfl,ho9⟩;subst M1
   obtain ⟨ad9,cp9,rfl⟩:=ho9.valL
   simp only [List.append_assoc,List.cons_append,List.nil_append]
   refine Zi F.foff41_2 ?_;refine Ya F.lay39 ?_
   iterate 4 refine Stp ?_
   refine Zi F.foff41_3 ?_;refine Zy F.lay39 ?_;refine WE rfl rfl F.ok89 rfl (CloneP_ok M Yi Yh ZI YG jC) jA (fun _ _ _ hm hw=>(hw.lower jV).c) (ZT rfl) ?_
   rintro v7 M1 hs7 hm1 ⟨hM1,ho7⟩;subst M1
   obtain ⟨ad7,cp7,rfl⟩:=ho7.valL
   refine Zi F.foff41_3 ?_;refine Ya F.lay39 ?_
   iterate 5 refine Stp ?_
   refine Zi F.foff41_3 ?_;refine Zy F.lay39 ?_;refine YA F.elem39 ?_
   iterate 4 refine Stp ?_
   refine Y_pk [28,27,26,5,4,2] ?_;refine Wt (Hin:=hs7) (.succ .zero) jA (fun (k:Nat) M1 h1 z=>∃ (w:List Zs),M1=M∧z=[(28,.int .i64 (k:Int))]∧k≤ZI.length∧w.length=ZI.length∧w.take k=(ZI.take k).map (gone1 addr)∧w.drop k=ZI.drop k∧OSl 38 21 (.slice ad7 ZI.length cp7) h1 (w.map Zs.segs)) (fun k=>ZI.length-k) (0) (⟨ZI,rfl,rfl,by omega,rfl,rfl,rfl,ho7⟩) ?_
   rintro k M1 h1 z hm1 ⟨w,hM1,rfl,hk,hwl,hw1,hw2,ho1⟩
   subst hM1
   have hnw:(w.map Zs.segs).length=w.length:=List.length_map ..
   iterate 6 refine Stp ?_
   refine ZW rfl (cT fun hc8=>?_) (cF fun hc8=>?_)
   ·iterate 7 refine Stp ?_
    refine Ys rfl rfl rfl rfl F.elem39 jR jC yL rfl ?_;refine Vo rfl rfl rfl jE jA yC F.lay38 rfl rfl rfl ?_
    refine Yz F.zero38 ?_;intro b9
    refine VO ?_;refine Ya F.lay38 ?_
    iterate 5 refine Stp ?_
    refine Zy F.lay38 ?_;refine X_foV rfl rfl rfl F.ok209 rfl rfl (gone_ok _ b2 addr w[k]) jA (ZT rfl) ?_
    rintro _ M1 _ ⟨hM1,rfl⟩;subst M1
    iterate 2 refine Stp ?_
    refine ZW rfl (cT fun hc10=>?_) (cF fun hc10=>?_)
    ·refine Yg (l:=[0,1,2,3,4,5]) #[0,1,0,0,15,31] _ rfl jI jI St.drawn (fun _ h=>h) ?_
     refine Zi F.foff41_3 ?_;refine Zy F.lay39 ?_;refine Yk ?_;refine X_fs rfl rfl F.ok78 rfl (Vp _) rfl ?_
     rintro _ rfl
     refine XI 39 rfl (show _=aggV [.one (.int .i64 (-1)),Yb 0] from rfl) ?_;refine Ys rfl rfl rfl rfl F.elem39 jR jC yL rfl ?_
     obtain ⟨b6,rfl⟩:=ho1.someB jC
     refine UJ (b:=b6) (j:=k) rfl rfl rfl rfl jG (Xw rfl (Wb Xx)) F.lay38 rfl rfl ho1 jA jC ?_;intro hs6 ho6
     replace ho6:OSl 38 21 (.slice (some ⟨b6,0,none⟩) ZI.length cp7) hs6 ((w.set k YD).map Zs.segs):=by rw [List.map_set];exact ho6.aZ jY
     iterate 4 refine Stp ?_
     refine YO rfl rfl rfl rfl rfl yA rfl ?_
     iterate 2 refine Stp ?_
     refine Xa (a':=[(28,_)]) (k+1) (hs6) (.cons (k:=28) rfl (.cons (k:=27) rfl (.cons (k:=26) rfl (.cons (k:=5) rfl (.cons (k:=4) rfl (.cons (k:=2) rfl (.nil))))))) jP (fun w hw=>by first|exact hw|exact hw.c) ?_ ?_
     ·have hd9:=drop_at hwl (by omega:k<ZI.length) hw2
      obtain ⟨e1,e2,e3⟩:=turn_step (f:=gone1 addr) (x:=YD) hwl (by omega:k<ZI.length) hw1 hw2 (by unfold gone1;rw [if_pos (by rw [← hd9];assumption)])
      exact ⟨w.set k YD,rfl,rfl,by omega,e1,e2,e3,ho6⟩
     ·omega
    ·iterate 4 refine Stp ?_
     refine YO rfl rfl rfl rfl rfl yA rfl ?_
     iterate 2 refine Stp ?_
     refine Xa (a':=[(28,_)]) (k+1) (h1) (.cons (k:=28) rfl (.cons (k:=27) rfl (.cons (k:=26) rfl (.cons (k:=5) rfl (.cons (k:=4) rfl (.cons (k:=2) rfl (.nil))))))) jP (fun w hw=>by first|exact hw|exact hw.c) ?_ ?_
     ·have hd9:=drop_at hwl (by omega:k<ZI.length) hw2
      obtain ⟨e2,e3⟩:=turn_stay (f:=gone1 addr) hwl (by omega:k<ZI.length) hw1 hw2 (by unfold gone1;rw [if_neg (by rw [← hd9];assumption)])
      exact ⟨w,rfl,rfl,by omega,hwl,e2,e3,ho1⟩
     ·omega
   ·iterate 7 refine Stp ?_
    refine Zy F.lay41 ?_;refine Ya F.lay41 ?_
    iterate 3 refine Stp ?_
    refine ZV (.inr rfl) (.cell rfl jB F.lay41 rfl rfl .nil) (fun w hw=>?_)
    obtain rfl:k=ZI.length:=by omega
    rw [List.take_length,List.take_of_length_le jC] at hw1
    subst hw1
    obtain ⟨M9,s1,g1,g2,g3,g4,g5⟩:=OSl.freezeK (f:=Zs.segs) (H:=h1++H) ho9 (hw.c)
    obtain ⟨M8,s2,j1,j2,j3,j4,j5⟩:=OSl.freezeK (f:=Zs.segs) ho1 g2
    exact ⟨_,M8,rfl,g1.trans j1,j2,VU g3 j3 (g5.mono j1) j5 (by rw [g4,j4,kept_ne];unfold XK ZO.tb;simp only;rw [if_neg jE];rfl)⟩
theorem F.ok100:okFn Tryz.prog 100=true:=by kernel_rfl
theorem Done_ok (M:Mem) (t:ZO) (id:Plc) (ht0:ZO.ok M t):Fs Tryz.prog 58 [t.enc,aggV [Yb id]] M (fun v=>v= (ofPB (Th t.tb id))):=by
  obtain ⟨⟨Ye,Yn⟩,⟨Yp,YC⟩,⟨Yx,Yw,Yc⟩,⟨Yi,Yh,ZI⟩⟩:=t
  have Xc:SlK M Zs.segs 21 ⟨Yx,Yw,Yc⟩:=ht0.h0
  have s_t_succ:SlM M Yx (Yc.map Zs.segs) 21:=Xc.h1
  have n_t_succ:(Yc.map Zs.segs).length=Yc.length:=List.length_map ..
  have m_t_succ:Yc.length≤9223372036854775807:=Xc.h2
  have c_t_succ:Yc.length≤Yw:=Xc.h3
  have YG:SlK M Zs.segs 21 ⟨Yi,Yh,ZI⟩:=ht0.h1
  have Vz:SlM M Yi (ZI.map Zs.segs) 21:=YG.h1
  have n_t_fingers:(ZI.map Zs.segs).length=ZI.length:=List.length_map ..
  have VC:ZI.length≤9223372036854775807:=YG.h2
  have c_t_fingers:ZI.length≤Yh:=YG.h3
  refine Xe Tryz.func58 rfl Tryz.ntmps58 rfl ?_;intro H
  iterate 2 refine Stp ?_
  refine Xq ?_;intro b1
  refine Xq ?_;intro b2
  refine Yz F.zero38 ?_;intro b3
  iterate 5 refine Stp ?_
  refine Zy F.lay41 ?_;refine X_fs rfl rfl F.ok99 rfl (First_ok _ ⟨⟨_,_⟩,⟨_,_⟩,⟨_,_,_⟩,⟨_,_,_⟩⟩ jE) rfl ?_
  rintro _ rfl
  refine Yz F.zero38 ?_;intro b4
  refine Ya F.lay38 ?_
  iterate 3 refine Stp ?_
  refine Yg (l:=[0,1,2,3,4,5,6,7,8,9]) #[0,0,2,6,0,0,32,126,255,511] _ rfl jI jI St.drawn (fun _ h=>h) ?_;refine Zy F.lay38 ?_;refine Zi F.foff41_0 ?_;refine Zi F.foff38_1 ?_
  iterate 2 refine Zy F.lay36 ?_
  refine Zi F.foff38_1 ?_;refine Zy F.lay36 ?_;refine X_fs rfl rfl F.ok100 rfl (Half_ok _ _ _ _) rfl ?_
  rintro _ rfl
  refine Ya F.lay38 ?_
  iterate 4 refine Stp ?_
  refine ZV (.inr rfl) (.cell rfl jB F.lay38 rfl rfl (.tmp rfl .nil)) (fun w hw=>?_)
  refine ⟨_,rfl,(hw.c),?_⟩
  clear hw
  rfl
theorem F.lay25:lay Tryz.prog 25=some (false,1):=by kernel_rfl
theorem F.ok147:okFn Tryz.prog 147=true:=by kernel_rfl
theorem F.ok148:okFn Tryz.prog 148=true:=by kernel_rfl
theorem F.ok223:okFn Tryz.prog 223=true:=by kernel_rfl
theorem F.ok230:okFn Tryz.prog 230=true:=by kernel_rfl
theorem F.zero25:XW Tryz.prog 25=some ((.int .i64 0)):=by kernel_rfl
theorem F.zero3:XW Tryz.prog 3=some ((.int .i64 0)):=by kernel_rfl
theorem starts_ok (M:Mem) (sa:Int) (si:Plc) (pa:Int) (pi:Plc) (a1:Option Addr) (n1 c1:Nat) (a2:Option Addr) (n2 c2:Nat) (k:Int):Esp.Fn Tryz.prog 223 [aggV [.one (.int .i64 sa),Yb si,.one (.int .i64 pa),Yb pi,.one (.slice a1 n1 c1),.one (.slice a2 n2 c2)],.int .i64 k] M (fun M' v=>∃ q1 q2,v=.func (.func 230) #[] #[.pointer (some ⟨q1,0,none⟩),.pointer (some ⟨q2,0,none⟩)]∧M' q1=some (rowO [.one (.int .i64 k)] 3)∧M' q2=some (rowO [.one (.int .i64 sa),Yb si,.one (.int .i64 pa),Yb pi,.one (.slice a1 n1 c1),.one (.slice a2 n2 c2)] 41)):=by
  refine WF Tryz.func223 rfl Tryz.ntmps223 rfl ?_;intro H
  iterate 2 refine Stp ?_
  refine Xq ?_;intro b1
  refine Xq ?_;intro b2
  iterate 5 refine Stp ?_
  refine VL rfl rfl rfl rfl rfl ?_
  iterate 4 refine Stp ?_
  refine ZV (.inr rfl) (.tmp rfl .nil) (fun w hw=>?_)
  obtain ⟨g1,g2⟩:=hw.freeze
  obtain ⟨g3,g4⟩:=g2.freeze
  exact ⟨_,_,rfl,g1.trans g3,g4,_,_,rfl,Mem.get_of (Mem.add_self _ _ _) g3,Mem.add_self _ _ _⟩
theorem starts_seq (M:Mem) (sa:Int) (si:Plc) (pa:Int) (pi:Plc) (a1:Option Addr) (n1 c1:Nat) (a2:Option Addr) (n2 c2:Nat) (kn:Nat) (hkn:kn<160) (q1 q2:Nat) (h1:M q1=some (rowO [.one (.int .i64 (kn:Int))] 3)) (h2:M q2=some (rowO [.one (.int .i64 sa),Yb si,.one (.int .i64 pa),Yb pi,.one (.slice a1 n1 c1),.one (.slice a2 n2 c2)] 41)):Seqs Tryz.prog 230 [.pointer (some ⟨q1,0,none⟩),.pointer (some ⟨q2,0,none⟩)] (fun x:Nat×Plc=>[.int .i64 (x.1:Int),aggV [Yb x.2]]) (UM si kn) M []:=by
  intro lp J Jx hR M0 Jb G w hm0 hJ hw
  refine enter (S:=St M0 (Jb++G)) Tryz.func230 rfl Tryz.ntmps230 rfl hw ?_
  iterate 2 refine Stp ?_
  refine X_load_mem rfl rfl rfl yP F.lay3 rfl rfl rfl ?_
  iterate 4 refine Stp ?_
  refine Y_pk [4,0,2] ?_;refine Wt (Hin:=Jb) (.succ .zero) jA (fun (k:Nat) M9 h1 z=>z=[(4,.int .i64 (k:Int))]∧kn≤k∧k≤160∧J ((List.range' kn (k-kn)).map fun j=>(j,si+powP j)) M9 h1) (fun k=>160-k) (kn) (⟨rfl,by omega,by omega,by rw [Nat.sub_self];exact hJ⟩) ?_
  rintro k M1 h1 z hm1 ⟨rfl,hk1,hk,hJ1⟩
  iterate 7 refine Stp ?_
  refine ZW rfl (cT fun hc1=>?_) (cF fun hc1=>?_)
  ·iterate 7 refine Stp ?_
   refine X_fs rfl rfl F.ok147 rfl (Power_ok_in _ k jC) rfl ?_
   rintro _ rfl
   iterate 3 refine Stp ?_
   refine Yz F.zero36 ?_;intro b2
   refine Ya F.lay36 ?_
   iterate 4 refine Stp ?_
   refine Wh (l:=[0,1,2,3,4,5,6,7,8]) (Hin:=h1) jA rfl ?_
   iterate 2 refine Stp ?_
   refine Zi F.foff41_0 ?_;refine Zi F.foff38_1 ?_;refine X_load_mem rfl rfl rfl yP F.lay36 rfl rfl rfl ?_;refine Zy F.lay36 ?_;refine X_fs rfl rfl F.ok148 rfl (Plus_ok _ _ _) rfl ?_
   rintro _ rfl
   refine X_yield (x:=(k,si+powP k)) (pre:=((List.range' kn (k-kn)).map fun j=>(j,si+powP j))) (post:=UM si (k+1)) (Hb:=h1) rfl rfl rfl rfl rfl hR (startsL_at jC jC) (hm0.trans hm1) hJ1 jA rfl (fun _ _ _ hm hw=>(hw.lower hm).c) rfl ?_ ?_
   ·intro M2 Jb2 hm2 hJ2
    iterate 9 refine Stp ?_
    refine YO rfl rfl rfl rfl rfl yA rfl ?_
    iterate 2 refine Stp ?_
    refine Xa (a':=[(4,_)]) (k+1) (Jb2) (.cons (k:=4) rfl (.cons (k:=0) rfl (.cons (k:=2) rfl (.nil)))) (hm1.trans hm2) (fun w hw=>by first|exact hw|exact hw.c) ?_ ?_
    ·exact ⟨rfl,by omega,by omega,by rw [startsL_pre jC];exact hJ2⟩
    ·omega
   ·intro M2 Jb2 hm2 hJ2
    iterate 9 refine Stp ?_
    refine ZV (.inr rfl) (.nil) (fun w hw=>?_)
    exact ⟨_,M2,Jb2,rfl,hm1.trans hm2,hw.c,.inr ⟨((List.range' kn (k-kn)).map fun j=>(j,si+powP j))++[(k,si+powP k)],UM si (k+1),by rw [startsL_at (j:=k) jC jC];simp,hJ2⟩⟩
  ·iterate 4 refine Stp ?_
   refine ZV (.inl rfl) (.nil) (fun w hw=>?_)
   obtain rfl:k=160:=by omega
   exact ⟨_,M1,h1,rfl,hm1,hw.c,.inl hJ1⟩
theorem Point_ok (M:Mem) (t:ZO) (k:Int) (p:Zs) (ht0:ZO.ok M t):Esp.Fn Tryz.prog 202 [t.enc,.int .i64 k,p.enc] M (fun M' v=>TabPE M' v (WV t.tb k p)):=by
  obtain ⟨⟨Ye,Yn⟩,⟨Yp,YC⟩,⟨Yx,Yw,Yc⟩,⟨Yi,Yh,ZI⟩⟩:=t
  obtain ⟨YI,p_id⟩:=p
  have Xc:SlK M Zs.segs 21 ⟨Yx,Yw,Yc⟩:=ht0.h0
  have s_t_succ:SlM M Yx (Yc.map Zs.segs) 21:=Xc.h1
  have n_t_succ:(Yc.map Zs.segs).length=Yc.length:=List.length_map ..
  have m_t_succ:Yc.length≤9223372036854775807:=Xc.h2
  have c_t_succ:Yc.length≤Yw:=Xc.h3
  have YG:SlK M Zs.segs 21 ⟨Yi,Yh,ZI⟩:=ht0.h1
  have Vz:SlM M Yi (ZI.map Zs.segs) 21:=YG.h1
  have n_t_fingers:(ZI.map Zs.segs).length=ZI.length:=List.length_map ..
  have VC:ZI.length≤9223372036854775807:=YG.h2
  have c_t_fingers:ZI.length≤Yh:=YG.h3
  refine fnM_enter Tryz.func202 rfl Tryz.ntmps202 rfl ?_;intro H
  iterate 2 refine Stp ?_
  refine Xq ?_;intro b1
  refine Xq ?_;intro b2
  refine Xq ?_;intro b3
  refine Yz F.zero41 ?_;intro b4
  refine Yz F.zero3 ?_;intro b5
  refine Yz F.zero25 ?_;intro b6
  iterate 5 refine Stp ?_
  refine Zy F.lay41 ?_;refine X_fs rfl rfl F.ok41 rfl (IsT_ok _ ⟨⟨_,_⟩,⟨_,_⟩,⟨_,_,_⟩,⟨_,_,_⟩⟩ jE) rfl ?_
  rintro _ rfl
  iterate 2 refine Stp ?_
  refine Yt 15 rfl (eT fun hc7=>?_) (eF fun hc7=>?_)
  ·iterate 24 refine Stp ?_
   refine Xo rfl rfl F.bld41 (.nil) rfl rfl ?_;refine Ya F.lay41 ?_;refine Ya F.lay3 ?_;refine Ya F.lay25 ?_
   iterate 4 refine Stp ?_
   refine K_endM0 (.inr rfl) (.cell rfl jB F.lay41 rfl rfl (.cell rfl jB F.lay3 rfl rfl (.cell rfl jB F.lay25 rfl rfl .nil))) (fun w hw=>?_)
   refine ⟨_,M,rfl,Mem.le.refl M,hw.c,?_⟩
   rw [show WV (ZO.tb ⟨⟨Ye,Yn⟩,⟨Yp,YC⟩,⟨Yx,Yw,Yc⟩,⟨Yi,Yh,ZI⟩⟩) k ⟨YI,p_id⟩=(Tb.zero,0,1) from pointT_no yF]
   exact ⟨_,rfl,tabIs_zero⟩
  ·refine Zy F.lay3 ?_
   iterate 3 refine Stp ?_
   refine Yt 19 rfl (cT fun hc8=>?_) (cF fun hc8=>?_)
   ·iterate 20 refine Stp ?_
    refine Xo rfl rfl F.bld41 (.nil) rfl rfl ?_;refine Ya F.lay41 ?_;refine Ya F.lay3 ?_;refine Ya F.lay25 ?_
    iterate 4 refine Stp ?_
    refine K_endM0 (.inr rfl) (.cell rfl jB F.lay41 rfl rfl (.cell rfl jB F.lay3 rfl rfl (.cell rfl jB F.lay25 rfl rfl .nil))) (fun w hw=>?_)
    refine ⟨_,M,rfl,Mem.le.refl M,hw.c,?_⟩
    rw [show WV (ZO.tb ⟨⟨Ye,Yn⟩,⟨Yp,YC⟩,⟨Yx,Yw,Yc⟩,⟨Yi,Yh,ZI⟩⟩) k ⟨YI,p_id⟩=(Tb.zero,0,1) from pointT_no yF]
    exact ⟨_,rfl,tabIs_zero⟩
   ·refine Zy F.lay3 ?_
    iterate 3 refine Stp ?_
    refine Yt 23 rfl (cT fun hc9=>?_) (cF fun hc9=>?_)
    ·iterate 16 refine Stp ?_
     refine Xo rfl rfl F.bld41 (.nil) rfl rfl ?_;refine Ya F.lay41 ?_;refine Ya F.lay3 ?_;refine Ya F.lay25 ?_
     iterate 4 refine Stp ?_
     refine K_endM0 (.inr rfl) (.cell rfl jB F.lay41 rfl rfl (.cell rfl jB F.lay3 rfl rfl (.cell rfl jB F.lay25 rfl rfl .nil))) (fun w hw=>?_)
     refine ⟨_,M,rfl,Mem.le.refl M,hw.c,?_⟩
     rw [show WV (ZO.tb ⟨⟨Ye,Yn⟩,⟨Yp,YC⟩,⟨Yx,Yw,Yc⟩,⟨Yi,Yh,ZI⟩⟩) k ⟨YI,p_id⟩=(Tb.zero,0,1) from pointT_no yF]
     exact ⟨_,rfl,tabIs_zero⟩
    ·refine Zy F.lay38 ?_
     refine Zi F.foff41_0 ?_;refine Zy F.lay38 ?_
     refine VE (m:=20) rfl rfl rfl rfl rfl jG jG F.lay38 F.kinds38 rfl F.guard38 jS jS rfl rfl rfl ?_;intro c10 he11
     replace he11:c10=true↔¬(Segs.cells _=Segs.cells _):=he11
     obtain rfl:=neD he11 (Zs.inj (x:=⟨_,_⟩) (y:=⟨_,_⟩));clear he11
     refine Yk ?_
     refine Yt 28 rfl (eT fun hc12=>?_) (eF fun hc12=>?_)
     ·refine Zy F.lay41 ?_
      refine Zy F.lay38 ?_;refine X_fs rfl rfl F.ok79 rfl (other_ok _ ⟨⟨_,_⟩,⟨_,_⟩,⟨_,_,_⟩,⟨_,_,_⟩⟩ ⟨_,_⟩) rfl ?_
      rintro _ rfl
      iterate 5 refine Stp ?_
      refine ZW rfl (eT fun hc13=>?_) (eF fun hc13=>?_)
      ·simp only [Zs.eta,ZO.eta,ZJ.eta,ZF.eta,Ym.eta,Yv.eta,Yy.eta,Yq.eta,ZN.eta,YF.eta,ZU.eta] at hc13
       iterate 2 refine Stp ?_
       refine Xo rfl rfl F.bld41 (.nil) rfl rfl ?_;refine Ya F.lay41 ?_;refine Ya F.lay3 ?_;refine Ya F.lay25 ?_
       iterate 4 refine Stp ?_
       refine K_endM0 (.inr rfl) (.cell rfl jB F.lay41 rfl rfl (.cell rfl jB F.lay3 rfl rfl (.cell rfl jB F.lay25 rfl rfl .nil))) (fun w hw=>?_)
       refine ⟨_,M,rfl,Mem.le.refl M,hw.c,?_⟩
       rw [show WV (ZO.tb ⟨⟨Ye,Yn⟩,⟨Yp,YC⟩,⟨Yx,Yw,Yc⟩,⟨Yi,Yh,ZI⟩⟩) k ⟨YI,p_id⟩=(Tb.zero,0,1) from pointT_no yF]
       exact ⟨_,rfl,tabIs_zero⟩
      ·simp only [Zs.eta,ZO.eta,ZJ.eta,ZF.eta,Ym.eta,Yv.eta,Yy.eta,Yq.eta,ZN.eta,YF.eta,ZU.eta] at hc13
       iterate 4 refine Stp ?_
       obtain ⟨kn,rfl⟩:∃ kn:Nat,k=kn:=⟨k.toNat,by omega⟩
       have hf160:ZI.length=160:=(show IsTb (ZO.tb ⟨⟨Ye,Yn⟩,⟨Yp,YC⟩,⟨Yx,Yw,Yc⟩,⟨Yi,Yh,ZI⟩⟩) by assumption).2.2.2.1
       refine Zy F.lay38 ?_
       refine Yz F.zero38 ?_;intro b14
       refine Ya F.lay38 ?_
       iterate 5 refine Stp ?_
       refine Zy F.lay38 ?_;refine Zi F.foff41_0 ?_;refine Zy F.lay38 ?_
       refine VE (m:=20) rfl rfl rfl rfl rfl jG jG F.lay38 F.kinds38 rfl F.guard38 jS jS rfl rfl rfl ?_;intro c15 he16
       replace he16:c15=true↔Segs.cells _=Segs.cells _:=he16
       obtain rfl:=eqD he16 (Zs.inj (x:=⟨_,_⟩) (y:=⟨_,_⟩));clear he16
       iterate 2 refine Stp ?_
       refine ZW rfl (cT fun hc17=>?_) (cF fun hc17=>?_)
       ·contradiction
       ·iterate 4 refine Stp ?_
        refine Zi F.foff41_3 ?_;refine Zy F.lay39 ?_;refine WE rfl rfl F.ok89 rfl (CloneP_ok M Yi Yh ZI YG jC) jA (fun _ _ _ hm hw=>(hw.lower jV).c) (ZT rfl) ?_
        rintro v8 M1 hs8 hm1 ⟨hM1,ho8⟩;subst M1
        obtain ⟨ad8,cp8,rfl⟩:=ho8.valL
        refine Zi F.foff41_3 ?_;refine Ya F.lay39 ?_
        iterate 5 refine Stp ?_
        refine Zy F.lay41 ?_;refine Zy F.lay3 ?_;refine X_fn rfl rfl F.ok223 rfl (starts_ok M _ _ _ _ _ _ _ _ _ _ _) rfl ?_
        rintro _ M2 hm2 ⟨q1,q2,rfl,hq1,hq2⟩
        iterate 3 refine Stp ?_
        refine Y_pk [48,9,8,7,6,5,4,3] ?_;refine C_rangeFunc (enc:=(fun x:Nat×Plc=>[.int .i64 (x.1:Int),aggV [Yb x.2]])) (xs:=UM Yn kn) (Hi:=[]) (Hu:=(b4,rowO [.one (.int .i64 0),Yb 0,.one (.int .i64 0),Yb 0,.one (.slice none 0 0),.one (.slice none 0 0)] 41)::(b5,rowO [.one (.int .i64 0)] 3)::(b6,rowO [.one (.int .i64 0)] 25)::(b1,rowO [.one (.int .i64 Ye),Yb Yn,.one (.int .i64 Yp),Yb YC,.one (Sl.val ⟨Yx,Yw,Yc⟩),.one (.slice ad8 ZI.length cp8)] 41)::(b2,rowO [.one (.int .i64 (kn:Int))] 3)::(b3,rowO [.one (.int .i64 YI),Yb p_id] 38)::(b14,rowO [.one (.int .i64 YI),Yb p_id] 38)::hs8) (H0:=H) (fun pre M9 Hu=>∃ hs,Hu=(b4,rowO [.one (.int .i64 0),Yb 0,.one (.int .i64 0),Yb 0,.one (.slice none 0 0),.one (.slice none 0 0)] 41)::(b5,rowO [.one (.int .i64 0)] 3)::(b6,rowO [.one (.int .i64 0)] 25)::(b1,rowO [.one (.int .i64 Ye),Yb Yn,.one (.int .i64 Yp),Yb YC,.one (Sl.val ⟨Yx,Yw,Yc⟩),.one (.slice ad8 ZI.length cp8)] 41)::(b2,rowO [.one (.int .i64 (kn:Int))] 3)::(b3,rowO [.one (.int .i64 YI),Yb p_id] 38)::(b14,rowO [.one (.int .i64 YI),Yb p_id] 38)::hs∧OSl 38 21 (.slice ad8 ZI.length cp8) hs ((ptW ZI kn (kn+pre.length) (Zs.mk YI p_id)).map Zs.segs)∧WW ⟨Ye,Yn⟩ ⟨YI,p_id⟩ kn kn (160-kn)=WW ⟨Ye,Yn⟩ ⟨YI,p_id⟩ kn (kn+pre.length) (160-(kn+pre.length))) (fun c pre M9 Hu=>c=.ret∧∃ (hs:Hp) (j:Nat),Hu=(b4,rowO [.one (.int .i64 Ye),Yb Yn,.one (.int .i64 Yp),Yb YC,.one (Sl.val ⟨Yx,Yw,Yc⟩),.one (.slice ad8 ZI.length cp8)] 41)::(b5,rowO [.one (.int .i64 (j:Int))] 3)::(b6,rowO [.one (.int .i64 0)] 25)::(b1,rowO [.one (.int .i64 Ye),Yb Yn,.one (.int .i64 Yp),Yb YC,.one (Sl.val ⟨Yx,Yw,Yc⟩),.one (.slice ad8 ZI.length cp8)] 41)::(b2,rowO [.one (.int .i64 (kn:Int))] 3)::(b3,rowO [.one (.int .i64 YI),Yb p_id] 38)::(b14,rowO [.one (.int .i64 YI),Yb p_id] 38)::hs∧kn<j∧j<160∧OSl 38 21 (.slice ad8 ZI.length cp8) hs ((ptW ZI kn (j) (Zs.mk YI p_id)).map Zs.segs)∧WW ⟨Ye,Yn⟩ ⟨YI,p_id⟩ kn kn (160-kn)=j) rfl F.ok230 (starts_seq M2 _ _ _ _ _ _ _ _ _ _ kn jC q1 q2 hq1 hq2) (fun w hw=>hw.c) ⟨hs8,rfl,by rw [List.length_nil,Nat.add_zero,ptW_start];exact ho8,rfl⟩ (fun _=>rfl) rfl ?_ ?_ ?_
        ·rintro lp rdy bsy pre ⟨x1,x2⟩ post M3 _ G hxs hm3 ⟨hs3,rfl,ho1,hI⟩
         obtain ⟨hx9,hx⟩:=startsL_split hxs
         obtain ⟨rfl,rfl⟩:=Prod.mk.inj hx
         generalize hj9:kn+pre.length=j at *
         have hwl:(ptW ZI kn j (Zs.mk YI p_id)).length=ZI.length:=ptW_len jC jC
         have hnw:((ptW ZI kn j (Zs.mk YI p_id)).map Zs.segs).length=(ptW ZI kn j (Zs.mk YI p_id)).length:=List.length_map ..
         simp only [List.cons_append,rEnv]
         iterate 6 refine Stp ?_
         refine Yz F.zero36 ?_;intro b21
         refine Ya F.lay36 ?_;refine Xb (K_assign1 ?_)
         iterate 5 refine Stp ?_
         refine Zy F.lay3 ?_
         iterate 2 refine Stp ?_
         refine Yt 54 rfl (cT fun hc22=>?_) (cF fun hc22=>?_)
         ·refine Zi F.foff41_0 ?_
          refine Zi F.foff38_1 ?_
          iterate 2 refine Zy F.lay36 ?_
          refine Zi F.foff38_1 ?_;refine Zy F.lay36 ?_;refine X_fs rfl rfl F.ok100 rfl (Half_ok _ _ _ _) rfl ?_
          rintro _ rfl
          iterate 4 refine Stp ?_
          refine ZW rfl (eT fun hc23=>?_) (eF fun hc23=>?_)
          ·iterate 2 refine Stp ?_
           refine Zy F.lay41 ?_;refine Yk ?_;refine Ya F.lay41 ?_;refine Ya F.lay3 ?_;refine Ya F.lay25 ?_
           iterate 5 refine Stp ?_
           refine K_rndR (Hu:=(b4,rowO [.one (.int .i64 Ye),Yb Yn,.one (.int .i64 Yp),Yb YC,.one (Sl.val ⟨Yx,Yw,Yc⟩),.one (.slice ad8 ZI.length cp8)] 41)::(b5,rowO [.one (.int .i64 (j:Int))] 3)::(b6,rowO [.one (.int .i64 0)] 25)::(b1,rowO [.one (.int .i64 Ye),Yb Yn,.one (.int .i64 Yp),Yb YC,.one (Sl.val ⟨Yx,Yw,Yc⟩),.one (.slice ad8 ZI.length cp8)] 41)::(b2,rowO [.one (.int .i64 (kn:Int))] 3)::(b3,rowO [.one (.int .i64 YI),Yb p_id] 38)::(b14,rowO [.one (.int .i64 YI),Yb p_id] 38)::hs3) (Mem.le.refl _) (fun w hw=>hw.c) ⟨rfl,hs3,j,rfl,by omega,by omega,ho1,?_⟩
           exact hI.trans (pointEnd_stop jC jC (by unfold inArc;exact decide_eq_false jE))
          ·iterate 3 refine Stp ?_
           refine Zi F.foff41_3 ?_;refine Zy F.lay39 ?_;refine Yk ?_;refine Zy F.lay38 ?_;refine Ys rfl rfl rfl rfl F.elem39 jR jC yL rfl ?_
           obtain ⟨bF,rfl⟩:=ho1.someB jC
           refine UJ (b:=bF) (j:=j) rfl rfl rfl rfl jG (Xw rfl (Wb Xx)) F.lay38 rfl rfl ho1 jA jC ?_;intro hs6 ho6
           replace ho6:OSl 38 21 (.slice (some ⟨bF,0,none⟩) ZI.length cp8) hs6 ((ptW ZI kn (j+1) (Zs.mk YI p_id)).map Zs.segs):=by rw [← ptW_set jC jC,List.map_set];exact ho6.aZ jY
           iterate 2 refine Stp ?_
           refine K_rnd (Hu:=(b4,rowO [.one (.int .i64 0),Yb 0,.one (.int .i64 0),Yb 0,.one (.slice none 0 0),.one (.slice none 0 0)] 41)::(b5,rowO [.one (.int .i64 0)] 3)::(b6,rowO [.one (.int .i64 0)] 25)::(b1,rowO [.one (.int .i64 Ye),Yb Yn,.one (.int .i64 Yp),Yb YC,.one (Sl.val ⟨Yx,Yw,Yc⟩),.one (.slice (some ⟨bF,0,none⟩) ZI.length cp8)] 41)::(b2,rowO [.one (.int .i64 (kn:Int))] 3)::(b3,rowO [.one (.int .i64 YI),Yb p_id] 38)::(b14,rowO [.one (.int .i64 YI),Yb p_id] 38)::hs6) (Mem.le.refl _) (fun w hw=>hw.c) ⟨hs6,rfl,?_,?_⟩
           ·rw [List.length_append,List.length_singleton,← Nat.add_assoc,hj9];exact ho6
           ·rw [List.length_append,List.length_singleton,← Nat.add_assoc,hj9,hI,pointEnd_go jC (by rintro ⟨g1,g2⟩;unfold inArc at g2;simp_all)]
         ·iterate 15 refine Stp ?_
          refine Zi F.foff41_3 ?_;refine Zy F.lay39 ?_;refine Yk ?_;refine Zy F.lay38 ?_;refine Ys rfl rfl rfl rfl F.elem39 jR jC yL rfl ?_
          obtain ⟨bF,rfl⟩:=ho1.someB jC
          refine UJ (b:=bF) (j:=j) rfl rfl rfl rfl jG (Xw rfl (Wb Xx)) F.lay38 rfl rfl ho1 jA jC ?_;intro hs6 ho6
          replace ho6:OSl 38 21 (.slice (some ⟨bF,0,none⟩) ZI.length cp8) hs6 ((ptW ZI kn (j+1) (Zs.mk YI p_id)).map Zs.segs):=by rw [← ptW_set jC jC,List.map_set];exact ho6.aZ jY
          iterate 2 refine Stp ?_
          refine K_rnd (Hu:=(b4,rowO [.one (.int .i64 0),Yb 0,.one (.int .i64 0),Yb 0,.one (.slice none 0 0),.one (.slice none 0 0)] 41)::(b5,rowO [.one (.int .i64 0)] 3)::(b6,rowO [.one (.int .i64 0)] 25)::(b1,rowO [.one (.int .i64 Ye),Yb Yn,.one (.int .i64 Yp),Yb YC,.one (Sl.val ⟨Yx,Yw,Yc⟩),.one (.slice (some ⟨bF,0,none⟩) ZI.length cp8)] 41)::(b2,rowO [.one (.int .i64 (kn:Int))] 3)::(b3,rowO [.one (.int .i64 YI),Yb p_id] 38)::(b14,rowO [.one (.int .i64 YI),Yb p_id] 38)::hs6) (Mem.le.refl _) (fun w hw=>hw.c) ⟨hs6,rfl,?_,?_⟩
          ·rw [List.length_append,List.length_singleton,← Nat.add_assoc,hj9];exact ho6
          ·rw [List.length_append,List.length_singleton,← Nat.add_assoc,hj9,hI,pointEnd_go jC (by rintro ⟨g1,g2⟩;omega)]
        ·rintro D L o M3 _ hm3 ⟨hs3,rfl,ho1,hI⟩
         rw [show kn+(UM Yn kn).length=160 by unfold UM;simp;omega] at ho1 hI
         simp only [List.cons_append,List.nil_append]
         iterate 4 refine Stp ?_
         refine Zy F.lay41 ?_;refine Ya F.lay41 ?_;refine Ya F.lay3 ?_;refine Ya F.lay25 ?_
         iterate 3 refine Stp ?_
         refine K_endM (Ds:=[D]) (Hd:=[(D,.deferred (some []))]) (H:=(b4,rowO [.one (.int .i64 Ye),Yb Yn,.one (.int .i64 Yp),Yb YC,.one (Sl.val ⟨Yx,Yw,Yc⟩),.one (.slice ad8 ZI.length cp8)] 41)::(b5,rowO [.one (.int .i64 0)] 3)::(b6,rowO [.one (.int .i64 0)] 25)::hs3++H) (.inr rfl) (.cell rfl jB F.lay41 rfl rfl (.cell rfl jB F.lay3 rfl rfl (.cell rfl jB F.lay25 rfl rfl .nil))) (fun w hw=>hw.c) jU jU (fun w hw=>?_)
         obtain ⟨M9,s2,j1,j2,j3,j4,j5⟩:=OSl.freezeK (f:=Zs.segs) (H:=H) ho1 (hw.c)
         refine ⟨_,M9,rfl,hm2.trans (hm3.trans j1),j2,?_⟩
         rw [show WV (ZO.tb ⟨⟨Ye,Yn⟩,⟨Yp,YC⟩,⟨Yx,Yw,Yc⟩,⟨Yi,Yh,ZI⟩⟩) ((kn:Nat):Int) ⟨YI,p_id⟩=({ (ZO.tb ⟨⟨Ye,Yn⟩,⟨Yp,YC⟩,⟨Yx,Yw,Yc⟩,⟨Yi,Yh,ZI⟩⟩) with fingers:=ptW ZI kn 160 ⟨YI,p_id⟩ },0,0) from ?_]
         ·exact ⟨_,rfl,VU (s1:=⟨Yx,Yw,Yc⟩) (s2:=s2) rfl j3 (Xc.mono (hm2.trans (hm3.trans j1))) j5 (by rw [j4];rfl)⟩
         ·exact pointT_is (j:=160) jE jC (by exact .inr jE) hI (show fingerOf (ZO.tb ⟨⟨Ye,Yn⟩,⟨Yp,YC⟩,⟨Yx,Yw,Yc⟩,⟨Yi,Yh,ZI⟩⟩) ⟨YI,p_id⟩=⟨YI,p_id⟩ from if_neg jE) (if_pos rfl)
        ·rintro c D L o M3 _ pre post hpp hm3 ⟨rfl,hs3,j,rfl,hj1,hj2,ho1,hI⟩
         simp only [List.cons_append,List.nil_append]
         iterate 3 refine Stp ?_
         refine K_endM (Ds:=[D]) (Hd:=[(D,.deferred (some []))]) (H:=(b4,rowO [.one (.int .i64 Ye),Yb Yn,.one (.int .i64 Yp),Yb YC,.one (Sl.val ⟨Yx,Yw,Yc⟩),.one (.slice ad8 ZI.length cp8)] 41)::(b5,rowO [.one (.int .i64 (j:Int))] 3)::(b6,rowO [.one (.int .i64 0)] 25)::hs3++H) (.inr rfl) (.cell rfl jB F.lay41 rfl rfl (.cell rfl jB F.lay3 rfl rfl (.cell rfl jB F.lay25 rfl rfl .nil))) (fun w hw=>hw.c) jU jU (fun w hw=>?_)
         obtain ⟨M9,s2,j1,j2,j3,j4,j5⟩:=OSl.freezeK (f:=Zs.segs) (H:=H) ho1 (hw.c)
         refine ⟨_,M9,rfl,hm2.trans (hm3.trans j1),j2,?_⟩
         rw [show WV (ZO.tb ⟨⟨Ye,Yn⟩,⟨Yp,YC⟩,⟨Yx,Yw,Yc⟩,⟨Yi,Yh,ZI⟩⟩) ((kn:Nat):Int) ⟨YI,p_id⟩=({ (ZO.tb ⟨⟨Ye,Yn⟩,⟨Yp,YC⟩,⟨Yx,Yw,Yc⟩,⟨Yi,Yh,ZI⟩⟩) with fingers:=ptW ZI kn j ⟨YI,p_id⟩ },(j:Int),0) from ?_]
         ·exact ⟨_,rfl,VU (s1:=⟨Yx,Yw,Yc⟩) (s2:=s2) rfl j3 (Xc.mono (hm2.trans (hm3.trans j1))) j5 (by rw [j4];rfl)⟩
         ·exact pointT_is (j:=j) jE jC (by exact .inr jE) hI (show fingerOf (ZO.tb ⟨⟨Ye,Yn⟩,⟨Yp,YC⟩,⟨Yx,Yw,Yc⟩,⟨Yi,Yh,ZI⟩⟩) ⟨YI,p_id⟩=⟨YI,p_id⟩ from if_neg jE) (if_neg jC)
     ·iterate 13 refine Stp ?_
      obtain ⟨kn,rfl⟩:∃ kn:Nat,k=kn:=⟨k.toNat,by omega⟩
      have hf160:ZI.length=160:=(show IsTb (ZO.tb ⟨⟨Ye,Yn⟩,⟨Yp,YC⟩,⟨Yx,Yw,Yc⟩,⟨Yi,Yh,ZI⟩⟩) by assumption).2.2.2.1
      refine Zy F.lay38 ?_
      refine Yz F.zero38 ?_;intro b24
      refine Ya F.lay38 ?_
      iterate 5 refine Stp ?_
      refine Zy F.lay38 ?_;refine Zi F.foff41_0 ?_;refine Zy F.lay38 ?_
      refine VE (m:=20) rfl rfl rfl rfl rfl jG jG F.lay38 F.kinds38 rfl F.guard38 jS jS rfl rfl rfl ?_;intro c25 he26
      replace he26:c25=true↔Segs.cells _=Segs.cells _:=he26
      obtain rfl:=eqD he26 (Zs.inj (x:=⟨_,_⟩) (y:=⟨_,_⟩));clear he26
      iterate 2 refine Stp ?_
      refine ZW rfl (cT fun hc27=>?_) (cF fun hc27=>?_)
      ·refine Stp ?_
       refine X_fs rfl rfl F.ok78 rfl (Vp _) rfl ?_
       rintro _ rfl
       refine XI 41 rfl (show _=aggV [.one (.int .i64 (-1)),Yb 0] from rfl) ?_;refine Ya F.lay38 ?_
       iterate 4 refine Stp ?_
       refine Zi F.foff41_3 ?_;refine Zy F.lay39 ?_;refine WE rfl rfl F.ok89 rfl (CloneP_ok M Yi Yh ZI YG jC) jA (fun _ _ _ hm hw=>(hw.lower jV).c) (ZT rfl) ?_
       rintro v8 M1 hs8 hm1 ⟨hM1,ho8⟩;subst M1
       obtain ⟨ad8,cp8,rfl⟩:=ho8.valL
       refine Zi F.foff41_3 ?_;refine Ya F.lay39 ?_
       iterate 5 refine Stp ?_
       refine Zy F.lay41 ?_;refine Zy F.lay3 ?_;refine X_fn rfl rfl F.ok223 rfl (starts_ok M _ _ _ _ _ _ _ _ _ _ _) rfl ?_
       rintro _ M2 hm2 ⟨q1,q2,rfl,hq1,hq2⟩
       iterate 3 refine Stp ?_
       refine Y_pk [48,9,8,7,6,5,4,3] ?_;refine C_rangeFunc (enc:=(fun x:Nat×Plc=>[.int .i64 (x.1:Int),aggV [Yb x.2]])) (xs:=UM Yn kn) (Hi:=[]) (Hu:=(b4,rowO [.one (.int .i64 0),Yb 0,.one (.int .i64 0),Yb 0,.one (.slice none 0 0),.one (.slice none 0 0)] 41)::(b5,rowO [.one (.int .i64 0)] 3)::(b6,rowO [.one (.int .i64 0)] 25)::(b1,rowO [.one (.int .i64 Ye),Yb Yn,.one (.int .i64 Yp),Yb YC,.one (Sl.val ⟨Yx,Yw,Yc⟩),.one (.slice ad8 ZI.length cp8)] 41)::(b2,rowO [.one (.int .i64 (kn:Int))] 3)::(b3,rowO [.one (.int .i64 YI),Yb p_id] 38)::(b24,rowO [.one (.int .i64 (-1)),Yb 0] 38)::hs8) (H0:=H) (fun pre M9 Hu=>∃ hs,Hu=(b4,rowO [.one (.int .i64 0),Yb 0,.one (.int .i64 0),Yb 0,.one (.slice none 0 0),.one (.slice none 0 0)] 41)::(b5,rowO [.one (.int .i64 0)] 3)::(b6,rowO [.one (.int .i64 0)] 25)::(b1,rowO [.one (.int .i64 Ye),Yb Yn,.one (.int .i64 Yp),Yb YC,.one (Sl.val ⟨Yx,Yw,Yc⟩),.one (.slice ad8 ZI.length cp8)] 41)::(b2,rowO [.one (.int .i64 (kn:Int))] 3)::(b3,rowO [.one (.int .i64 YI),Yb p_id] 38)::(b24,rowO [.one (.int .i64 (-1)),Yb 0] 38)::hs∧OSl 38 21 (.slice ad8 ZI.length cp8) hs ((ptW ZI kn (kn+pre.length) YD).map Zs.segs)∧WW ⟨Ye,Yn⟩ ⟨YI,p_id⟩ kn kn (160-kn)=WW ⟨Ye,Yn⟩ ⟨YI,p_id⟩ kn (kn+pre.length) (160-(kn+pre.length))) (fun c pre M9 Hu=>c=.ret∧∃ (hs:Hp) (j:Nat),Hu=(b4,rowO [.one (.int .i64 Ye),Yb Yn,.one (.int .i64 Yp),Yb YC,.one (Sl.val ⟨Yx,Yw,Yc⟩),.one (.slice ad8 ZI.length cp8)] 41)::(b5,rowO [.one (.int .i64 (j:Int))] 3)::(b6,rowO [.one (.int .i64 0)] 25)::(b1,rowO [.one (.int .i64 Ye),Yb Yn,.one (.int .i64 Yp),Yb YC,.one (Sl.val ⟨Yx,Yw,Yc⟩),.one (.slice ad8 ZI.length cp8)] 41)::(b2,rowO [.one (.int .i64 (kn:Int))] 3)::(b3,rowO [.one (.int .i64 YI),Yb p_id] 38)::(b24,rowO [.one (.int .i64 (-1)),Yb 0] 38)::hs∧kn<j∧j<160∧OSl 38 21 (.slice ad8 ZI.length cp8) hs ((ptW ZI kn (j) YD).map Zs.segs)∧WW ⟨Ye,Yn⟩ ⟨YI,p_id⟩ kn kn (160-kn)=j) rfl F.ok230 (starts_seq M2 _ _ _ _ _ _ _ _ _ _ kn jC q1 q2 hq1 hq2) (fun w hw=>hw.c) ⟨hs8,rfl,by rw [List.length_nil,Nat.add_zero,ptW_start];exact ho8,rfl⟩ (fun _=>rfl) rfl ?_ ?_ ?_
       ·rintro lp rdy bsy pre ⟨x1,x2⟩ post M3 _ G hxs hm3 ⟨hs3,rfl,ho1,hI⟩
        obtain ⟨hx9,hx⟩:=startsL_split hxs
        obtain ⟨rfl,rfl⟩:=Prod.mk.inj hx
        generalize hj9:kn+pre.length=j at *
        have hwl:(ptW ZI kn j YD).length=ZI.length:=ptW_len jC jC
        have hnw:((ptW ZI kn j YD).map Zs.segs).length=(ptW ZI kn j YD).length:=List.length_map ..
        simp only [List.cons_append,rEnv]
        iterate 6 refine Stp ?_
        refine Yz F.zero36 ?_;intro b28
        refine Ya F.lay36 ?_;refine Xb (K_assign1 ?_)
        iterate 5 refine Stp ?_
        refine Zy F.lay3 ?_
        iterate 2 refine Stp ?_
        refine Yt 54 rfl (cT fun hc29=>?_) (cF fun hc29=>?_)
        ·refine Zi F.foff41_0 ?_
         refine Zi F.foff38_1 ?_
         iterate 2 refine Zy F.lay36 ?_
         refine Zi F.foff38_1 ?_;refine Zy F.lay36 ?_;refine X_fs rfl rfl F.ok100 rfl (Half_ok _ _ _ _) rfl ?_
         rintro _ rfl
         iterate 4 refine Stp ?_
         refine ZW rfl (eT fun hc30=>?_) (eF fun hc30=>?_)
         ·iterate 2 refine Stp ?_
          refine Zy F.lay41 ?_;refine Yk ?_;refine Ya F.lay41 ?_;refine Ya F.lay3 ?_;refine Ya F.lay25 ?_
          iterate 5 refine Stp ?_
          refine K_rndR (Hu:=(b4,rowO [.one (.int .i64 Ye),Yb Yn,.one (.int .i64 Yp),Yb YC,.one (Sl.val ⟨Yx,Yw,Yc⟩),.one (.slice ad8 ZI.length cp8)] 41)::(b5,rowO [.one (.int .i64 (j:Int))] 3)::(b6,rowO [.one (.int .i64 0)] 25)::(b1,rowO [.one (.int .i64 Ye),Yb Yn,.one (.int .i64 Yp),Yb YC,.one (Sl.val ⟨Yx,Yw,Yc⟩),.one (.slice ad8 ZI.length cp8)] 41)::(b2,rowO [.one (.int .i64 (kn:Int))] 3)::(b3,rowO [.one (.int .i64 YI),Yb p_id] 38)::(b24,rowO [.one (.int .i64 (-1)),Yb 0] 38)::hs3) (Mem.le.refl _) (fun w hw=>hw.c) ⟨rfl,hs3,j,rfl,by omega,by omega,ho1,?_⟩
          exact hI.trans (pointEnd_stop jC jC (by unfold inArc;exact decide_eq_false jE))
         ·iterate 3 refine Stp ?_
          refine Zi F.foff41_3 ?_;refine Zy F.lay39 ?_;refine Yk ?_;refine Zy F.lay38 ?_;refine Ys rfl rfl rfl rfl F.elem39 jR jC yL rfl ?_
          obtain ⟨bF,rfl⟩:=ho1.someB jC
          refine UJ (b:=bF) (j:=j) rfl rfl rfl rfl jG (Xw rfl (Wb Xx)) F.lay38 rfl rfl ho1 jA jC ?_;intro hs6 ho6
          replace ho6:OSl 38 21 (.slice (some ⟨bF,0,none⟩) ZI.length cp8) hs6 ((ptW ZI kn (j+1) YD).map Zs.segs):=by rw [← ptW_set jC jC,List.map_set];exact ho6.aZ jY
          iterate 2 refine Stp ?_
          refine K_rnd (Hu:=(b4,rowO [.one (.int .i64 0),Yb 0,.one (.int .i64 0),Yb 0,.one (.slice none 0 0),.one (.slice none 0 0)] 41)::(b5,rowO [.one (.int .i64 0)] 3)::(b6,rowO [.one (.int .i64 0)] 25)::(b1,rowO [.one (.int .i64 Ye),Yb Yn,.one (.int .i64 Yp),Yb YC,.one (Sl.val ⟨Yx,Yw,Yc⟩),.one (.slice (some ⟨bF,0,none⟩) ZI.length cp8)] 41)::(b2,rowO [.one (.int .i64 (kn:Int))] 3)::(b3,rowO [.one (.int .i64 YI),Yb p_id] 38)::(b24,rowO [.one (.int .i64 (-1)),Yb 0] 38)::hs6) (Mem.le.refl _) (fun w hw=>hw.c) ⟨hs6,rfl,?_,?_⟩
          ·rw [List.length_append,List.length_singleton,← Nat.add_assoc,hj9];exact ho6
          ·rw [List.length_append,List.length_singleton,← Nat.add_assoc,hj9,hI,pointEnd_go jC (by rintro ⟨g1,g2⟩;unfold inArc at g2;simp_all)]
        ·iterate 15 refine Stp ?_
         refine Zi F.foff41_3 ?_;refine Zy F.lay39 ?_;refine Yk ?_;refine Zy F.lay38 ?_;refine Ys rfl rfl rfl rfl F.elem39 jR jC yL rfl ?_
         obtain ⟨bF,rfl⟩:=ho1.someB jC
         refine UJ (b:=bF) (j:=j) rfl rfl rfl rfl jG (Xw rfl (Wb Xx)) F.lay38 rfl rfl ho1 jA jC ?_;intro hs6 ho6
         replace ho6:OSl 38 21 (.slice (some ⟨bF,0,none⟩) ZI.length cp8) hs6 ((ptW ZI kn (j+1) YD).map Zs.segs):=by rw [← ptW_set jC jC,List.map_set];exact ho6.aZ jY
         iterate 2 refine Stp ?_
         refine K_rnd (Hu:=(b4,rowO [.one (.int .i64 0),Yb 0,.one (.int .i64 0),Yb 0,.one (.slice none 0 0),.one (.slice none 0 0)] 41)::(b5,rowO [.one (.int .i64 0)] 3)::(b6,rowO [.one (.int .i64 0)] 25)::(b1,rowO [.one (.int .i64 Ye),Yb Yn,.one (.int .i64 Yp),Yb YC,.one (Sl.val ⟨Yx,Yw,Yc⟩),.one (.slice (some ⟨bF,0,none⟩) ZI.length cp8)] 41)::(b2,rowO [.one (.int .i64 (kn:Int))] 3)::(b3,rowO [.one (.int .i64 YI),Yb p_id] 38)::(b24,rowO [.one (.int .i64 (-1)),Yb 0] 38)::hs6) (Mem.le.refl _) (fun w hw=>hw.c) ⟨hs6,rfl,?_,?_⟩
         ·rw [List.length_append,List.length_singleton,← Nat.add_assoc,hj9];exact ho6
         ·rw [List.length_append,List.length_singleton,← Nat.add_assoc,hj9,hI,pointEnd_go jC (by rintro ⟨g1,g2⟩;omega)]
       ·rintro D L o M3 _ hm3 ⟨hs3,rfl,ho1,hI⟩
        rw [show kn+(UM Yn kn).length=160 by unfold UM;simp;omega] at ho1 hI
        simp only [List.cons_append,List.nil_append]
        iterate 4 refine Stp ?_
        refine Zy F.lay41 ?_;refine Ya F.lay41 ?_;refine Ya F.lay3 ?_;refine Ya F.lay25 ?_
        iterate 3 refine Stp ?_
        refine K_endM (Ds:=[D]) (Hd:=[(D,.deferred (some []))]) (H:=(b4,rowO [.one (.int .i64 Ye),Yb Yn,.one (.int .i64 Yp),Yb YC,.one (Sl.val ⟨Yx,Yw,Yc⟩),.one (.slice ad8 ZI.length cp8)] 41)::(b5,rowO [.one (.int .i64 0)] 3)::(b6,rowO [.one (.int .i64 0)] 25)::hs3++H) (.inr rfl) (.cell rfl jB F.lay41 rfl rfl (.cell rfl jB F.lay3 rfl rfl (.cell rfl jB F.lay25 rfl rfl .nil))) (fun w hw=>hw.c) jU jU (fun w hw=>?_)
        obtain ⟨M9,s2,j1,j2,j3,j4,j5⟩:=OSl.freezeK (f:=Zs.segs) (H:=H) ho1 (hw.c)
        refine ⟨_,M9,rfl,hm2.trans (hm3.trans j1),j2,?_⟩
        rw [show WV (ZO.tb ⟨⟨Ye,Yn⟩,⟨Yp,YC⟩,⟨Yx,Yw,Yc⟩,⟨Yi,Yh,ZI⟩⟩) ((kn:Nat):Int) ⟨YI,p_id⟩=({ (ZO.tb ⟨⟨Ye,Yn⟩,⟨Yp,YC⟩,⟨Yx,Yw,Yc⟩,⟨Yi,Yh,ZI⟩⟩) with fingers:=ptW ZI kn 160 YD },0,0) from ?_]
        ·exact ⟨_,rfl,VU (s1:=⟨Yx,Yw,Yc⟩) (s2:=s2) rfl j3 (Xc.mono (hm2.trans (hm3.trans j1))) j5 (by rw [j4];rfl)⟩
        ·exact pointT_is (j:=160) jE jC yQ hI (show fingerOf (ZO.tb ⟨⟨Ye,Yn⟩,⟨Yp,YC⟩,⟨Yx,Yw,Yc⟩,⟨Yi,Yh,ZI⟩⟩) ⟨YI,p_id⟩=YD from if_pos jE) (if_pos rfl)
       ·rintro c D L o M3 _ pre post hpp hm3 ⟨rfl,hs3,j,rfl,hj1,hj2,ho1,hI⟩
        simp only [List.cons_append,List.nil_append]
        iterate 3 refine Stp ?_
        refine K_endM (Ds:=[D]) (Hd:=[(D,.deferred (some []))]) (H:=(b4,rowO [.one (.int .i64 Ye),Yb Yn,.one (.int .i64 Yp),Yb YC,.one (Sl.val ⟨Yx,Yw,Yc⟩),.one (.slice ad8 ZI.length cp8)] 41)::(b5,rowO [.one (.int .i64 (j:Int))] 3)::(b6,rowO [.one (.int .i64 0)] 25)::hs3++H) (.inr rfl) (.cell rfl jB F.lay41 rfl rfl (.cell rfl jB F.lay3 rfl rfl (.cell rfl jB F.lay25 rfl rfl .nil))) (fun w hw=>hw.c) jU jU (fun w hw=>?_)
        obtain ⟨M9,s2,j1,j2,j3,j4,j5⟩:=OSl.freezeK (f:=Zs.segs) (H:=H) ho1 (hw.c)
        refine ⟨_,M9,rfl,hm2.trans (hm3.trans j1),j2,?_⟩
        rw [show WV (ZO.tb ⟨⟨Ye,Yn⟩,⟨Yp,YC⟩,⟨Yx,Yw,Yc⟩,⟨Yi,Yh,ZI⟩⟩) ((kn:Nat):Int) ⟨YI,p_id⟩=({ (ZO.tb ⟨⟨Ye,Yn⟩,⟨Yp,YC⟩,⟨Yx,Yw,Yc⟩,⟨Yi,Yh,ZI⟩⟩) with fingers:=ptW ZI kn j YD },(j:Int),0) from ?_]
        ·exact ⟨_,rfl,VU (s1:=⟨Yx,Yw,Yc⟩) (s2:=s2) rfl j3 (Xc.mono (hm2.trans (hm3.trans j1))) j5 (by rw [j4];rfl)⟩
        ·exact pointT_is (j:=j) jE jC yQ hI (show fingerOf (ZO.tb ⟨⟨Ye,Yn⟩,⟨Yp,YC⟩,⟨Yx,Yw,Yc⟩,⟨Yi,Yh,ZI⟩⟩) ⟨YI,p_id⟩=YD from if_pos jE) (if_neg jC)
      ·contradiction
theorem F.elem142:slOf Tryz.prog 142=some (39,1,24):=by kernel_rfl
theorem F.lay142:lay Tryz.prog 142=some (false,1):=by kernel_rfl
theorem F.ok48:okFn Tryz.prog 48=true:=by kernel_rfl
theorem F.ok86:okFn Tryz.prog 86=true:=by kernel_rfl
theorem all_ok (M:Mem) (b:Nat) (hs12 hs7:Hp) (v7:Value) (p:Zs) (a2:Option Addr) (c2:Nat) (l2:List Zs) (a3:Option Addr) (c3:Nat) (l3:List Zs) (ho12:OSl 39 1 (.slice (some ⟨b,0,none⟩) 3 3) hs12 [[.one v7],[.one (Sl.val ⟨a2,c2,l2⟩)],[.one (Sl.val ⟨a3,c3,l3⟩)]]) (ho7:OSl 38 21 v7 hs7 ([p].map Zs.segs)) (k2:SlK M Zs.segs 21 ⟨a2,c2,l2⟩) (k3:SlK M Zs.segs 21 ⟨a3,c3,l3⟩):Fh Tryz.prog 44 [.slice (some ⟨b,0,none⟩) 3 3] M (hs12++hs7) (fun M' v Hout=>Hout=[]∧∃ (q1 c:Nat) (ad:Option Addr) (rows:List (Sl Zs)),v=.func (.func 83) #[] #[.pointer (some ⟨q1,0,none⟩)]∧M' q1=some (rowO [.one (.slice ad rows.length c)] 142)∧SlM M' ad (rows.map (fun s=>[.one s.val])) 1∧rows.length=3∧(∀ s∈rows,SlK M' Zs.segs 21 s)∧(rows.map Sl.l).flatten=p::(l2++l3)):=by
  refine YR (fun H=>hs12++(hs7++H)) (fun _=>(List.append_assoc _ _ _)) Tryz.func44 rfl Tryz.ntmps44 rfl ?_;intro H
  iterate 2 refine Stp ?_
  refine Xq ?_;intro b1
  iterate 5 refine Stp ?_
  refine VL rfl rfl rfl rfl rfl ?_
  iterate 4 refine Stp ?_
  refine ZV (.inr rfl) (.tmp rfl .nil) (fun w hw=>?_)
  obtain ⟨g1,g2⟩:=hw.freeze
  obtain ⟨M7,ad7,cp7,e1,e2,e3,e4⟩:=ho12.freeze g2
  obtain ⟨M8,s7,d1,d2,d3,d4,d5⟩:=OSl.freezeK (f:=Zs.segs) (l:=[p]) (H:=H) ho7 e2
  simp only [Value.slice.injEq,List.length_cons,List.length_nil] at e3
  obtain ⟨rfl,_,rfl⟩:=e3
  have hle:=g1.trans (e1.trans d1)
  refine ⟨_,M8,[],rfl,hle,d2,rfl,_,3,_,[s7,⟨a2,c2,l2⟩,⟨a3,c3,l3⟩],rfl,Mem.get_of (Mem.add_self _ _ _) (e1.trans d1),?_,rfl,?_,?_⟩
  ·have e5:=e4.mono d1;rw [d3] at e5;exact e5
  ·intro s hs;simp only [List.mem_cons,List.not_mem_nil,or_false] at hs;rcases hs with rfl|rfl|rfl;exact d5;exact k2.mono hle;exact k3.mono hle
  ·simp [d4]
theorem all_seq (M:Mem) (q1 c:Nat) (ad:Option Addr) (rows:List (Sl Zs)) (h1:M q1=some (rowO [.one (.slice ad rows.length c)] 142)) (h2:SlM M ad (rows.map (fun s=>[.one s.val])) 1) (hn:rows.length=3) (h3:∀ s∈rows,SlK M Zs.segs 21 s):Seqs Tryz.prog 83 [.pointer (some ⟨q1,0,none⟩)] (fun p:Zs=>[p.enc]) (rows.map Sl.l).flatten M []:=by
  intro lp J Jx hR M0 Jb G w hm0 hJ hw
  have nrows:(rows.map (fun s:Sl Zs=>[Seg.one s.val])).length=rows.length:=List.length_map ..
  refine enter (S:=St M0 (Jb++G)) Tryz.func83 rfl Tryz.ntmps83 rfl hw ?_
  iterate 2 refine Stp ?_
  refine X_load_mem rfl rfl rfl yP F.lay142 rfl rfl rfl ?_;refine YA F.elem142 ?_
  iterate 4 refine Stp ?_
  refine Y_pk [9,8,7,0] ?_;refine Wt (Hin:=Jb) (.succ .zero) jA (fun (i:Nat) M9 h1 z=>z=[(9,.int .i64 (i:Int))]∧i≤rows.length∧J ((rows.take i).map Sl.l).flatten M9 h1) (fun i=>rows.length-i) (0) (⟨rfl,by omega,hJ⟩) ?_
  rintro i M1 h1 z hm1 ⟨rfl,hi,hJ1⟩
  have h2b:=h2.mono (hm0.trans hm1)
  iterate 6 refine Stp ?_
  refine ZW rfl (cT fun hc1=>?_) (cF fun hc1=>?_)
  ·iterate 5 refine Stp ?_
   have hi2:i<rows.length:=by omega
   obtain ⟨⟨r_a,r_c,r_l⟩,hr⟩:∃ s,rows[i]=s:=⟨_,rfl⟩
   have k_r:SlK M1 Zs.segs 21 ⟨r_a,r_c,r_l⟩:=hr ▸ (h3 rows[i] (List.getElem_mem hi2)).mono (hm0.trans hm1)
   have s_r:=k_r.h1
   have n_r:(r_l.map Zs.segs).length=r_l.length:=List.length_map ..
   have m_r:r_l.length≤9223372036854775807:=k_r.h2
   simp only at s_r
   refine Stp ?_;refine Ys rfl rfl rfl rfl F.elem142 jR jC yB rfl ?_;refine Xm rfl rfl rfl jE yC F.lay39 rfl rfl rfl ?_
   rw [hr]
   iterate 6 refine Stp ?_
   refine YA F.elem39 ?_
   iterate 4 refine Stp ?_
   refine Y_pk [15,14,13,4,12,11,10,9,8,7,0] ?_;refine Wt (Hin:=h1) (.succ .zero) jA (fun (k:Nat) M9 h1 z=>z=[(15,.int .i64 (k:Int))]∧k≤r_l.length∧J (((rows.take i).map Sl.l).flatten++r_l.take k) M9 h1) (fun k=>r_l.length-k) (0) (⟨rfl,by omega,by rw [List.take_zero,List.append_nil];exact hJ1⟩) ?_
   rintro k M2 h2 z hm2 ⟨rfl,hk,hJ2⟩
   have s_r2:=s_r.mono hm2
   iterate 6 refine Stp ?_
   refine ZW rfl (cT fun hc2=>?_) (cF fun hc2=>?_)
   ·iterate 6 refine Stp ?_
    refine Ys rfl rfl rfl rfl F.elem39 jR jC yB rfl ?_;refine Xm rfl rfl rfl jE yC F.lay38 rfl rfl rfl ?_
    refine Yz F.zero38 ?_;intro b3
    refine Ya F.lay38 ?_
    iterate 3 refine Stp ?_
    refine Wh (l:=[0,1,2,3]) (Hin:=h2) jA rfl ?_;refine Yk ?_;refine Zy F.lay38 ?_;refine X_yield (x:=r_l[k]) (pre:=((rows.take i).map Sl.l).flatten++r_l.take k) (post:=r_l.drop (k+1)++((rows.drop (i+1)).map Sl.l).flatten) (Hb:=h2) rfl rfl rfl rfl rfl hR (flat_at hi2 hr jC) (hm0.trans (hm1.trans hm2)) hJ2 jA rfl (fun _ _ _ hm hw=>(hw.lower hm).c) rfl ?_ ?_
    ·intro M3 Jb3 hm3 hJ3
     iterate 8 refine Stp ?_
     refine YO rfl rfl rfl rfl rfl yA rfl ?_
     iterate 2 refine Stp ?_
     refine Xa (a':=[(15,_)]) (k+1) (Jb3) (.cons (k:=15) rfl (.cons (k:=14) rfl (.cons (k:=13) rfl (.cons (k:=4) rfl (.cons (k:=12) rfl (.cons (k:=11) rfl (.cons (k:=10) rfl (.cons (k:=9) rfl (.cons (k:=8) rfl (.cons (k:=7) rfl (.cons (k:=0) rfl (.nil)))))))))))) (hm2.trans hm3) (fun w hw=>by first|exact hw|exact hw.c) ?_ ?_
     ·exact ⟨rfl,by omega,by rw [List.take_add_one,List.getElem?_eq_getElem (by omega:k<r_l.length),← List.append_assoc];exact hJ3⟩
     ·omega
    ·intro M3 Jb3 hm3 hJ3
     iterate 13 refine Stp ?_
     refine ZV (.inr rfl) (.nil) (fun w hw=>?_)
     exact ⟨_,M3,Jb3,rfl,hm1.trans (hm2.trans hm3),hw.c,.inr ⟨_,_,flat_rest hi2 hr jC,hJ3⟩⟩
   ·iterate 7 refine Stp ?_
    refine YO rfl rfl rfl rfl rfl yA rfl ?_
    iterate 2 refine Stp ?_
    refine Xa (a':=[(9,_)]) (i+1) (h2) (.cons (k:=9) rfl (.cons (k:=8) rfl (.cons (k:=7) rfl (.cons (k:=0) rfl (.nil))))) (hm1.trans hm2) (fun w hw=>by first|exact hw|exact hw.c) ?_ ?_
    ·exact ⟨rfl,by omega,by obtain rfl:k=r_l.length:=jC;rw [flat_next hi2 hr,← List.take_length (l:=r_l)];exact hJ2⟩
    ·omega
  ·iterate 4 refine Stp ?_
   refine ZV (.inl rfl) (.nil) (fun w hw=>?_)
   obtain rfl:i=rows.length:=by omega
   exact ⟨_,M1,h1,rfl,hm1,hw.c,.inl (by rw [List.take_length] at hJ1;exact hJ1)⟩
theorem isNaN_ok (M:Mem) (x:Int):Fs Tryz.prog 86 [.int .i64 x] M (fun v=>v=Value.bool (decide (False))):=by
  refine Xe Tryz.func86 rfl Tryz.ntmps86 rfl ?_;intro H
  iterate 14 refine Stp ?_
  refine ZV (.inr rfl) (.tmp rfl .nil) (fun w hw=>?_)
  refine ⟨_,rfl,(hw.c),?_⟩
  clear hw
  refine congrArg Value.bool ?_
  simp
theorem Compare_ok (M:Mem) (x:Int) (y:Int):Fs Tryz.prog 48 [.int .i64 x,.int .i64 y] M (fun v=>v= (.int .i64 (cmp3 x y))):=by
  refine Xe Tryz.func48 rfl Tryz.ntmps48 rfl ?_;intro H
  iterate 8 refine Stp ?_
  refine X_fs rfl rfl F.ok86 rfl (isNaN_ok _ _) rfl ?_
  rintro _ rfl
  iterate 6 refine Stp ?_
  refine X_fs rfl rfl F.ok86 rfl (isNaN_ok _ _) rfl ?_
  rintro _ rfl
  iterate 9 refine Stp ?_
  refine ZW rfl (cT fun hc1=>?_) (cF fun hc1=>?_)
  ·(exfalso;omega)
  ·iterate 8 refine Stp ?_
   refine ZW rfl (cT fun hc2=>?_) (cF fun hc2=>?_)
   ·(exfalso;omega)
   ·iterate 10 refine Stp ?_
    refine ZW rfl (cT fun hc3=>?_) (cF fun hc3=>?_)
    ·iterate 7 refine Stp ?_
     refine ZV (.inr rfl) (.tmp rfl .nil) (fun w hw=>?_)
     refine ⟨_,rfl,(hw.c),?_⟩
     clear hw
     refine congrArg (Value.int .i64) ?_
     unfold cmp3
     (rw [if_pos jC];done)
    ·iterate 10 refine Stp ?_
     refine ZW rfl (cT fun hc4=>?_) (cF fun hc4=>?_)
     ·iterate 7 refine Stp ?_
      refine ZV (.inr rfl) (.tmp rfl .nil) (fun w hw=>?_)
      refine ⟨_,rfl,(hw.c),?_⟩
      clear hw
      refine congrArg (Value.int .i64) ?_
      unfold cmp3
      (rw [if_neg jC,if_pos jC];done)
     ·iterate 8 refine Stp ?_
      refine ZV (.inr rfl) (.tmp rfl .nil) (fun w hw=>?_)
      refine ⟨_,rfl,(hw.c),?_⟩
      clear hw
      refine congrArg (Value.int .i64) ?_
      unfold cmp3
      (rw [if_neg jC,if_neg jC];done)
theorem byAddr_ok (M:Mem) (x:Zs) (y:Zs):Fs Tryz.prog 47 [x.enc,y.enc] M (fun v=>v= (.int .i64 (cmp3 x.addr y.addr))):=by
  obtain ⟨x_addr,x_id⟩:=x
  obtain ⟨y_addr,y_id⟩:=y
  refine Xe Tryz.func47 rfl Tryz.ntmps47 rfl ?_;intro H
  iterate 2 refine Stp ?_
  refine Xq ?_;intro b1
  refine Xq ?_;intro b2
  iterate 5 refine Stp ?_
  refine Zi F.foff38_0 ?_;refine Zy F.lay3 ?_;refine Zi F.foff38_0 ?_;refine Zy F.lay3 ?_;refine X_fs rfl rfl F.ok48 rfl (Compare_ok _ _ _) rfl ?_
  rintro _ rfl
  iterate 4 refine Stp ?_
  refine ZV (.inr rfl) (.tmp rfl .nil) (fun w hw=>?_)
  refine ⟨_,rfl,(hw.c),?_⟩
  clear hw
  rfl
end Go.Proofs.YtglnjnacodgmaaaGreatDoor
namespace Go.Proofs
open Go.Shelf
def Tryz.sortL_ren:Go.Shelf.Ren:=⟨fun|6=>46|15=>75|14=>85|28=>134|29=>135|20=>137|21=>138|22=>139|23=>140|24=>141|25=>142|26=>143|27=>144|46=>183|47=>179|48=>180|49=>184|50=>185|57=>212|n=>n,fun|22=>39|24=>38|25=>99|3=>3|39=>136|0=>0|53=>152|55=>42|4=>4|46=>185|45=>184|50=>60|5=>5|9=>9|66=>238|70=>225|76=>272|77=>273|n=>n,fun|n=>n⟩
theorem Tryz.sortL:Go.Proofs.SlLaysF0.n6 Tryz.prog Tryz.sortL_ren:={
  mixed:=by kernel_rfl
  f6:=⟨Tryz.f46.name,by decide,Tryz.func46.trans (congrArg some (by kernel_rfl))⟩
  f14:=⟨Tryz.f85.name,by decide,Tryz.func85.trans (congrArg some (by kernel_rfl))⟩
  f15:=Tryz.func75.trans (congrArg some (by kernel_rfl))
  f20:=⟨Tryz.f137.name,by decide,Tryz.func137.trans (congrArg some (by kernel_rfl))⟩
  f21:=⟨Tryz.f138.name,by decide,Tryz.func138.trans (congrArg some (by kernel_rfl))⟩
  f22:=⟨Tryz.f139.name,by decide,Tryz.func139.trans (congrArg some (by kernel_rfl))⟩
  f23:=⟨Tryz.f140.name,by decide,Tryz.func140.trans (congrArg some (by kernel_rfl))⟩
  f24:=⟨Tryz.f141.name,by decide,Tryz.func141.trans (congrArg some (by kernel_rfl))⟩
  f25:=⟨Tryz.f142.name,by decide,Tryz.func142.trans (congrArg some (by kernel_rfl))⟩
  f26:=⟨Tryz.f143.name,by decide,Tryz.func143.trans (congrArg some (by kernel_rfl))⟩
  f27:=⟨Tryz.f144.name,by decide,Tryz.func144.trans (congrArg some (by kernel_rfl))⟩
  f28:=Tryz.func134.trans (congrArg some (by kernel_rfl))
  f29:=Tryz.func135.trans (congrArg some (by kernel_rfl))
  f46:=⟨Tryz.f183.name,by decide,Tryz.func183.trans (congrArg some (by kernel_rfl))⟩
  f47:=Tryz.func179.trans (congrArg some (by kernel_rfl))
  f48:=Tryz.func180.trans (congrArg some (by kernel_rfl))
  f49:=⟨Tryz.f184.name,by decide,Tryz.func184.trans (congrArg some (by kernel_rfl))⟩
  f50:=⟨Tryz.f185.name,by decide,Tryz.func185.trans (congrArg some (by kernel_rfl))⟩
  f57:=⟨Tryz.f212.name,by decide,Tryz.func212.trans (congrArg some (by kernel_rfl))⟩
  t0:=Tryz.underlying0
  a0:=Tryz.isAgg0
  z0:=Tryz.sizeOf0
  v0:=Tryz.zeroValue0
  t3:=Tryz.underlying3
  a3:=Tryz.isAgg3
  z3:=Tryz.sizeOf3
  v3:=Tryz.zeroValue3
  t4:=Tryz.underlying4
  a4:=Tryz.isAgg4
  z4:=Tryz.sizeOf4
  v4:=Tryz.zeroValue4
  t5:=Tryz.underlying5
  a5:=Tryz.isAgg5
  z5:=Tryz.sizeOf5
  v5:=Tryz.zeroValue5
  t9:=Tryz.underlying9
  a9:=Tryz.isAgg9
  z9:=Tryz.sizeOf9
  v9:=Tryz.zeroValue9
  t22:=Tryz.underlying39
  a22:=Tryz.isAgg39
  z22:=Tryz.sizeOf39
  v22:=Tryz.zeroValue39
  t25:=Tryz.underlying99
  a25:=Tryz.isAgg99
  z25:=Tryz.sizeOf99
  v25:=Tryz.zeroValue99
  t39:=Tryz.underlying136
  a39:=Tryz.isAgg136
  z39:=Tryz.sizeOf136
  v39:=Tryz.zeroValue136
  t45:=Tryz.underlying184
  a45:=Tryz.isAgg184
  z45:=Tryz.sizeOf184
  v45:=Tryz.zeroValue184
  t46:=Tryz.underlying185
  a46:=Tryz.isAgg185
  z46:=Tryz.sizeOf185
  v46:=Tryz.zeroValue185
  t50:=Tryz.underlying60
  a50:=Tryz.isAgg60
  z50:=Tryz.sizeOf60
  v50:=Tryz.zeroValue60
  t53:=Tryz.underlying152
  a53:=Tryz.isAgg152
  z53:=Tryz.sizeOf152
  v53:=Tryz.zeroValue152
  t55:=Tryz.underlying42
  a55:=Tryz.isAgg42
  z55:=Tryz.sizeOf42
  v55:=Tryz.zeroValue42
  t66:=Tryz.underlying238
  a66:=Tryz.isAgg238
  z66:=Tryz.sizeOf238
  v66:=Tryz.zeroValue238
  t70:=Tryz.underlying225
  a70:=Tryz.isAgg225
  z70:=Tryz.sizeOf225
  v70:=Tryz.zeroValue225
  t76:=Tryz.underlying272
  a76:=Tryz.isAgg272
  z76:=Tryz.sizeOf272
  v76:=Tryz.zeroValue272
  t77:=Tryz.underlying273
  a77:=Tryz.isAgg273
  z77:=Tryz.sizeOf273
  v77:=Tryz.zeroValue273 }
end Go.Proofs
namespace Go.Esp
open Go.Proofs Go.Shelf Go.RowKit Go.Lib Go.Sort
def memS (W:World):Mem:=⟨fun b=>W.heap[b]?,W.os,W.tape,W.output,W.drawn⟩
theorem St.startS (W:World):St (memS W) [] W:=⟨fun _ _ h=>h,fun _ _ h=>(by cases h),fun _ _ h=>(by cases h),List.nodup_nil,rfl,rfl,rfl,Nat.le_refl _⟩
theorem lays_of_fs {P:Program} {g:FuncId} {vs:List Value} {r:Value} (h:∀ M,Fs P g vs M (fun v=>v=r)) (W:World):Calls P g vs.toArray W fun e w'=>e=.returned r∧∃ q os',w'=grow (W.drewN q) os':=by
  refine (h (memS W) [] W (St.startS W)).mono ?_
  rintro e w' ⟨v,rfl,hst,rfl⟩
  refine ⟨rfl,w'.drawn-W.drawn,w'.heap.extract W.heap.size w'.heap.size,?_⟩
  have hp:∀ b o,W.heap[b]?=some o→w'.heap[b]?=some o:=hst.mem
  obtain ⟨h1,h2,h3,h4⟩:=hst.io
  have hle:W.heap.size≤w'.heap.size:=by
    rcases Nat.eq_zero_or_pos W.heap.size with h0|h0
    · omega
    · have:=hp (W.heap.size-1) _ (Array.getElem?_eq_getElem jC)
      have:=(Array.getElem?_eq_some_iff.1 this).1
      omega
  have hh:w'.heap=W.heap++w'.heap.extract W.heap.size w'.heap.size:=by
    apply Array.ext_getElem?
    intro i
    rw [Array.getElem?_append]
    split
    · rename_i hi
      rw [hp i _ (Array.getElem?_eq_getElem hi),Array.getElem?_eq_getElem hi]
    · rename_i hi
      rw [Array.getElem?_extract]
      rw [show W.heap.size+(i-W.heap.size)=i by omega]
      split
      · rfl
      · rw [Array.getElem?_eq_none];omega
  cases w' with
  | mk heap tape drawn os output =>
    simp only [grow,World.drewN,World.mk.injEq]
    simp only [memS] at h1 h2 h3 h4
    exact ⟨hh,h2,(Nat.add_sub_cancel' h4).symm,h1,h3⟩
section
variable {α:Type} [Inhabited α] {f:α→Segs} {sz:Nat}
theorem rowsCells_get {rows:List Segs} (h:lens sz rows) {j i:Nat} {r:Segs} (hr:rows[j]?=some r) (hi:i<sz):(ZZ rows)[j * sz+i]?=(Segs.cells r)[i]?:=by
  rw [← rowsCells_at h hr,List.getElem?_take,if_pos hi,List.getElem?_drop]
theorem flat_get (hpos:0<sz) (hk:∀ x,(Segs.cells (f x)).length=sz) {l:List α} (hl:lens sz (l.map f)) {t:Nat} (ht:t<l.length * sz) :
    (ZZ (l.map f))[t]?=some ((flatK (fun x=>Segs.cells (f x)) sz l.toArray)[t]!):=by
  have hj:t / sz<l.length:=(Nat.div_lt_iff_lt_mul hpos).2 ht
  have hm:=Nat.mod_lt t hpos
  have h:=rowsCells_get hl (j:=t / sz) (i:=t % sz) (r:=f l[t / sz]) (by rw [List.getElem?_map,List.getElem?_eq_getElem hj];rfl) hm
  rw [Nat.div_add_mod'] at h
  rw [h,get_flatK _ _ _ _ (by simpa using ht)]
  have e:l.toArray[t / sz]! = l[t / sz]:=by rw [getElem!_pos _ _ zS];simp
  rw [e,List.getElem?_eq_getElem (by rw [hk];exact hm)]
  congr 1
  rw [getElem!_pos _ _ (by rw [hk];exact hm)]
theorem st_sorted {M:Mem} {H:Hp} {w:World} {b T:Nat} {cur F:Array Value} (hw:St M ((b,.cells cur T (0,0))::H) w) (n:Nat) (os:Array Obj) :
    St M ((b,.cells (putCells id 0 F cur) T (0,0))::H) (grow (putRow id (Sort.ahead w n) b 0 F) os):=by
  have hb:=hw.own b _ (.head _)
  have hlt:=(Array.getElem?_eq_some_iff.1 hb).1
  refine hw.upd .head ?_ (fun c hc x hx=>?_) ⟨rfl,rfl,rfl,Nat.le_add_right _ _⟩
  · show ((w.heap.modify b _)++os)[b]?=_
    rw [Array.getElem?_append_left (by simpa using hlt),Array.getElem?_modify,if_pos rfl,hb]
    rfl
  · show ((w.heap.modify b _)++os)[c]?=_
    have hcl:=(Array.getElem?_eq_some_iff.1 hx).1
    rw [Array.getElem?_append_left (by simpa using hcl),Array.getElem?_modify,if_neg (Ne.symm hc),hx]
theorem sort_fh {P:Program} {ρ:Ren} (L:SlLaysF0.n6 P ρ) (aE:∀ w,(isAgg (ρ.t 24)).run P w=.ok true w) (zE:∀ w,(Go.sizeOf (ρ.t 24)).run P w=.ok sz w) (hpos:0<sz) (hk:∀ x,(Segs.cells (f x)).length=sz)
    (h1:∀ x,∀ v∈Segs.cells (f x),v.oneCell'=true) (cf:α→α→Int) (hO:SWO (ltOf cf)) (g:FuncId) (hg:okFn P g=true) (hc:∀ M x y,Fs P g [aggV (f x),aggV (f y)] M (fun v=>v=.int .i64 (cf x y)))
    {T b c:Nat} {l:List α} {hs:Hp} (ho:OSl T sz (.slice (some ⟨b,0,none⟩) l.length c) hs (l.map f)) (hl:l.length≤1000000) (M:Mem) :
    Fh P (ρ.f 6) [.slice (some ⟨b,0,none⟩) l.length c,.func (.func g) #[] #[]] M hs (fun M' v Hout=>M'=M∧v=.tuple #[]∧∃ l':List α,l'.Perm l∧l'.Pairwise (fun x y=>¬cf y x<0)∧OSl T sz (.slice (some ⟨b,0,none⟩) l.length c) Hout (l'.map f)):=by
  obtain ⟨cur,rfl,hl0,hlens,hle,hcm,hcs,htk⟩:=ho.inv
  have hml:(l.map f).length=l.length:=List.length_map ..
  rw [hml] at hle htk
  intro H w hw
  have hb:=hw.own b _ (.head _)
  have hlt:=(Array.getElem?_eq_some_iff.1 hb).1
  have hsz:l.length * sz≤cur.size:=by rw [hcs];exact Nat.mul_le_mul_right _ hle
  have hH:HoldsK (fun x=>Segs.cells (f x)) sz w b 0 l.toArray:=by
    intro j hj
    have hj':j<l.length * sz:=by simpa using hj
    refine ⟨?_,?_⟩
    · unfold World.cell?
      simp only [hb,Option.isSome_none,Bool.false_eq_true,if_false,Nat.zero_add,id]
      rw [← flat_get hpos hk hlens hj',← htk,List.getElem?_take,if_pos hj']
      simp
    · unfold World.frozen?
      simp only [hb]
      simp
  have hcl:CmpLays P g #[] (fun x=>Segs.cells (f x)) sz cf b 0 l.toArray.size w:=fun m os dk _ x y=>lays_of_fs (fun M=>hc M x y) _
  have key:=AnyQ.slices_SortFunc L sz aE zE (fun x=>Segs.cells (f x)) hk h1 cf hO g #[] b 0 c l.toArray w (fun args w=>callFunc_run hg) hcl hH hlt jY
  rw [show l.toArray.size=l.length from by simp] at key
  refine key.mono ?_
  rintro e w' ⟨rfl,d',n,os,⟨hp1,_,hp3⟩,hs1,rfl⟩
  have hd:d'.size=l.length:=by simpa using hp1
  have hst:=st_sorted (F:=flatK (fun x=>Segs.cells (f x)) sz d') hw n os
  have hperm:d'.toList.Perm l:=by
    have h9:=hp3
    rw [show d'.extract 0 l.length=d' from by rw [← hd];simp,show l.toArray.extract 0 l.length=l.toArray from by rw [show l.length=l.toArray.size from by simp];simp] at h9
    simpa using h9
  have hlens':lens sz (d'.toList.map f):=fun r hr=>by
    obtain ⟨x,hx,rfl⟩:=List.mem_map.1 hr
    rw [← Segs.cells_length];exact hk x
  refine ⟨_,M,[(b,.cells (putCells id 0 (flatK (fun x=>Segs.cells (f x)) sz d') cur) T (0,0))],rfl,Mem.le.refl M,hst,rfl,rfl,d'.toList,hperm,?_,?_⟩
  · rw [List.pairwise_iff_getElem]
    intro i j hi hj hij
    have h9:=hs1 i j (Nat.zero_le _) hij (by rw [← hd];simpa using hj)
    rw [getElem!_pos _ _ zS,getElem!_pos _ _ zT] at h9
    unfold ltOf at h9
    simpa using h9
  · have hln:(d'.toList.map f).length=l.length:=by simpa using hd
    have:=OSl.own (T:=T) b c (d'.toList.map f) (putCells id 0 (flatK (fun x=>Segs.cells (f x)) sz d') cur) hlens' (by rw [hln];exact hle) hcm (by simpa [putCells] using hcs) ?_
    · rw [hln] at this;exact this
    · apply List.ext_getElem?
      intro t
      rw [List.getElem?_take]
      by_cases ht:t<(d'.toList.map f).length * sz
      · rw [if_pos ht]
        have ht':t<d'.toList.length * sz:=by simpa using ht
        rw [flat_get hpos hk hlens' ht']
        have htc:t<cur.size:=by rw [hln] at ht;omega
        simp only [putCells,Array.getElem?_toList,Array.getElem?_mapIdx,Array.getElem?_eq_getElem htc,Option.map_some]
        rw [if_pos ⟨Nat.zero_le _,by simpa using ht⟩]
        simp
      · rw [if_neg ht,List.getElem?_eq_none]
        rw [rowsCells_len hlens'];omega
end
end Go.Esp
namespace Go.Proofs.YtglnjnacodgmaaaGreatDoor
open Go.Esp
theorem F.ok137:okFn Tryz.prog 137=true:=by kernel_rfl
theorem F.ok47:okFn Tryz.prog 47=true:=by kernel_rfl
theorem F.ok75:okFn Tryz.prog 75=true:=by kernel_rfl
theorem F.ok85:okFn Tryz.prog 85=true:=by kernel_rfl
theorem Ins_nil (M:Mem) (g:FuncId):Fs Tryz.prog 137 [.slice none 0 0,.int .i64 0,.int .i64 0,.func (.func g) #[] #[]] M (fun v=>v=.tuple #[]):=by
  refine Xe Tryz.func137 rfl Tryz.ntmps137 rfl ?_;intro H
  iterate 3 refine Stp ?_
  refine YO rfl rfl rfl rfl rfl yA rfl ?_
  iterate 4 refine Stp ?_
  refine Y_pk [8,0,1,2,3] ?_;refine VI (.succ .zero) (fun (_:Nat) z=>z=[(8,.int .i64 1)]) (fun _=>1) (0) (rfl) ?_
  rintro _ _ rfl
  iterate 8 refine Stp ?_
  refine ZW rfl (cT fun hc1=>?_) (cF fun hc1=>?_)
  ·(exfalso;omega)
  ·iterate 4 refine Stp ?_
   refine ZV (.inl rfl) (.nil) (fun w hw=>?_)
   exact ⟨_,rfl,hw.c,rfl⟩
theorem Pdq_nil (M:Mem) (g:FuncId) (lim:Int):Fs Tryz.prog 85 [.slice none 0 0,.int .i64 0,.int .i64 0,.int .i64 lim,.func (.func g) #[] #[]] M (fun v=>v=.tuple #[]):=by
  refine Xe Tryz.func85 rfl Tryz.ntmps85 rfl ?_;intro H
  iterate 11 refine Stp ?_
  refine Y_pk [1,2,3,10,11,0,4] ?_;refine VI (.succ (.succ (.succ (.succ (.succ .zero))))) (fun (_:Nat) z=>z=[(1,.int .i64 0),(2,.int .i64 0),(3,.int .i64 lim),(10,.bool true),(11,.bool true)]) (fun _=>1) (0) (rfl) ?_
  rintro _ _ rfl
  iterate 5 refine Stp ?_
  refine YO rfl rfl rfl rfl rfl yA rfl ?_
  iterate 10 refine Stp ?_
  refine ZW rfl (cT fun hc1=>?_) (cF fun hc1=>?_)
  ·iterate 6 refine Stp ?_
   refine X_fs rfl rfl F.ok137 rfl (Ins_nil M g) rfl ?_
   rintro _ rfl
   iterate 7 refine Stp ?_
   refine ZV (.inr rfl) (.nil) (fun w hw=>?_)
   exact ⟨_,rfl,hw.c,rfl⟩
  ·(exfalso;omega)
theorem Len_nil (M:Mem):Fs Tryz.prog 75 [.int .u64 0] M (fun v=>v=.int .i64 (Lib.bitLen 0)):=fun H w hw=>(Any.bits_Len (SlLaysF0.n15.bits (P:=Tryz.prog) (ρ:=Tryz.sortL_ren) { Tryz.sortL with }) 0 w (by omega) (by omega)).mono fun _ _ ⟨he,hw2⟩=>⟨_,he,by rw [hw2];exact hw,rfl⟩
theorem Sort_nil (M:Mem) (g:FuncId):Fs Tryz.prog 46 [.slice none 0 0,.func (.func g) #[] #[]] M (fun v=>v=.tuple #[]):=by
  refine Xe Tryz.func46 rfl Tryz.ntmps46 rfl ?_;intro H
  iterate 3 refine Stp ?_
  refine YA F.elem39 ?_
  iterate 7 refine Stp ?_
  refine Wz rfl rfl rfl Tryz.underlying3 Tryz.underlying136 yE rfl ?_;refine X_fs rfl rfl F.ok75 rfl (Len_nil M) rfl ?_
  rintro _ rfl
  refine Yk ?_;refine X_fs rfl rfl F.ok85 rfl (Pdq_nil M g _) rfl ?_
  rintro _ rfl
  refine Xb ?_
  refine ZV (.inl rfl) (.nil) (fun w hw=>?_)
  exact ⟨_,rfl,hw.c,rfl⟩
instance:Inhabited Zs:=⟨⟨0,0⟩⟩
theorem byAddr_swo:Sort.SWO (ltOf fun x y:Zs=>cmp3 x.addr y.addr):=by
  have e:∀ x y:Zs,ltOf (fun x y:Zs=>cmp3 x.addr y.addr) x y=decide (x.addr<y.addr):=by
   intro x y;unfold ltOf cmp3;by_cases h:x.addr<y.addr <;> simp [h];split <;> omega
  exact ⟨fun x=>by rw [e];simp,fun x y z h1 h2=>by rw [e] at *;simp at *;omega,fun x y z h1 h2=>by rw [e] at *;simp at *;omega⟩
theorem Sort_ok (M:Mem) (a:Option Addr) (c:Nat) (l:List Zs) (hs:Hp) (ho:OSl 38 21 (.slice a l.length c) hs (l.map Zs.segs)) (hl:l.length≤1000000):Fh Tryz.prog 46 [.slice a l.length c,.func (.func 47) #[] #[]] M hs (fun M' v Hout=>M'=M∧v=.tuple #[]∧∃ l':List Zs,l'.Perm l∧l'.Pairwise (fun x y=>x.addr≤y.addr)∧OSl 38 21 (.slice a l.length c) Hout (l'.map Zs.segs)):=by
  cases a with
  |none =>
   obtain ⟨rfl,rfl,rfl⟩:=ho.noneAll
   exact fun H w hw=>(Sort_nil M 47 H w hw).mono fun e w' ⟨v,he,hst,hv⟩=>⟨v,M,[],he,Mem.le.refl M,hst,rfl,hv,[],.refl _,.nil,OSl.nil⟩
  |some ad =>
   obtain ⟨b,rfl⟩:=ho.someAll
   have key:=sort_fh (f:=Zs.segs) (sz:=21) Tryz.sortL Tryz.isAgg38 Tryz.sizeOf38 jJ (fun x=>(Segs.cells_length _).trans (Zs.len x)) (fun x=>Zs.flat x) (fun x y:Zs=>cmp3 x.addr y.addr) byAddr_swo 47 F.ok47 (fun M x y=>byAddr_ok M x y) ho hl M
   exact fun H w hw=>(key H w hw).mono fun e w' ⟨v,M2,Ho,he,hle,hst,hM,hv,l2,h1,h2,h3⟩=>⟨v,M2,Ho,he,hle,hst,hM,hv,l2,h1,h2.imp (fun h=>by unfold cmp3 at h;split at h <;> (try split at h) <;> omega),h3⟩
theorem F.ok44:okFn Tryz.prog 44=true:=by kernel_rfl
theorem F.ok46:okFn Tryz.prog 46=true:=by kernel_rfl
theorem F.ok83:okFn Tryz.prog 83=true:=by kernel_rfl
theorem F.zero39:XW Tryz.prog 39=some ((.slice none 0 0)):=by kernel_rfl
theorem Known_ok (M:Mem) (t:ZO) (ht0:ZO.ok M t) (hbig:t.succ.l.length≤40∧t.fingers.l.length≤200):Esp.Fn Tryz.prog 20 [t.enc] M (fun M' v=>PsIs M' v (To t.tb)):=by
  obtain ⟨⟨Ye,Yn⟩,⟨Yp,YC⟩,⟨Yx,Yw,Yc⟩,⟨Yi,Yh,ZI⟩⟩:=t
  have Xc:SlK M Zs.segs 21 ⟨Yx,Yw,Yc⟩:=ht0.h0
  have s_t_succ:SlM M Yx (Yc.map Zs.segs) 21:=Xc.h1
  have n_t_succ:(Yc.map Zs.segs).length=Yc.length:=List.length_map ..
  have m_t_succ:Yc.length≤9223372036854775807:=Xc.h2
  have c_t_succ:Yc.length≤Yw:=Xc.h3
  have YG:SlK M Zs.segs 21 ⟨Yi,Yh,ZI⟩:=ht0.h1
  have Vz:SlM M Yi (ZI.map Zs.segs) 21:=YG.h1
  have n_t_fingers:(ZI.map Zs.segs).length=ZI.length:=List.length_map ..
  have VC:ZI.length≤9223372036854775807:=YG.h2
  have c_t_fingers:ZI.length≤Yh:=YG.h3
  simp only at hbig
  refine fnM_enter Tryz.func20 rfl Tryz.ntmps20 rfl ?_;intro H
  iterate 2 refine Stp ?_
  refine Xq ?_;intro b1
  iterate 5 refine Stp ?_
  refine Yz F.zero39 ?_;intro b2
  iterate 5 refine Stp ?_
  refine Zi F.foff41_1 ?_;refine Zy F.lay38 ?_
  refine YS rfl rfl F.elem39 F.zero38 rfl rfl (.cons rfl jG .nil) rfl rfl jL rfl ?_;intro b3 hob4
  refine Zi F.foff41_2 ?_;refine Zy F.lay39 ?_;refine Zi F.foff41_3 ?_;refine Zy F.lay39 ?_
  refine YS rfl rfl F.elem142 F.zero39 rfl rfl (.cons rfl jG (.cons rfl jG (.cons rfl jG .nil))) rfl rfl jL rfl ?_;intro b5 hob6
  refine X_fhR2 rfl rfl F.ok44 rfl (all_ok M _ _ _ _ ⟨Yp,YC⟩ Yx Yw Yc Yi Yh ZI hob6 hob4 Xc YG) jA jA (by rintro v M9 Hout w hm ⟨rfl,_⟩ hw;exact (hw.lower hm).c) (ZT rfl) ?_
  rintro _ M1 _ hm1 ⟨rfl,q1,qc,qad,qrows,rfl,hq1,hq2,hqn,hq3,hqx⟩
  simp only [List.nil_append]
  iterate 3 refine Stp ?_
  refine Y_pk [13,3,2,1] ?_;refine C_rangeFunc (enc:=fun p:Zs=>[p.enc]) (xs:=(qrows.map Sl.l).flatten) (Hi:=[]) (Hu:=(b1,rowO [.one (.int .i64 Ye),Yb Yn,.one (.int .i64 Yp),Yb YC,.one (Sl.val ⟨Yx,Yw,Yc⟩),.one (Sl.val ⟨Yi,Yh,ZI⟩)] 41)::(b2,rowO [.one (.slice none 0 0)] 39)::[]) (H0:=H) (fun pre M9 Hu=>∃ (acc:List Zs) (v:Value) (hs:Hp),Hu=(b1,rowO [.one (.int .i64 Ye),Yb Yn,.one (.int .i64 Yp),Yb YC,.one (Sl.val ⟨Yx,Yw,Yc⟩),.one (Sl.val ⟨Yi,Yh,ZI⟩)] 41)::(b2,rowO [.one v] 39)::hs∧OSl 38 21 v hs (acc.map Zs.segs)∧acc.length≤pre.length∧acc=pre.foldl (UV ⟨Ye,Yn⟩) []) (fun _ _ _ _=>False) rfl F.ok83 (all_seq M1 q1 qc qad qrows hq1 hq2 hqn hq3) (fun w hw=>hw.c) ⟨[],_,[],rfl,OSl.nil,by simp,rfl⟩ (fun _=>rfl) rfl ?_ ?_ ?_
  ·rintro lp rdy bsy pre ⟨x_addr,x_id⟩ post M3 _ G hxs hm3 ⟨acc,v0,hs0,rfl,ho,hal,hI⟩
   obtain ⟨ad0,cp0,rfl⟩:=ho.valL
   have hml:(acc.map Zs.segs).length=acc.length:=List.length_map ..
   have hpl:pre.length≤1000:=by
    have h9:=congrArg List.length (hqx.symm.trans hxs)
    simp only [List.length_cons,List.length_append] at h9
    omega
   simp only [List.cons_append,rEnv]
   refine Stp ?_
   refine Yz F.zero38 ?_;intro b7
   refine Ya F.lay38 ?_;refine Xb (K_assign1 ?_)
   iterate 3 refine Stp ?_
   refine Zi F.foff38_0 ?_;refine Zy F.lay3 ?_
   iterate 2 refine Stp ?_
   refine Yt 18 rfl (cT fun hc8=>?_) (cF fun hc8=>?_)
   ·refine Zi F.foff38_0 ?_
    refine Zy F.lay3 ?_;refine Zi F.foff41_0 ?_;refine Zi F.foff38_0 ?_;refine Zy F.lay3 ?_
    iterate 3 refine Stp ?_
    refine Yt 26 rfl (eT fun hc9=>?_) (eF fun hc9=>?_)
    ·refine Zy F.lay39 ?_
     refine Zi F.foff38_0 ?_;refine Zy F.lay3 ?_;refine X_fo rfl rfl F.ok45 rfl (has_rd _ hs0 ⟨ad0,cp0,acc⟩ _ (ho.rd _) (by show acc.length≤9223372036854775807;omega)) jA (ZT rfl) ?_
     rintro _ M1 _ ⟨hM1,rfl⟩;subst M1
     iterate 4 refine Stp ?_
     refine ZW rfl (eT fun hc10=>?_) (eF fun hc10=>?_)
     ·simp only [Zs.eta,ZO.eta,ZJ.eta,ZF.eta,Ym.eta,Yv.eta,Yy.eta,Yq.eta,ZN.eta,YF.eta,ZU.eta] at hc10
      refine Stp ?_;refine Zy F.lay39 ?_;refine Zy F.lay38 ?_
      refine YS rfl rfl F.elem39 F.zero38 rfl rfl (.cons rfl jG .nil) rfl rfl jL rfl ?_;intro b11 hob12
      refine WT (m:=1000000) rfl rfl rfl rfl rfl F.elem39 F.zero38 zL rfl jE jA (Src.own hob12.lens jO rfl jB) jN jJ rfl ?_;intro v15 hs14 ho13;obtain ⟨adv15,cpv15,rfl⟩:=ho13.valAt (n:=acc.length+1) zK
      refine Ya F.lay39 ?_
      iterate 2 refine Stp ?_
      refine K_rnd (Hu:=(b1,rowO [.one (.int .i64 Ye),Yb Yn,.one (.int .i64 Yp),Yb YC,.one (Sl.val ⟨Yx,Yw,Yc⟩),.one (Sl.val ⟨Yi,Yh,ZI⟩)] 41)::(b2,rowO [.one (.slice adv15 (acc.length+1) cpv15)] 39)::hs14) (Mem.le.refl _) (fun w hw=>hw.c) ⟨acc++[⟨x_addr,x_id⟩],_,_,rfl,by rw [List.map_append];exact ho13,by simp only [List.length_append,List.length_cons,List.length_nil];omega,?_⟩
      rw [met_step hI];unfold UV;rw [if_pos ⟨by assumption,by assumption,by assumption⟩]
     ·simp only [Zs.eta,ZO.eta,ZJ.eta,ZF.eta,Ym.eta,Yv.eta,Yy.eta,Yq.eta,ZN.eta,YF.eta,ZU.eta] at hc10
      iterate 2 refine Stp ?_
      refine K_rnd (Hu:=(b1,rowO [.one (.int .i64 Ye),Yb Yn,.one (.int .i64 Yp),Yb YC,.one (Sl.val ⟨Yx,Yw,Yc⟩),.one (Sl.val ⟨Yi,Yh,ZI⟩)] 41)::(b2,rowO [.one (.slice ad0 acc.length cp0)] 39)::hs0) (Mem.le.refl _) (fun w hw=>hw.c) ⟨acc,_,_,rfl,ho,by simp only [List.length_append,List.length_cons,List.length_nil];omega,?_⟩
      rw [met_step hI];unfold UV;rw [if_neg yK]
    ·iterate 11 refine Stp ?_
     refine K_rnd (Hu:=(b1,rowO [.one (.int .i64 Ye),Yb Yn,.one (.int .i64 Yp),Yb YC,.one (Sl.val ⟨Yx,Yw,Yc⟩),.one (Sl.val ⟨Yi,Yh,ZI⟩)] 41)::(b2,rowO [.one (.slice ad0 acc.length cp0)] 39)::hs0) (Mem.le.refl _) (fun w hw=>hw.c) ⟨acc,_,_,rfl,ho,by simp only [List.length_append,List.length_cons,List.length_nil];omega,?_⟩
     rw [met_step hI];unfold UV;rw [if_neg yK]
   ·iterate 19 refine Stp ?_
    refine K_rnd (Hu:=(b1,rowO [.one (.int .i64 Ye),Yb Yn,.one (.int .i64 Yp),Yb YC,.one (Sl.val ⟨Yx,Yw,Yc⟩),.one (Sl.val ⟨Yi,Yh,ZI⟩)] 41)::(b2,rowO [.one (.slice ad0 acc.length cp0)] 39)::hs0) (Mem.le.refl _) (fun w hw=>hw.c) ⟨acc,_,_,rfl,ho,by simp only [List.length_append,List.length_cons,List.length_nil];omega,?_⟩
    rw [met_step hI];unfold UV;rw [if_neg yK]
  ·rintro D L o M3 _ hm3 ⟨acc,v0,hs0,rfl,ho,hal,hI⟩
   obtain ⟨ad0,cp0,rfl⟩:=ho.valL
   have hpl:acc.length≤1000:=by
    have h9:=congrArg List.length hqx
    simp only [List.length_cons,List.length_append] at h9
    omega
   simp only [List.cons_append,List.nil_append]
   iterate 3 refine Stp ?_
   refine Wh (l:=[0,1]) (Hin:=hs0) jA rfl ?_;refine Zy F.lay39 ?_;refine WE rfl rfl F.ok46 rfl (Sort_ok M3 ad0 cp0 acc hs0 ho jC) jA (fun _ _ _ hm hw=>(hw.lower jV).c) (ZT rfl) ?_
   rintro _ M4 hs9 hm4 ⟨hM4,rfl,l9,hp9,hs99,ho9⟩;subst M4
   iterate 4 refine Stp ?_
   refine Zy F.lay39 ?_
   iterate 4 refine Stp ?_
   refine K_endM (Ds:=[D]) (Hd:=[(D,.deferred (some []))]) (H:=hs9++H) (.inr rfl) (.tmp rfl .nil) (fun w hw=>hw.c) jU jU (fun w hw=>?_)
   obtain ⟨M9,j1,j2,j3⟩:=OSl.frz ho9 hw
   exact ⟨_,M9,rfl,hm1.trans (hm3.trans j1),j2,⟨ad0,cp0,l9⟩,congrArg (fun n=>Value.slice ad0 n cp0) (by simpa using hp9.length_eq.symm),known_is (by rw [hI,hqx] at hp9;exact hp9) hs99,j3⟩
  ·intro c D L o M2 Hu2 pre post _ _ h;exact h.elim
end Go.Proofs.YtglnjnacodgmaaaGreatDoor
