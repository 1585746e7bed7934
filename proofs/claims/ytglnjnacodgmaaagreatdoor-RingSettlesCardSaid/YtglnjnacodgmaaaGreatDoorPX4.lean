/-
  Texts of this claim, one behind the other: W1, WireN, W2, W3, W4, W5, DeferN, W6, BagN, Bag1, Bag2, Bag3, ReqN, RingM, RingH, MapsI, RingI, R1, R2, R3, SortN, SortIL, R4, KT1, KT2, KT3, TableN, WalkM, V1, V2, CircleN, V6, SetM, V7.
-/
import Derived.Test.YtglnjnacodgmaaaGreatDoorPX3
import Derived.Defers
import Derived.Recover
import Derived.Test.YtglnjnacodgmaaaGreatDoorRows
import Derived.Maps.RangeRun
import Derived.Shelf.Sort.Plain
import Derived.Shelf.Slices.In.SortNone
import Derived.Ground.NamesProg
set_option linter.unusedSimpArgs false
set_option linter.unusedVariables false
set_option linter.unnecessarySimpa false
set_option maxRecDepth 8000
set_option maxHeartbeats 1000000
open Array renaming getElem?_eq_getElem → E8,getElem?_eq_some_iff → E4
open BitVec renaming toNat_ofNat → H4
open Decidable renaming byContradiction → C2
open List renaming append_assoc → B5,append_nil → E0,cons_append → B4,ext_getElem → J4,findIdx_cons → G9,foldl_append → I4,getElem?_append_left → F5,getElem?_append_right → G2,getElem?_eq_getElem → A7,getElem?_eq_some_iff → C4,getElem?_map → E6,getElem?_take → I1,getElem_map → I7,getElem_mem → C1,getElem_of_mem → E2,get_eq_getElem → H9,length_append → B3,length_cons → C8,length_map → A8,length_nil → D5,length_take → D8,map_append → C6,map_cons → D3,map_map → I2,mem_append → B8,mem_append_left → C5,mem_append_right → D0,mem_cons → B7,mem_cons_of_mem → B2,mem_cons_self → B1,mem_filter → F6,mem_map → C0,mem_map_of_mem → G8,mem_of_getElem? → H8,mem_range → G7,mem_singleton → B0,nil_append → B6,nodup_append → H3,nodup_cons → D9,nodup_nil → J1,pairwise_cons → D6,pairwise_iff_getElem → E1,take_add_one → C9,take_append_drop → F0,take_length → G0,take_of_length_le → H5
open List.Mem renaming head → J3,tail → J6
open List.Pairwise renaming nil → J8
open List.cons renaming injEq → J9
open Nat renaming le_of_ble_eq_true → D1,le_refl → B9,le_trans → H7,lt_or_ge → C7,mod_eq_of_lt → E3,mod_lt → G5,zero_add → F2,zero_le → C3
open Option renaming getD_some → F7,map_some → E9
open Option.some renaming injEq → G1
open Prod.mk renaming injEq → I8
namespace Go.Proofs.YtglnjnacodgmaaaGreatDoor
open Go.Esp
theorem F.elem202:Na Tryz.prog 202=some (5,1,1):=by kernel_rfl
theorem F.zero5:XP Tryz.prog 5=some ((.int .u8 0)):=by kernel_rfl
def Gd:ByteArray:=⟨#[0,1,2,2,3,3,3,3,4,4,4,4,4,4,4,4,5,5,5,5,5,5,5,5,5,5,5,5,5,5,5,5,6,6,6,6,6,6,6,6,6,6,6,6,6,6,6,6,6,6,6,6,6,6,6,6,6,6,6,6,6,6,6,6,7,7,7,7,7,7,7,7,7,7,7,7,7,7,7,7,7,7,7,7,7,7,7,7,7,7,7,7,7,7,7,7,7,7,7,7,7,7,7,7,7,7,7,7,7,7,7,7,7,7,7,7,7,7,7,7,7,7,7,7,7,7,7,7,8,8,8,8,8,8,8,8,8,8,8,8,8,8,8,8,8,8,8,8,8,8,8,8,8,8,8,8,8,8,8,8,8,8,8,8,8,8,8,8,8,8,8,8,8,8,8,8,8,8,8,8,8,8,8,8,8,8,8,8,8,8,8,8,8,8,8,8,8,8,8,8,8,8,8,8,8,8,8,8,8,8,8,8,8,8,8,8,8,8,8,8,8,8,8,8,8,8,8,8,8,8,8,8,8,8,8,8,8,8,8,8,8,8,8,8,8,8,8,8,8,8,8,8,8,8,8,8]⟩
theorem QD:∀ k<256,(XR Gd).getD k 0=JY k:=by decide +kernel
theorem Zqk(M:Mem)(v:Nat)(R:v<18446744073709551616):Fs Tryz.prog 135 [.int .u64 (v:Int)] M (fun r=>r=.int .i64 ((JY v:Nat):Int)):=by
 refine Xa Tryz.func135 rfl Tryz.ntmps135 rfl ?_;intro H;refine S12 ?_;refine Xb (cT fun C=>?_) (cF fun C=>?_)
 ·refine S3 ?_;refine VK rfl rfl rfl rfl jM (Uw 32 jM) rfl rfl ?_;refine Stp ?_;refine Xs 0 rfl (show _=Value.int .u64 ((((v / 4294967296):Nat):Int))from congrArg _ jD) ?_;refine S13 ?_;refine Xb (cT fun D=>?_) (cF fun D=>?_)
  ·refine S3 ?_;refine VK rfl rfl rfl rfl jM (Uw 16 jM) rfl rfl ?_;refine Stp ?_;refine Xs 0 rfl (show _=Value.int .u64 (((((v / 4294967296) / 65536):Nat):Int))from congrArg _ jD) ?_;refine S15 ?_;refine Xb (cT fun L=>?_) (cF fun L=>?_)
   ·refine S3 ?_;refine VK rfl rfl rfl rfl jM (Uw 8 jM) rfl rfl ?_;refine Stp ?_;refine Xs 0 rfl (show _=Value.int .u64 ((((((v / 4294967296) / 65536) / 256):Nat):Int))from congrArg _ jD) ?_;refine S12 ?_;have j:=QR (n:=(((v / 4294967296) / 65536) / 256)) (k:=8) jY;refine Stp ?_;refine Xs 21 rfl (show _=Value.int .u8 ((((((v / 4294967296) / 65536) / 256):Nat):Int))from congrArg _ zH) ?_;refine VH (k:=(((v / 4294967296) / 65536) / 256)) (s:=Gd) rfl rfl rfl rfl Tryz.underlying9 zH jY (show _=Value.int .u8 ((JY (((v / 4294967296) / 65536) / 256):Nat):Int)from by rw[QD _ jD]) rfl ?_;refine S6 ?_;refine ZH fun w hw=>?_;refine⟨_,rfl,hw.c,congrArg (Value.int .i64) ?_⟩;have d:=Tv (n:=v) (k:=32) (by show 4294967296≤_;omega);rw[show(2:Nat) ^ 32=4294967296 from rfl]at d;have g:=Tv (n:=(v / 4294967296)) (k:=16) (by show 65536≤_;omega);rw[show(2:Nat) ^ 16=65536 from rfl]at g;have y:=Tv (n:=((v / 4294967296) / 65536)) (k:=8) (by show 256≤_;omega);rw[show(2:Nat) ^ 8=256 from rfl]at y;omega
   refine S6 ?_;have j:=QR (n:=((v / 4294967296) / 65536)) (k:=8) jY;refine Stp ?_;refine Xs 21 rfl (show _=Value.int .u8 (((((v / 4294967296) / 65536):Nat):Int))from congrArg _ zH) ?_;refine VH (k:=((v / 4294967296) / 65536)) (s:=Gd) rfl rfl rfl rfl Tryz.underlying9 zH jY (show _=Value.int .u8 ((JY ((v / 4294967296) / 65536):Nat):Int)from by rw[QD _ jD]) rfl ?_;refine S6 ?_;refine ZH fun w hw=>?_;refine⟨_,rfl,hw.c,congrArg (Value.int .i64) ?_⟩;have d:=Tv (n:=v) (k:=32) (by show 4294967296≤_;omega);rw[show(2:Nat) ^ 32=4294967296 from rfl]at d;have g:=Tv (n:=(v / 4294967296)) (k:=16) (by show 65536≤_;omega);rw[show(2:Nat) ^ 16=65536 from rfl]at g;omega
  refine S9 ?_;refine Xb (cT fun F=>?_) (cF fun F=>?_)
  ·refine S3 ?_;refine VK rfl rfl rfl rfl jM (Uw 8 jM) rfl rfl ?_;refine Stp ?_;refine Xs 0 rfl (show _=Value.int .u64 (((((v / 4294967296) / 256):Nat):Int))from congrArg _ jD) ?_;refine S12 ?_;have j:=QR (n:=((v / 4294967296) / 256)) (k:=8) jY;refine Stp ?_;refine Xs 21 rfl (show _=Value.int .u8 (((((v / 4294967296) / 256):Nat):Int))from congrArg _ zH) ?_;refine VH (k:=((v / 4294967296) / 256)) (s:=Gd) rfl rfl rfl rfl Tryz.underlying9 zH jY (show _=Value.int .u8 ((JY ((v / 4294967296) / 256):Nat):Int)from by rw[QD _ jD]) rfl ?_;refine S6 ?_;refine ZH fun w hw=>?_;refine⟨_,rfl,hw.c,congrArg (Value.int .i64) ?_⟩;have d:=Tv (n:=v) (k:=32) (by show 4294967296≤_;omega);rw[show(2:Nat) ^ 32=4294967296 from rfl]at d;have y:=Tv (n:=(v / 4294967296)) (k:=8) (by show 256≤_;omega);rw[show(2:Nat) ^ 8=256 from rfl]at y;omega
  refine S6 ?_;have j:=QR (n:=(v / 4294967296)) (k:=8) jY;refine Stp ?_;refine Xs 21 rfl (show _=Value.int .u8 ((((v / 4294967296):Nat):Int))from congrArg _ zH) ?_;refine VH (k:=(v / 4294967296)) (s:=Gd) rfl rfl rfl rfl Tryz.underlying9 zH jY (show _=Value.int .u8 ((JY (v / 4294967296):Nat):Int)from by rw[QD _ jD]) rfl ?_;refine S6 ?_;refine ZH fun w hw=>?_;refine⟨_,rfl,hw.c,congrArg (Value.int .i64) ?_⟩;have d:=Tv (n:=v) (k:=32) (by show 4294967296≤_;omega);rw[show(2:Nat) ^ 32=4294967296 from rfl]at d;omega
 refine S9 ?_;refine Xb (cT fun B=>?_) (cF fun B=>?_)
 ·refine S3 ?_;refine VK rfl rfl rfl rfl jM (Uw 16 jM) rfl rfl ?_;refine Stp ?_;refine Xs 0 rfl (show _=Value.int .u64 ((((v / 65536):Nat):Int))from congrArg _ jD) ?_;refine S15 ?_;refine Xb (cT fun O=>?_) (cF fun O=>?_)
  ·refine S3 ?_;refine VK rfl rfl rfl rfl jM (Uw 8 jM) rfl rfl ?_;refine Stp ?_;refine Xs 0 rfl (show _=Value.int .u64 (((((v / 65536) / 256):Nat):Int))from congrArg _ jD) ?_;refine S12 ?_;have j:=QR (n:=((v / 65536) / 256)) (k:=8) jY;refine Stp ?_;refine Xs 21 rfl (show _=Value.int .u8 (((((v / 65536) / 256):Nat):Int))from congrArg _ zH) ?_;refine VH (k:=((v / 65536) / 256)) (s:=Gd) rfl rfl rfl rfl Tryz.underlying9 zH jY (show _=Value.int .u8 ((JY ((v / 65536) / 256):Nat):Int)from by rw[QD _ jD]) rfl ?_;refine S6 ?_;refine ZH fun w hw=>?_;refine⟨_,rfl,hw.c,congrArg (Value.int .i64) ?_⟩;have g:=Tv (n:=v) (k:=16) (by show 65536≤_;omega);rw[show(2:Nat) ^ 16=65536 from rfl]at g;have y:=Tv (n:=(v / 65536)) (k:=8) (by show 256≤_;omega);rw[show(2:Nat) ^ 8=256 from rfl]at y;omega
  refine S6 ?_;have j:=QR (n:=(v / 65536)) (k:=8) jY;refine Stp ?_;refine Xs 21 rfl (show _=Value.int .u8 ((((v / 65536):Nat):Int))from congrArg _ zH) ?_;refine VH (k:=(v / 65536)) (s:=Gd) rfl rfl rfl rfl Tryz.underlying9 zH jY (show _=Value.int .u8 ((JY (v / 65536):Nat):Int)from by rw[QD _ jD]) rfl ?_;refine S6 ?_;refine ZH fun w hw=>?_;refine⟨_,rfl,hw.c,congrArg (Value.int .i64) ?_⟩;have g:=Tv (n:=v) (k:=16) (by show 65536≤_;omega);rw[show(2:Nat) ^ 16=65536 from rfl]at g;omega
 refine S9 ?_;refine Xb (cT fun K=>?_) (cF fun K=>?_)
 ·refine S3 ?_;refine VK rfl rfl rfl rfl jM (Uw 8 jM) rfl rfl ?_;refine Stp ?_;refine Xs 0 rfl (show _=Value.int .u64 ((((v / 256):Nat):Int))from congrArg _ jD) ?_;refine S12 ?_;have j:=QR (n:=(v / 256)) (k:=8) jY;refine Stp ?_;refine Xs 21 rfl (show _=Value.int .u8 ((((v / 256):Nat):Int))from congrArg _ zH) ?_;refine VH (k:=(v / 256)) (s:=Gd) rfl rfl rfl rfl Tryz.underlying9 zH jY (show _=Value.int .u8 ((JY (v / 256):Nat):Int)from by rw[QD _ jD]) rfl ?_;refine S6 ?_;refine ZH fun w hw=>?_;refine⟨_,rfl,hw.c,congrArg (Value.int .i64) ?_⟩;have y:=Tv (n:=v) (k:=8) (by show 256≤_;omega);rw[show(2:Nat) ^ 8=256 from rfl]at y;omega
 refine S6 ?_;have j:=QR (n:=v) (k:=8) jY;refine Stp ?_;refine Xs 21 rfl (show _=Value.int .u8 (((v:Nat):Int))from congrArg _ zH) ?_;refine VH (k:=v) (s:=Gd) rfl rfl rfl rfl Tryz.underlying9 zH jY (show _=Value.int .u8 ((JY v:Nat):Int)from by rw[QD _ jD]) rfl ?_;refine S6 ?_;refine ZH fun w hw=>?_;refine⟨_,rfl,hw.c,congrArg (Value.int .i64) ?_⟩;omega
theorem Zub(v k:Nat):w8 ((v:Int) / 2 ^ (8 * k))=((v / 256 ^ k % 256:Nat):Int):=by
 rw[show(256:Nat) ^ k=2 ^ (8 * k)by rw[show(256:Nat)=2 ^ 8 from rfl,← Nat.pow_mul]];unfold w8;rw[Int.natCast_emod,Int.natCast_ediv,Int.natCast_pow];rfl
theorem Zgs(M:Mem)(v:Nat)(T:v<18446744073709551616):Esp.Fn Tryz.prog 222 [.int .u64 (v:Int)] M (fun M' r=>∃ Z c,r=.slice (some Z) (Sa v+1) c∧SlM M' (some Z) ((SL v).map u8R) 1):=by
 have aa:=Jh T;have ae:=QR (n:=v) (k:=64) T;refine WE Tryz.func222 rfl Tryz.ntmps222 rfl ?_;intro H;refine S8 ?_;refine Vn (Zqk _ _ jE) ?_;rintro _ rfl;refine S4 ?_;refine Xs 3 rfl (show _=Value.int .i64 (((Sa v:Nat):Int))from congrArg _ (by unfold Sa;omega)) ?_;refine S6 ?_;refine YK rfl rfl F.elem202 F.zero5 rfl rfl (.cons rfl jG .nil) rfl rfl jK rfl ?_;intro b1 g;refine S12 ?_;refine VG [5,4,3,2,0] ?_;refine XV (Hin:=_) (.succ (.succ .zero)) jA (fun(k:Nat) U h1 z=>∃ v1,U=M∧z=[(5,.int .i64 ((Sa v:Int)-1-k)),(4,v1)]∧k≤Sa v∧OSl 5 1 v1 h1 ((Sa v::(beL (Sa v) v).take k).map u8R)) (fun k=>Sa v-k) (0) (⟨_,rfl,(by rw[show((Sa v:Int)-1-((0:Nat):Int))=(Sa v:Int)-1 from Int.sub_zero _]),by omega,g⟩) ?_;rintro k U h1 z ag ⟨v1,B,rfl,hk,y⟩;obtain rfl:=B.symm;obtain⟨ab,ai,rfl⟩:=y.valL;have D:(Sa v::(beL (Sa v) v).take k).length=k+1:=by rw[C8,D8,SI];omega
 have aj:((Sa v::(beL (Sa v) v).take k).map u8R).length=k+1:=by rw[A8,D]
 refine S7 ?_;refine Xb (cT fun L=>?_) (cF fun L=>?_)
 ·refine S9 ?_;refine Xs 23 rfl (show _=Value.int .i64 (((8 * (Sa v-1-k):Nat):Int))from congrArg _ jD) ?_;refine VK rfl rfl rfl rfl jD (Uw (8 * (Sa v-1-k)) (by show 8 * _≤64;omega)) rfl rfl ?_;refine Stp ?_;refine Xs 25 rfl (show _=Value.int .u8 (((v / 256 ^ (Sa v-1-k) % 256:Nat):Int))from congrArg _ (Zub v _)) ?_;refine YK rfl rfl F.elem202 F.zero5 rfl rfl (.cons rfl jG .nil) rfl rfl jK rfl ?_;intro b4 j;refine Vc (m:=1000000) rfl rfl rfl rfl rfl F.elem202 F.zero5 zH rfl jE jA (Src.own j.lens jN rfl jB) jX jM rfl ?_;intro v8 C d;obtain⟨O,R,rfl⟩:=d.val;refine S7 ?_;refine Xs 19 rfl (show _=Value.int .i64 ((Sa v:Int)-1-((k+1:Nat):Int))from congrArg _ jD) ?_;refine S2 ?_;refine YO (a':=[(5,_),(4,_)]) (k+1) (C) (.cons (k:=5) rfl (.cons (k:=4) rfl (.cons (k:=3) rfl (.cons (k:=2) rfl (.cons (k:=0) rfl (.nil)))))) jO (fun w hw=>by first|exact hw|exact hw.c) ?_ ?_
  ·refine⟨_,rfl,rfl,by omega,?_⟩;refine d.as9 ?_;rw[Zpn jD,← B4,C6];rfl
  omega
 refine S7 ?_;have ah:=y.caps;obtain⟨V,rfl⟩:=y.someB jD;refine S3 ?_;refine Xs 30 rfl (show _=Value.int .i64 (((1+Sa v:Nat):Int))from congrArg _ jD) ?_;refine S2 ?_;refine Xs 32 rfl (show _=Value.int .i64 (((1+Sa v:Nat):Int))from congrArg _ jD) ?_;refine WL (olo:=none) (ohi:=some (1+Sa v)) (omx:=some (1+Sa v)) rfl rfl rfl .none (.some rfl rfl) (.some rfl rfl) F.elem202 (by show 1+Sa v≤_;omega) (B9 _) (C3 _) (fun _=>rfl) (show WK _ 1 0 (1+Sa v) (1+Sa v)=.slice (some ⟨V,0,none⟩) (1+Sa v) (1+Sa v)from by rw[KY jD];rfl) rfl ?_;refine S4 ?_;refine ZH fun w hw=>?_;obtain rfl:k=Sa v:=by omega
 have K:=hw.cnt (H':=h1++H) jF;obtain⟨M2,g1,g2,g3⟩:=y.frz K;have g4:=g3.h1;rw[H5 (by rw[SI];omega)]at g4;exact⟨_,M2,rfl,g1,g2,⟨V,0,none⟩,1+Sa v,(by rw[Nat.add_comm 1];rfl),g4⟩
end Go.Proofs.YtglnjnacodgmaaaGreatDoor
namespace Go.Esp
section
variable {P:Program} {n:Sh} {Q:Exit→Act→World→Prop} {M M':Mem} {H H' H0:Hp} {e:Env} {S:World→Prop}
theorem RD{α:Type}{c rest:Code}(pre:α→Env)(F:α→Prop)(S2:α→World→Prop){g:Env}(y:Pick e g)
 (h1:C P n c (Exit.then (fun a w=>∃ x,F x∧Sat n (pre x++g) a∧S2 x w) Q) S e) (h2:∀ x,F x→C P n rest Q (S2 x) (pre x++g)) :
 C P n c (Exit.then (rest.wpIn (Fr n.ro) 0 P Q) Q) S e:=by
 intro a w ha hw;refine wpIn_mono (h1 a w ha hw) fun x a' j hx=>?_;cases x with
 | normal =>
  obtain⟨x,v,hs,d⟩:=hx;exact h2 x v a' j hs d
 | _=>exact hx
theorem Ul{α:Type}{g:World→Prop}{pre:α→Env}{F:α→Prop}{S2:α→World→Prop}{d j:Env}(x:α)(v:F x)(B:Pick j (pre x++d))(y:∀ w,g w→S2 x w):
 K n (Exit.then (fun a w=>∃ x,F x∧Sat n (pre x++d) a∧S2 x w) Q) .normal g j:=fun a w ha hw=>⟨x,v,ha.pick B,y w hw⟩
section
variable {ops:Array Oper}
theorem Zdd {f : FuncId} {g : Operand} {xs : Array Operand} {ats : Array TypeId} {dst : Option Tmp} {ty : TypeId} {pos : String} {af : Array Edge} {gd : Option (Nat × Bool)} {a : Act} {w : World} {vs bs caps : List Value} {fn : Func} {K : Value → World → Prop} (hf : P.funcs[f]? = some fn) (hb : fn.body.isSome = true) (hn : (fn.name == "runtime.NumGoroutine") = false)
 (hg:a.eval g=.func (.func f) bs.toArray caps.toArray) (hv:xs.toList.map a.eval=vs) (h:Calls P f (bs++vs++caps).toArray w fun e w'=>∃ v,e=.returned v∧K v w') :
 Oper.does P ⟨dst,.call ⟨.value g,xs,ats⟩,ty,pos,af,gd⟩ a w K:=by
 unfold Oper.does;have:(execOp a.eval ⟨dst,.call ⟨.value g,xs,ats⟩,ty,pos,af,gd⟩).run P w=.ok (.enter f (bs++vs++caps).toArray) w:=by
  simp only[execOp,resolve,hg,Deferred.ofValue,pure_bind,invoke];have e:bs.toArray++xs.map a.eval++caps.toArray=(bs++vs++caps).toArray:=by
   simp[hv]
  rw[e];unfold callFunc;rw[Sem.run_bind];show(Result.ok P w).andThen _=_;rw[Result.andThen_ok];simp only[hf,hn];have:fn.body.isNone=false:=by cases h':fn.body <;> simp_all
  simp only[this];rfl
 grind
theorem Zrq{n:Sh}{rest:List Nat}{J:World→Prop}{i:Nat}{dst:Option Tmp}{ty:TypeId}{pos:String}{af:Array Edge}{gd:Option (Nat×Bool)}{f:FuncId}{g:Operand}{xs:List Operand}{j:Array TypeId}{vs bs caps:List Value}{Hin y:Hp}{R:Mem→Value→Hp→Prop}(hi:ops[i]?=some ⟨dst,.call ⟨.value g,xs.toArray,j⟩,ty,pos,af,gd⟩)(B:NE P (.call ⟨.value g,xs.toArray,j⟩)=.eff)(C:n.wrs.contains i=true)(T:want ops e gd=some true)
 (O:Ta P f=true) (D:ev e g=some (.func (.func f) bs.toArray caps.toArray)) (hx:evs e xs=some vs) (K:Fh P f (bs++vs++caps) M Hin R) (hH:Rem Hin H y)
 (L:∀ a v,Sat n e a→Sat n (NN dst v e) (a.put dst v))
 (hk:∀ v M' d,M.le M'→R M' v d→XD P n ops Q rest (St M' (d++y)) ⟨M',d++y⟩ (NN dst v e)):XD P n ops Q (i::rest) J ⟨M,H⟩ e:=by
 obtain⟨fn,h1,h2,h3⟩:=Ub O;refine DU hi B C T (fun a w ha hw=>Zdd h1 h2 h3 (ha.ev D) zB ?_);exact(K y w (hw.perm hH.perm)).mono fun e' U ⟨v,M',d,he,hm,hs,F⟩=>⟨v,he,⟨M',d++y⟩,_,hs,L a v ha,hk v M' d hm F⟩
end
theorem KV(x:Plc):Segs.cells [ZU x]=ZV ((Nc x).map u8R):=by
 show Segs.cells [.arr 20 (idV x)]=_;rw[Ry,Kl];rfl
theorem Yan{b:Nat}{x:Plc}{T:TypeId}(hm:(b,Yp [ZU x] T)∈H):Src M H 1 (.slice (some ⟨b,0,none⟩) 20 20) ((Nc x).map u8R):=by
 refine Src.own (E:=T) ?_ ?_ (by rw[A8,Py]) ?_
 ·intro r d;obtain⟨y,_,rfl⟩:=C0.1 d;rfl
 ·intro u hu;rw[Qv]at hu;obtain⟨z,-,rfl⟩:=C0.1 hu;rfl
 rw[← KV];exact hm
end
theorem Zgu{p:Zr}:(!decide (p=⟨-1,0⟩))=decide (p≠Yj):=by
 show(!decide (p=Yj))=_;simp
theorem Zsu{x b:Nat}(hx:x<72057594037927936)(hb:b<256):IntKind.u64.wrap ((BitVec.ofInt IntKind.u64.bits ((x * 256:Nat):Int) ||| BitVec.ofInt IntKind.u64.bits ((b:Nat):Int)).toNat:Int)=((x * 256+b:Nat):Int):=by
 show IntKind.u64.wrap ((BitVec.ofInt 64 ((x * 256:Nat):Int) ||| BitVec.ofInt 64 ((b:Nat):Int)).toNat:Int)=_;rw[BitVec.ofInt_natCast,BitVec.ofInt_natCast,BitVec.toNat_or,H4,H4,E3 jD,E3 jD];have h:=Nat.two_pow_add_eq_or_of_lt (i:=8) (b:=b) hb x;rw[show x * 256=2 ^ 8 * x by omega,← h];exact RX rfl jD
theorem Zsd{l:List Nat}(h:¬WJ l=⟨#[]⟩):0<l.length:=by
 rcases l with _|⟨a,l⟩
 ·exact absurd rfl h
 simp
theorem Zui{v n k:Nat}(h:k<n):v / 256 ^ (n-k) * 256+v / 256 ^ (n-1-k) % 256=v / 256 ^ (n-(k+1)):=by
 have d:n-k=(n-1-k)+1:=by omega
 rw[d,Nat.pow_succ,← Nat.div_div_eq_div_mul,show n-(k+1)=n-1-k by omega];omega
theorem Zxl{v n k:Nat}(h:k<n)(d:n≤8)(g:v<18446744073709551616):v / 256 ^ (n-k)<72057594037927936:=by
 have h1:256 ^ 1≤256 ^ (n-k):=Nat.pow_le_pow_right jM jD;refine Nat.div_lt_of_lt_mul ?_;grind
theorem Zbq(x:Plc):Segs.cells [ZU x]=Tm (WJ (Nc x)):=by
 rw[KV,NF,Qe (Zsq x),Qv,I2];rfl
theorem Up{k:Int}(h:1≤k∧k≤8):∀ b:Int×Bool,b∈[((1:Int),decide (Ue k)),(2,decide (k=1)),(4,decide (k=1)),(8,decide (k=2)),(16,decide (Vm k)),(32,decide (Wn k))] →
 (!decide (IntKind.i64.wrap ((BitVec.ofInt IntKind.i64.bits (VR k).1 &&& BitVec.ofInt IntKind.i64.bits b.1).toNat:Int)=0))=b.2:=by
 have h9:k=1∨k=2∨k=3∨k=4∨k=5∨k=6∨k=7∨k=8:=by omega
 rcases h9 with rfl|rfl|rfl|rfl|rfl|rfl|rfl|rfl <;> decide
end Go.Esp
namespace Go.Proofs.YtglnjnacodgmaaaGreatDoor
open Go.Esp
theorem F.foff219_0:Zjb Tryz.prog 219 0=some 0:=by kernel_rfl
theorem F.lay9:lay Tryz.prog 9=some (false,1):=by kernel_rfl
theorem F.ok157:Ta Tryz.prog 157=true:=by kernel_rfl
theorem F.ok159:Ta Tryz.prog 159=true:=by kernel_rfl
theorem F.ok200:Ta Tryz.prog 200=true:=by kernel_rfl
theorem Cc(M:Mem)(l:List Nat)(v:Nat)(C:l.length≤1000000)(j:v<18446744073709551616):Fs Tryz.prog 200 [.string (WJ l),.int .u64 (v:Int)] M (fun r=>r=.string (WJ (l++SL v))):=by
 refine Xa Tryz.func200 rfl Tryz.ntmps200 rfl ?_;intro H;refine S6 ?_;refine Yq (l:=[0,1,2,3,4,5]) [3] rfl ?_;refine S2 ?_;refine PH (Zgs _ v j) ?_;rintro _ D g ⟨y,B,rfl,d⟩;refine Zpx (l:=SL v) rfl rfl rfl rfl (SlM.src d (fun u hu=>by rw[Qv]at hu;obtain⟨z,-,rfl⟩:=C0.1 hu;rfl) (by rw[A8,PB])) F.elem202 Tryz.underlying5 Tryz.underlying9 rfl rfl ?_;refine Zdy rfl rfl rfl rfl (by show(WJ l).size+(WJ (SL v)).size≤_;rw[VE,VE,PB];have:=Jh j;omega) (show WJ l++WJ (SL v)=_ from Aa _ _) rfl ?_;refine S2 ?_;refine Xj ?_;refine S2 ?_;refine ZH fun w hw=>?_;exact⟨_,rfl,(hw.c).lower g,rfl⟩
theorem JT(M:Mem)(l:List Nat)(x:Plc)(g:l.length≤1000000):Fs Tryz.prog 159 [.string (WJ l),WX [ZU x]] M (fun r=>r=.string (WJ (l++Nc x))):=by
 refine Xa Tryz.func159 rfl Tryz.ntmps159 rfl ?_;intro H;refine S3 ?_;intro d;refine S7 ?_;refine Zld (l:=Nc x) rfl rfl rfl (Yan jB) F.elem202 Tryz.underlying5 Tryz.underlying9 rfl rfl ?_;refine Zdy rfl rfl rfl rfl (by show(WJ l).size+(WJ (Nc x)).size≤_;rw[VE,VE,Py];omega) (show WJ l++WJ (Nc x)=_ from Aa _ _) rfl ?_;refine S4 ?_;refine ZH fun w hw=>?_;exact⟨_,rfl,hw.c,rfl⟩
theorem Ss(M:Mem)(d:Nat)(l:List Nat)(v:Nat)(y:l.length≤100000)(j:v<18446744073709551616):Fh Tryz.prog 157 [.pointer (some ⟨d,0,none⟩),.int .u64 (v:Int)] M [(d,Yp [.one (.string (WJ (l)))] 219)] (fun M' r g=>M'=M∧r=.tuple #[]∧g=[(d,Yp [.one (.string (WJ (l++SL v)))] 219)]):=by
 refine YI (fun H=>(d,Yp [.one (.string (WJ (l)))] 219)::H) (fun _=>by simp only[B5,B4,B6]) Tryz.func157 rfl Tryz.ntmps157 rfl ?_;intro H;refine S7 ?_;refine Zur rfl rfl F.ok200 rfl (Cc _ _ _ jD j) rfl ?_;rintro _ rfl;refine S4 ?_;refine ZH fun w hw=>?_;refine⟨_,M,[(d,Yp [.one (.string (WJ (l++SL v)))] 219)],rfl,Mem.le.refl M,hw.c,rfl,rfl,rfl⟩
theorem BR(M:Mem)(d:Nat)(l:List Nat)(c:Bool)(C:l.length≤100000):Fh Tryz.prog 160 [.pointer (some ⟨d,0,none⟩),.bool c] M [(d,Yp [.one (.string (WJ (l)))] 219)] (fun M' r j=>M'=M∧r=.tuple #[]∧j=[(d,Yp [.one (.string (WJ (l++Qi c)))] 219)]):=by
 refine YI (fun H=>(d,Yp [.one (.string (WJ (l)))] 219)::H) (fun _=>by simp only[B5,B4,B6]) Tryz.func160 rfl Tryz.ntmps160 rfl ?_;intro H;refine S5 ?_;refine Xb (fun y=>?_) (fun y=>?_)
 ·skip
  refine Yq (l:=[0,1]) [1] rfl ?_;refine Stp ?_;refine Xx (Ss M d _ (1) jD jD) ?_;rintro _ B _ v ⟨g,rfl,rfl⟩;obtain rfl:=g.symm;simp only[B5,B4,B6];refine Stp ?_;refine Xj ?_;refine ZH fun w hw=>?_;refine⟨_,M,[(d,Yp [.one (.string (WJ (l++SL 1)))] 219)],rfl,Mem.le.refl M,hw.c,rfl,rfl,?_⟩;unfold Qi;rw[A6 jE]
 skip
 refine Yq (l:=[0,1]) [1] rfl ?_;refine Stp ?_;refine Xx (Ss M d _ (0) jD jD) ?_;rintro _ B _ v ⟨g,rfl,rfl⟩;obtain rfl:=g.symm;simp only[B5,B4,B6];refine Stp ?_;refine Xj ?_;refine ZH fun w hw=>?_;refine⟨_,M,[(d,Yp [.one (.string (WJ (l++SL 0)))] 219)],rfl,Mem.le.refl M,hw.c,rfl,rfl,?_⟩;unfold Qi;rw[A4 (by(simp_all;done))]
theorem HF(M:Mem)(j:Nat)(l:List Nat)(p:Zr)(L:l.length≤100000)(C:Yf p.addr):Fh Tryz.prog 158 [.pointer (some ⟨j,0,none⟩),p.enc] M [(j,Yp [.one (.string (WJ (l)))] 219)] (fun M' r y=>M'=M∧r=.tuple #[]∧y=[(j,Yp [.one (.string (WJ (l++WB p)))] 219)]):=by
 obtain⟨g,d⟩:=p;replace C:0≤g∧g≤999:=C;have D:=Jh (v:=g.toNat) jD;refine YI (fun H=>(j,Yp [.one (.string (WJ (l)))] 219)::H) (fun _=>by simp only[B5,B4,B6]) Tryz.func158 rfl Tryz.ntmps158 rfl ?_;intro H;refine Zvp (Zap (l:=[0]) rfl ?_);refine Zzq ?_;intro R;refine Zaj (Zlq (VG [3,0] ?_));refine Zvp (Yq (l:=[0,1,2,3,4]) [4] rfl ?_);refine Zrn ?_;refine Rd F.foff38_0 ?_;refine DS F.lay3 ?_;refine Zrr rfl rfl rfl Tryz.underlying3 Tryz.underlying42 (by exact RX jM jD) rfl ?_;refine Xs 7 rfl (show _=Value.int .u64 (((g.toNat:Nat):Int))from A9 _ jD) ?_;refine Zut rfl rfl rfl F.ok157 rfl (Ss M j _ (g.toNat) jD jD) jA (XK rfl) ?_;rintro _ O _ K ⟨B,rfl,rfl⟩;obtain rfl:=B.symm;simp only[B5,B4,B6];refine Zaj (Xj ?_);refine Zlq (VG [3,0] ?_);refine Ya (l:=[0,1,2,3,4,5,6,7,8,9,10]) #[0,0,2,6,14,0,32,126,255,511,1023] _ rfl jI jI St.drawn (fun _ h=>h) ?_;iterate 2 refine Zrn ?_
 refine Hx ?_;refine Rd F.foff219_0 ?_;refine DS F.lay9 ?_;refine Rd F.foff38_1 ?_;refine DS F.lay36 ?_;refine Zur rfl rfl F.ok159 rfl (JT _ _ _ (by(simp only[B3,PB]at *;omega))) rfl ?_;rintro _ rfl;refine Hx ?_;refine Rd F.foff219_0 ?_;refine BB F.lay9 ?_;refine Zaj ?_;refine Zec (.inl rfl) (.nil) (fun w hw=>?_);have h9:l++SL g.toNat++Nc d=l++WB ⟨g,d⟩:=by unfold WB;rw[B5]
 rw[h9]at hw;refine⟨_,M,[(j,Yp [.one (.string (WJ (l++WB ⟨g,d⟩)))] 219)],rfl,Mem.le.refl M,hw.c,rfl,rfl,rfl⟩
theorem Put_ok(M:Mem)(l:ZI)(ay:ZI.ok M l)(hI:SP l.lt)(hr:SB l.req):Fs Tryz.prog 104 [l.enc] M (fun v=>v=Value.tuple (#[.string (body l.lt),.int .i64 0])):=by
 obtain⟨B,⟨V,Z⟩,K,d,⟨L,T,g⟩,O,⟨C,D⟩,⟨U,R,j⟩⟩:=l;have WU:SlK M (WC .i64) 1 ⟨L,T,g⟩:=ay.h0;have an:SlM M L (g.map (WC .i64)) 1:=WU.h1;have ai:(g.map (WC .i64)).length=g.length:=A8 ..;have aj:g.length≤9223372036854775807:=WU.h2;have ao:g.length≤T:=WU.h3;have Xf:SlK M Zr.segs 21 ⟨U,R,j⟩:=ay.h1;have Vv:SlM M U (j.map Zr.segs) 21:=Xf.h1;have ah:(j.map Zr.segs).length=j.length:=A8 ..;have al:j.length≤9223372036854775807:=Xf.h2;have ak:j.length≤R:=Xf.h3;obtain⟨g1,g2,g3,g4,g5,g6,g7,g8,g9,g10,g11,g12,g13,g14⟩:=hI;simp only[ZI.lt]at g1 g2 g3 g4 g5 g6 g7 g8 g9 g10 g11 g12 g13 g14;have hI:SP (ZI.lt ⟨B,⟨V,Z⟩,K,d,⟨L,T,g⟩,O,⟨C,D⟩,⟨U,R,j⟩⟩):=⟨g1,g2,g3,g4,g5,g6,g7,g8,g9,g10,g11,g12,g13,g14⟩
 obtain⟨z0,z1,z2,z3,z4,z5,z6⟩:=Zkk hI hr;obtain⟨r1,r2⟩:=hr;simp only at r1 r2;have bj:=SC (v:=B.toNat) jD;have bg:=Gq (decide ((⟨C,D⟩:Zr)≠Yj));refine Xa Tryz.func104 rfl Tryz.ntmps104 rfl ?_;intro H;refine S3 ?_;intro b1;refine S8 ?_;refine Vn (Zao _ ⟨_,⟨_,_⟩,_,_,⟨_,_,_⟩,_,⟨_,_⟩,⟨_,_,_⟩⟩ jE) ?_;rintro _ rfl;refine Xs 12 rfl (show _=Value.bool true from congrArg Value.bool (decide_eq_true hI)) ?_;refine S3 ?_;refine Xb (fun ax=>?_) (fun ax=>?_)
 ·skip
  (exfalso;simp[eqX]at ax;done)
 skip
 refine S6 ?_;refine Vn (HV _ _) ?_;rintro _ rfl;refine S11 ?_;intro b3;refine S4 ?_;refine Yq (l:=[0,1,2,3,4]) [4] rfl ?_;refine S4 ?_;refine Xs 25 rfl (show _=Value.int .u64 (((B.toNat:Nat):Int))from congrArg _ jD) ?_;refine Xx (Ss M _ [] (B.toNat) jQ jD) ?_;rintro _ M1 _ ad ⟨ab,rfl,rfl⟩;obtain rfl:=ab.symm;simp only[B4];rw[B6];refine Stp ?_;refine Xj ?_;refine S2 ?_;refine Yq (l:=[0,1,2,3]) [3] rfl ?_;refine S3 ?_;refine Xx (HF M _ (SL B.toNat) ⟨V,Z⟩ jD g2) ?_;rintro _ M1 _ ad ⟨ab,rfl,rfl⟩;obtain rfl:=ab.symm;simp only[B4];rw[B6];refine Stp ?_;refine Xj ?_;refine S7 ?_;refine Xs 33 rfl (show _=Value.bool (decide (Ue B))from congrArg Value.bool (Up g1 (1,decide (Ue B)) jP)) ?_;refine S2 ?_;refine VG [33,6,4,3,2,1] ?_;refine RD (α:=Unit) (fun _=>[]) (fun _=>True) (fun _=>St M ((b3,Yp [.one (.string (WJ (bA1 (ZI.lt ⟨B,⟨V,Z⟩,K,d,⟨L,T,g⟩,O,⟨C,D⟩,⟨U,R,j⟩⟩))))] 219)::(b1,Yp (ZI.segs ⟨B,⟨V,Z⟩,K,d,⟨L,T,g⟩,O,⟨C,D⟩,⟨U,R,j⟩⟩) 128)::H)) (.cons (k:=6) rfl (.cons (k:=4) rfl (.cons (k:=3) rfl (.cons (k:=2) rfl (.cons (k:=1) rfl .nil))))) ?_ ?_
 ·skip
  refine Xb (cT fun bd=>?_) (cF fun bd=>?_)
  ·refine Yq (l:=[0,1,2,3]) [3] rfl ?_;refine S3 ?_;refine Xs 36 rfl (show _=Value.int .u64 (((K.toNat:Nat):Int))from congrArg _ jD) ?_;refine Xx (Ss M _ (bA0 (ZI.lt ⟨B,⟨V,Z⟩,K,d,⟨L,T,g⟩,O,⟨C,D⟩,⟨U,R,j⟩⟩)) (K.toNat) jD jD) ?_;rintro _ M1 _ ad ⟨ab,rfl,rfl⟩;obtain rfl:=ab.symm;simp only[B4];rw[B6];refine Stp ?_;refine Xj ?_;have aa:bA1 (ZI.lt ⟨B,⟨V,Z⟩,K,d,⟨L,T,g⟩,O,⟨C,D⟩,⟨U,R,j⟩⟩)=bA0 (ZI.lt ⟨B,⟨V,Z⟩,K,d,⟨L,T,g⟩,O,⟨C,D⟩,⟨U,R,j⟩⟩)++SL K.toNat:=by unfold bA1;rw[if_pos jE] <;> rfl
   exact Ul (α:=Unit) (pre:=fun _=>[]) (F:=fun _=>True) (S2:=fun _=>St M ((b3,Yp [.one (.string (WJ (bA1 (ZI.lt ⟨B,⟨V,Z⟩,K,d,⟨L,T,g⟩,O,⟨C,D⟩,⟨U,R,j⟩⟩))))] 219)::(b1,Yp (ZI.segs ⟨B,⟨V,Z⟩,K,d,⟨L,T,g⟩,O,⟨C,D⟩,⟨U,R,j⟩⟩) 128)::H)) (()) (trivial) (.cons (k:=6) rfl (.cons (k:=4) rfl (.cons (k:=3) rfl (.cons (k:=2) rfl (.cons (k:=1) rfl .nil))))) (fun w hw=>by show St _ _ w;rw[aa];first|exact hw|exact hw.c)
  refine Stp ?_;have aa:bA1 (ZI.lt ⟨B,⟨V,Z⟩,K,d,⟨L,T,g⟩,O,⟨C,D⟩,⟨U,R,j⟩⟩)=bA0 (ZI.lt ⟨B,⟨V,Z⟩,K,d,⟨L,T,g⟩,O,⟨C,D⟩,⟨U,R,j⟩⟩):=by unfold bA1;rw[if_neg jE,E0]
  exact Ul (α:=Unit) (pre:=fun _=>[]) (F:=fun _=>True) (S2:=fun _=>St M ((b3,Yp [.one (.string (WJ (bA1 (ZI.lt ⟨B,⟨V,Z⟩,K,d,⟨L,T,g⟩,O,⟨C,D⟩,⟨U,R,j⟩⟩))))] 219)::(b1,Yp (ZI.segs ⟨B,⟨V,Z⟩,K,d,⟨L,T,g⟩,O,⟨C,D⟩,⟨U,R,j⟩⟩) 128)::H)) (()) (trivial) (.cons (k:=6) rfl (.cons (k:=4) rfl (.cons (k:=3) rfl (.cons (k:=2) rfl (.cons (k:=1) rfl .nil))))) (fun w hw=>by show St _ _ w;rw[aa];first|exact hw|exact hw.c)
 rintro _ -;refine S6 ?_;refine Xs 40 rfl (show _=Value.bool (decide (B=1))from congrArg Value.bool (Up g1 (2,decide (B=1)) jP)) ?_;refine S2 ?_;refine VG [40,6,4,3,2,1] ?_;refine RD (α:=Unit) (fun _=>[]) (fun _=>True) (fun _=>St M ((b3,Yp [.one (.string (WJ (bA2 (ZI.lt ⟨B,⟨V,Z⟩,K,d,⟨L,T,g⟩,O,⟨C,D⟩,⟨U,R,j⟩⟩))))] 219)::(b1,Yp (ZI.segs ⟨B,⟨V,Z⟩,K,d,⟨L,T,g⟩,O,⟨C,D⟩,⟨U,R,j⟩⟩) 128)::H)) (.cons (k:=6) rfl (.cons (k:=4) rfl (.cons (k:=3) rfl (.cons (k:=2) rfl (.cons (k:=1) rfl .nil))))) ?_ ?_
 ·skip
  refine Xb (cT fun az=>?_) (cF fun az=>?_)
  ·refine Ya (l:=[0,1,2,3,4,5,6,7,8,9,10]) #[0,0,2,6,14,0,32,126,255,511,1023] _ rfl jI jI St.drawn (fun _ h=>h) ?_;refine S7 ?_;refine Zur rfl rfl F.ok159 rfl (JT _ _ _ jD) rfl ?_;rintro _ rfl;refine S4 ?_;have aa:bA2 (ZI.lt ⟨B,⟨V,Z⟩,K,d,⟨L,T,g⟩,O,⟨C,D⟩,⟨U,R,j⟩⟩)=bA1 (ZI.lt ⟨B,⟨V,Z⟩,K,d,⟨L,T,g⟩,O,⟨C,D⟩,⟨U,R,j⟩⟩)++Nc d:=by unfold bA2;rw[if_pos jE] <;> rfl
   exact Ul (α:=Unit) (pre:=fun _=>[]) (F:=fun _=>True) (S2:=fun _=>St M ((b3,Yp [.one (.string (WJ (bA2 (ZI.lt ⟨B,⟨V,Z⟩,K,d,⟨L,T,g⟩,O,⟨C,D⟩,⟨U,R,j⟩⟩))))] 219)::(b1,Yp (ZI.segs ⟨B,⟨V,Z⟩,K,d,⟨L,T,g⟩,O,⟨C,D⟩,⟨U,R,j⟩⟩) 128)::H)) (()) (trivial) (.cons (k:=6) rfl (.cons (k:=4) rfl (.cons (k:=3) rfl (.cons (k:=2) rfl (.cons (k:=1) rfl .nil))))) (fun w hw=>by show St _ _ w;rw[aa];first|exact hw|exact hw.c)
  refine Stp ?_;have aa:bA2 (ZI.lt ⟨B,⟨V,Z⟩,K,d,⟨L,T,g⟩,O,⟨C,D⟩,⟨U,R,j⟩⟩)=bA1 (ZI.lt ⟨B,⟨V,Z⟩,K,d,⟨L,T,g⟩,O,⟨C,D⟩,⟨U,R,j⟩⟩):=by unfold bA2;rw[if_neg jE,E0]
  exact Ul (α:=Unit) (pre:=fun _=>[]) (F:=fun _=>True) (S2:=fun _=>St M ((b3,Yp [.one (.string (WJ (bA2 (ZI.lt ⟨B,⟨V,Z⟩,K,d,⟨L,T,g⟩,O,⟨C,D⟩,⟨U,R,j⟩⟩))))] 219)::(b1,Yp (ZI.segs ⟨B,⟨V,Z⟩,K,d,⟨L,T,g⟩,O,⟨C,D⟩,⟨U,R,j⟩⟩) 128)::H)) (()) (trivial) (.cons (k:=6) rfl (.cons (k:=4) rfl (.cons (k:=3) rfl (.cons (k:=2) rfl (.cons (k:=1) rfl .nil))))) (fun w hw=>by show St _ _ w;rw[aa];first|exact hw|exact hw.c)
 rintro _ -;refine S6 ?_;refine Xs 53 rfl (show _=Value.bool (decide (B=1))from congrArg Value.bool (Up g1 (4,decide (B=1)) jP)) ?_;refine S2 ?_;refine VG [53,6,4,3,2,1] ?_;refine RD (α:=Unit) (fun _=>[]) (fun _=>True) (fun _=>St M ((b3,Yp [.one (.string (WJ (bA3 (ZI.lt ⟨B,⟨V,Z⟩,K,d,⟨L,T,g⟩,O,⟨C,D⟩,⟨U,R,j⟩⟩))))] 219)::(b1,Yp (ZI.segs ⟨B,⟨V,Z⟩,K,d,⟨L,T,g⟩,O,⟨C,D⟩,⟨U,R,j⟩⟩) 128)::H)) (.cons (k:=6) rfl (.cons (k:=4) rfl (.cons (k:=3) rfl (.cons (k:=2) rfl (.cons (k:=1) rfl .nil))))) ?_ ?_
 ·skip
  refine Xb (cT fun ba=>?_) (cF fun ba=>?_)
  ·refine Stp ?_;refine Yq (l:=[0,1,2,3,4,5]) [5] rfl ?_;refine S5 ?_;refine Xx (Ss M _ (bA2 (ZI.lt ⟨B,⟨V,Z⟩,K,d,⟨L,T,g⟩,O,⟨C,D⟩,⟨U,R,j⟩⟩)) (g.length) jD jD) ?_;rintro _ M1 _ ad ⟨ab,rfl,rfl⟩;obtain rfl:=ab.symm;simp only[B4];rw[B6];refine Stp ?_;refine Xj ?_;refine S10 ?_;refine VG [63,62,61,6,4,3,2,1] ?_;refine XV (Hin:=[(b3,Yp [.one (.string (WJ (bA2 (ZI.lt ⟨B,⟨V,Z⟩,K,d,⟨L,T,g⟩,O,⟨C,D⟩,⟨U,R,j⟩⟩)++SL g.length)))] 219)]) (.succ .zero) jA (fun(k:Nat) M1 h1 z=>M1=M∧z=[(63,.int .i64 (k:Int))]∧k≤g.length∧h1=[(b3,Yp [.one (.string (WJ (bA2 (ZI.lt ⟨B,⟨V,Z⟩,K,d,⟨L,T,g⟩,O,⟨C,D⟩,⟨U,R,j⟩⟩)++SL g.length++(g.take k).flatMap Sw)))] 219)]) (fun k=>g.length-k) (0) (⟨rfl,rfl,by omega,by rw[List.take_zero,List.flatMap_nil,E0]⟩) ?_;rintro k M1 h1 z ad ⟨ab,rfl,hk,rfl⟩;obtain rfl:=ab.symm;have bb:=LL (f:=Sw) (l:=g) (m:=9) (fun x hx=>Zaf (g13 x hx)) k;have bf:=SC (v:=g.length) jD;refine S6 ?_;refine Xb (cT fun a7=>?_) (cF fun a7=>?_)
   ·refine S11 ?_;refine Yq (l:=[0,1,2,3]) [3] rfl ?_;refine S2 ?_;have aq:=g13 _ (C1 (l:=g) (n:=k) jD);replace aq:0≤g[k]∧g[k]≤999:=aq;refine Stp ?_;refine Xs 69 rfl (show _=Value.int .u64 (((g[k].toNat:Nat):Int))from congrArg _ jD) ?_;refine Xx (Ss M _ ((bA2 (ZI.lt ⟨B,⟨V,Z⟩,K,d,⟨L,T,g⟩,O,⟨C,D⟩,⟨U,R,j⟩⟩))++SL g.length++(g.take k).flatMap Sw) (g[k].toNat) jZ jD) ?_;rintro _ M1 _ ad ⟨ab,rfl,rfl⟩;obtain rfl:=ab.symm;simp only[B4];rw[B6];refine Stp ?_;refine Xj ?_;refine S6 ?_;rw[B5,show(g.take k).flatMap Sw++SL g[k].toNat=(g.take (k+1)).flatMap Sw from(Du jD).symm];refine YO (a':=[(63,_)]) (k+1) ([(b3,Yp [.one (.string (WJ (bA2 (ZI.lt ⟨B,⟨V,Z⟩,K,d,⟨L,T,g⟩,O,⟨C,D⟩,⟨U,R,j⟩⟩)++SL g.length++(g.take (k+1)).flatMap Sw)))] 219)]) (.cons (k:=63) rfl (.cons (k:=62) rfl (.cons (k:=61) rfl (.cons (k:=6) rfl (.cons (k:=4) rfl (.cons (k:=3) rfl (.cons (k:=2) rfl (.cons (k:=1) rfl (.nil))))))))) jO (fun w hw=>by first|exact hw|exact hw.c) ?_ ?_
    ·exact⟨rfl,rfl,by omega,rfl⟩
    omega
   refine S4 ?_;obtain rfl:k=g.length:=by omega
   have aa:bA3 (ZI.lt ⟨B,⟨V,Z⟩,K,d,⟨L,T,g⟩,O,⟨C,D⟩,⟨U,R,j⟩⟩)=bA2 (ZI.lt ⟨B,⟨V,Z⟩,K,d,⟨L,T,g⟩,O,⟨C,D⟩,⟨U,R,j⟩⟩)++SL g.length++(g.take g.length).flatMap Sw:=by unfold bA3;rw[if_pos jE,B5,G0] <;> rfl
   exact Ul (α:=Unit) (pre:=fun _=>[]) (F:=fun _=>True) (S2:=fun _=>St M ((b3,Yp [.one (.string (WJ (bA3 (ZI.lt ⟨B,⟨V,Z⟩,K,d,⟨L,T,g⟩,O,⟨C,D⟩,⟨U,R,j⟩⟩))))] 219)::(b1,Yp (ZI.segs ⟨B,⟨V,Z⟩,K,d,⟨L,T,g⟩,O,⟨C,D⟩,⟨U,R,j⟩⟩) 128)::H)) (()) (trivial) (.cons (k:=6) rfl (.cons (k:=4) rfl (.cons (k:=3) rfl (.cons (k:=2) rfl (.cons (k:=1) rfl .nil))))) (fun w hw=>by show St _ _ w;rw[aa];first|exact hw|exact hw.c)
  refine Stp ?_;have aa:bA3 (ZI.lt ⟨B,⟨V,Z⟩,K,d,⟨L,T,g⟩,O,⟨C,D⟩,⟨U,R,j⟩⟩)=bA2 (ZI.lt ⟨B,⟨V,Z⟩,K,d,⟨L,T,g⟩,O,⟨C,D⟩,⟨U,R,j⟩⟩):=by unfold bA3;rw[if_neg jE,E0]
  exact Ul (α:=Unit) (pre:=fun _=>[]) (F:=fun _=>True) (S2:=fun _=>St M ((b3,Yp [.one (.string (WJ (bA3 (ZI.lt ⟨B,⟨V,Z⟩,K,d,⟨L,T,g⟩,O,⟨C,D⟩,⟨U,R,j⟩⟩))))] 219)::(b1,Yp (ZI.segs ⟨B,⟨V,Z⟩,K,d,⟨L,T,g⟩,O,⟨C,D⟩,⟨U,R,j⟩⟩) 128)::H)) (()) (trivial) (.cons (k:=6) rfl (.cons (k:=4) rfl (.cons (k:=3) rfl (.cons (k:=2) rfl (.cons (k:=1) rfl .nil))))) (fun w hw=>by show St _ _ w;rw[aa];first|exact hw|exact hw.c)
 rintro _ -;refine S6 ?_;refine Xs 74 rfl (show _=Value.bool (decide (B=2))from congrArg Value.bool (Up g1 (8,decide (B=2)) jP)) ?_;refine S2 ?_;refine VG [74,6,4,3,2,1] ?_;refine RD (α:=Unit) (fun _=>[]) (fun _=>True) (fun _=>St M ((b3,Yp [.one (.string (WJ (bA4 (ZI.lt ⟨B,⟨V,Z⟩,K,d,⟨L,T,g⟩,O,⟨C,D⟩,⟨U,R,j⟩⟩))))] 219)::(b1,Yp (ZI.segs ⟨B,⟨V,Z⟩,K,d,⟨L,T,g⟩,O,⟨C,D⟩,⟨U,R,j⟩⟩) 128)::H)) (.cons (k:=6) rfl (.cons (k:=4) rfl (.cons (k:=3) rfl (.cons (k:=2) rfl (.cons (k:=1) rfl .nil))))) ?_ ?_
 ·skip
  refine Xb (cT fun a6=>?_) (cF fun a6=>?_)
  ·refine Yq (l:=[0,1,2,3]) [3] rfl ?_;refine S3 ?_;refine Xx (BR M _ (bA3 (ZI.lt ⟨B,⟨V,Z⟩,K,d,⟨L,T,g⟩,O,⟨C,D⟩,⟨U,R,j⟩⟩)) (O) jD) ?_;rintro _ M1 _ ad ⟨ab,rfl,rfl⟩;obtain rfl:=ab.symm;simp only[B4];rw[B6];refine Stp ?_;refine Xj ?_;have aa:bA4 (ZI.lt ⟨B,⟨V,Z⟩,K,d,⟨L,T,g⟩,O,⟨C,D⟩,⟨U,R,j⟩⟩)=bA3 (ZI.lt ⟨B,⟨V,Z⟩,K,d,⟨L,T,g⟩,O,⟨C,D⟩,⟨U,R,j⟩⟩)++Qi O:=by unfold bA4;rw[if_pos jE] <;> rfl
   exact Ul (α:=Unit) (pre:=fun _=>[]) (F:=fun _=>True) (S2:=fun _=>St M ((b3,Yp [.one (.string (WJ (bA4 (ZI.lt ⟨B,⟨V,Z⟩,K,d,⟨L,T,g⟩,O,⟨C,D⟩,⟨U,R,j⟩⟩))))] 219)::(b1,Yp (ZI.segs ⟨B,⟨V,Z⟩,K,d,⟨L,T,g⟩,O,⟨C,D⟩,⟨U,R,j⟩⟩) 128)::H)) (()) (trivial) (.cons (k:=6) rfl (.cons (k:=4) rfl (.cons (k:=3) rfl (.cons (k:=2) rfl (.cons (k:=1) rfl .nil))))) (fun w hw=>by show St _ _ w;rw[aa];first|exact hw|exact hw.c)
  refine Stp ?_;have aa:bA4 (ZI.lt ⟨B,⟨V,Z⟩,K,d,⟨L,T,g⟩,O,⟨C,D⟩,⟨U,R,j⟩⟩)=bA3 (ZI.lt ⟨B,⟨V,Z⟩,K,d,⟨L,T,g⟩,O,⟨C,D⟩,⟨U,R,j⟩⟩):=by unfold bA4;rw[if_neg jE,E0]
  exact Ul (α:=Unit) (pre:=fun _=>[]) (F:=fun _=>True) (S2:=fun _=>St M ((b3,Yp [.one (.string (WJ (bA4 (ZI.lt ⟨B,⟨V,Z⟩,K,d,⟨L,T,g⟩,O,⟨C,D⟩,⟨U,R,j⟩⟩))))] 219)::(b1,Yp (ZI.segs ⟨B,⟨V,Z⟩,K,d,⟨L,T,g⟩,O,⟨C,D⟩,⟨U,R,j⟩⟩) 128)::H)) (()) (trivial) (.cons (k:=6) rfl (.cons (k:=4) rfl (.cons (k:=3) rfl (.cons (k:=2) rfl (.cons (k:=1) rfl .nil))))) (fun w hw=>by show St _ _ w;rw[aa];first|exact hw|exact hw.c)
 rintro _ -;refine S6 ?_;refine Xs 81 rfl (show _=Value.bool (decide (Vm B))from congrArg Value.bool (Up g1 (16,decide (Vm B)) jP)) ?_;refine S2 ?_;refine VG [81,6,4,3,2,1] ?_;refine RD (α:=Unit) (fun _=>[]) (fun _=>True) (fun _=>St M ((b3,Yp [.one (.string (WJ (bA5 (ZI.lt ⟨B,⟨V,Z⟩,K,d,⟨L,T,g⟩,O,⟨C,D⟩,⟨U,R,j⟩⟩))))] 219)::(b1,Yp (ZI.segs ⟨B,⟨V,Z⟩,K,d,⟨L,T,g⟩,O,⟨C,D⟩,⟨U,R,j⟩⟩) 128)::H)) (.cons (k:=6) rfl (.cons (k:=4) rfl (.cons (k:=3) rfl (.cons (k:=2) rfl (.cons (k:=1) rfl .nil))))) ?_ ?_
 ·skip
  refine Xb (cT fun a1=>?_) (cF fun a1=>?_)
  ·refine Stp ?_;refine UF (l:=[0,1,2,3,4,5]) [5] #[0,0,2,0,14,31] (_) rfl jI jI St.drawn (fun _ h=>h) ?_;refine S3 ?_;refine Vn (VD _) ?_;rintro _ rfl;refine Xs 85 rfl (show _=WX [.one (.int .i64 (-1)),ZU 0]from rfl) ?_;refine VW (m:=20) rfl rfl rfl rfl rfl jG jG F.lay38 F.kinds38 rfl F.guard38 jR jR rfl rfl rfl ?_;intro bc ag;replace ag:bc=true↔¬(Segs.cells _=Segs.cells _):=ag;obtain rfl:=neD ag (Zr.inj (x:=⟨_,_⟩) (y:=⟨_,_⟩));clear ag;refine Xs 86 rfl (show _=Value.bool (decide ((⟨C,D⟩:Zr)≠Yj))from congrArg Value.bool Zgu) ?_;refine Xx (BR M _ (bA4 (ZI.lt ⟨B,⟨V,Z⟩,K,d,⟨L,T,g⟩,O,⟨C,D⟩,⟨U,R,j⟩⟩)) (decide ((⟨C,D⟩:Zr)≠Yj)) jD) ?_;rintro _ M1 _ ad ⟨ab,rfl,rfl⟩;obtain rfl:=ab.symm;simp only[B4];rw[B6];refine Stp ?_;refine Xj ?_;refine S2 ?_;refine Ya (l:=[0,1,2,3]) #[0,1,0,7] _ rfl jI jI St.drawn (fun _ h=>h) ?_;refine S2 ?_;refine Vn (VD _) ?_;rintro _ rfl;refine Xs 90 rfl (show _=WX [.one (.int .i64 (-1)),ZU 0]from rfl) ?_;refine VW (m:=20) rfl rfl rfl rfl rfl jG jG F.lay38 F.kinds38 rfl F.guard38 jR jR rfl rfl rfl ?_;intro a8 ae;replace ae:a8=true↔¬(Segs.cells _=Segs.cells _):=ae;obtain rfl:=neD ae (Zr.inj (x:=⟨_,_⟩) (y:=⟨_,_⟩));clear ae;refine Xs 91 rfl (show _=Value.bool (decide ((⟨C,D⟩:Zr)≠Yj))from congrArg Value.bool Zgu) ?_;refine S2 ?_;refine Xb (cT fun au=>?_) (cF fun au=>?_)
   ·refine Yq (l:=[0,1,2,3]) [3] rfl ?_;refine S3 ?_;refine Xx (HF M _ ((bA4 (ZI.lt ⟨B,⟨V,Z⟩,K,d,⟨L,T,g⟩,O,⟨C,D⟩,⟨U,R,j⟩⟩))++Qi (decide ((⟨C,D⟩:Zr)≠Yj))) ⟨C,D⟩ jZ (g5.resolve_left jE)) ?_;rintro _ M1 _ ad ⟨ab,rfl,rfl⟩;obtain rfl:=ab.symm;simp only[B4];rw[B6];refine Stp ?_;refine Xj ?_;have aa:bA5 (ZI.lt ⟨B,⟨V,Z⟩,K,d,⟨L,T,g⟩,O,⟨C,D⟩,⟨U,R,j⟩⟩)=bA4 (ZI.lt ⟨B,⟨V,Z⟩,K,d,⟨L,T,g⟩,O,⟨C,D⟩,⟨U,R,j⟩⟩)++Qi (decide ((⟨C,D⟩:Zr)≠Yj))++WB (⟨C,D⟩:Zr):=by unfold bA5;rw[if_pos jE,if_pos jE,B5] <;> rfl
    exact Ul (α:=Unit) (pre:=fun _=>[]) (F:=fun _=>True) (S2:=fun _=>St M ((b3,Yp [.one (.string (WJ (bA5 (ZI.lt ⟨B,⟨V,Z⟩,K,d,⟨L,T,g⟩,O,⟨C,D⟩,⟨U,R,j⟩⟩))))] 219)::(b1,Yp (ZI.segs ⟨B,⟨V,Z⟩,K,d,⟨L,T,g⟩,O,⟨C,D⟩,⟨U,R,j⟩⟩) 128)::H)) (()) (trivial) (.cons (k:=6) rfl (.cons (k:=4) rfl (.cons (k:=3) rfl (.cons (k:=2) rfl (.cons (k:=1) rfl .nil))))) (fun w hw=>by show St _ _ w;rw[aa];first|exact hw|exact hw.c)
   refine Stp ?_;have aa:bA5 (ZI.lt ⟨B,⟨V,Z⟩,K,d,⟨L,T,g⟩,O,⟨C,D⟩,⟨U,R,j⟩⟩)=bA4 (ZI.lt ⟨B,⟨V,Z⟩,K,d,⟨L,T,g⟩,O,⟨C,D⟩,⟨U,R,j⟩⟩)++Qi (decide ((⟨C,D⟩:Zr)≠Yj)):=by unfold bA5;rw[if_pos jE,if_neg jE,E0] <;> rfl
   exact Ul (α:=Unit) (pre:=fun _=>[]) (F:=fun _=>True) (S2:=fun _=>St M ((b3,Yp [.one (.string (WJ (bA5 (ZI.lt ⟨B,⟨V,Z⟩,K,d,⟨L,T,g⟩,O,⟨C,D⟩,⟨U,R,j⟩⟩))))] 219)::(b1,Yp (ZI.segs ⟨B,⟨V,Z⟩,K,d,⟨L,T,g⟩,O,⟨C,D⟩,⟨U,R,j⟩⟩) 128)::H)) (()) (trivial) (.cons (k:=6) rfl (.cons (k:=4) rfl (.cons (k:=3) rfl (.cons (k:=2) rfl (.cons (k:=1) rfl .nil))))) (fun w hw=>by show St _ _ w;rw[aa];first|exact hw|exact hw.c)
  refine Stp ?_;have aa:bA5 (ZI.lt ⟨B,⟨V,Z⟩,K,d,⟨L,T,g⟩,O,⟨C,D⟩,⟨U,R,j⟩⟩)=bA4 (ZI.lt ⟨B,⟨V,Z⟩,K,d,⟨L,T,g⟩,O,⟨C,D⟩,⟨U,R,j⟩⟩):=by unfold bA5;rw[if_neg jE,E0]
  exact Ul (α:=Unit) (pre:=fun _=>[]) (F:=fun _=>True) (S2:=fun _=>St M ((b3,Yp [.one (.string (WJ (bA5 (ZI.lt ⟨B,⟨V,Z⟩,K,d,⟨L,T,g⟩,O,⟨C,D⟩,⟨U,R,j⟩⟩))))] 219)::(b1,Yp (ZI.segs ⟨B,⟨V,Z⟩,K,d,⟨L,T,g⟩,O,⟨C,D⟩,⟨U,R,j⟩⟩) 128)::H)) (()) (trivial) (.cons (k:=6) rfl (.cons (k:=4) rfl (.cons (k:=3) rfl (.cons (k:=2) rfl (.cons (k:=1) rfl .nil))))) (fun w hw=>by show St _ _ w;rw[aa];first|exact hw|exact hw.c)
 rintro _ -;refine S6 ?_;refine Xs 98 rfl (show _=Value.bool (decide (Wn B))from congrArg Value.bool (Up g1 (32,decide (Wn B)) jP)) ?_;refine S2 ?_;refine VG [98,6,3,2,1] ?_;refine RD (α:=Unit) (fun _=>[]) (fun _=>True) (fun _=>St M ((b3,Yp [.one (.string (WJ (bA6 (ZI.lt ⟨B,⟨V,Z⟩,K,d,⟨L,T,g⟩,O,⟨C,D⟩,⟨U,R,j⟩⟩))))] 219)::(b1,Yp (ZI.segs ⟨B,⟨V,Z⟩,K,d,⟨L,T,g⟩,O,⟨C,D⟩,⟨U,R,j⟩⟩) 128)::H)) (.cons (k:=6) rfl (.cons (k:=3) rfl (.cons (k:=2) rfl .nil))) ?_ ?_
 ·skip
  refine Xb (cT fun aw=>?_) (cF fun aw=>?_)
  ·refine Stp ?_;refine Yq (l:=[0,1,2,3,4,5]) [5] rfl ?_;refine S5 ?_;refine Xx (Ss M _ (bA5 (ZI.lt ⟨B,⟨V,Z⟩,K,d,⟨L,T,g⟩,O,⟨C,D⟩,⟨U,R,j⟩⟩)) (j.length) jD jD) ?_;rintro _ M1 _ ad ⟨ab,rfl,rfl⟩;obtain rfl:=ab.symm;simp only[B4];rw[B6];refine Stp ?_;refine Xj ?_;refine S10 ?_;refine VG [108,107,106,6,3,2] ?_;refine XV (Hin:=[(b3,Yp [.one (.string (WJ (bA5 (ZI.lt ⟨B,⟨V,Z⟩,K,d,⟨L,T,g⟩,O,⟨C,D⟩,⟨U,R,j⟩⟩)++SL j.length)))] 219)]) (.succ .zero) jA (fun(k:Nat) M1 h1 z=>M1=M∧z=[(108,.int .i64 (k:Int))]∧k≤j.length∧h1=[(b3,Yp [.one (.string (WJ (bA5 (ZI.lt ⟨B,⟨V,Z⟩,K,d,⟨L,T,g⟩,O,⟨C,D⟩,⟨U,R,j⟩⟩)++SL j.length++(j.take k).flatMap WB)))] 219)]) (fun k=>j.length-k) (0) (⟨rfl,rfl,by omega,by rw[List.take_zero,List.flatMap_nil,E0]⟩) ?_;rintro k M1 h1 z ad ⟨ab,rfl,hk,rfl⟩;obtain rfl:=ab.symm;have bb:=LL (f:=WB) (l:=j) (m:=29) (fun x hx=>OC (g14 x hx)) k;have bf:=SC (v:=j.length) jD;refine S6 ?_;refine Xb (cT fun ar=>?_) (cF fun ar=>?_)
   ·refine S9 ?_;intro bh;refine S3 ?_;refine Yq (l:=[0,1,2]) [2] rfl ?_;refine S2 ?_;refine Xx (HF M _ ((bA5 (ZI.lt ⟨B,⟨V,Z⟩,K,d,⟨L,T,g⟩,O,⟨C,D⟩,⟨U,R,j⟩⟩))++SL j.length++(j.take k).flatMap WB) j[k] jZ (g14 _ (C1 _))) ?_;rintro _ M1 _ ad ⟨ab,rfl,rfl⟩;obtain rfl:=ab.symm;simp only[B4];rw[B6];refine Stp ?_;refine Xj ?_;refine S6 ?_;rw[B5,show(j.take k).flatMap WB++WB j[k]=(j.take (k+1)).flatMap WB from(Du jD).symm];refine YO (a':=[(108,_)]) (k+1) ([(b3,Yp [.one (.string (WJ (bA5 (ZI.lt ⟨B,⟨V,Z⟩,K,d,⟨L,T,g⟩,O,⟨C,D⟩,⟨U,R,j⟩⟩)++SL j.length++(j.take (k+1)).flatMap WB)))] 219)]) (.cons (k:=108) rfl (.cons (k:=107) rfl (.cons (k:=106) rfl (.cons (k:=6) rfl (.cons (k:=3) rfl (.cons (k:=2) rfl (.nil))))))) jO (fun w hw=>by first|exact hw|exact hw.c) ?_ ?_
    ·exact⟨rfl,rfl,by omega,rfl⟩
    omega
   refine S4 ?_;obtain rfl:k=j.length:=by omega
   have aa:bA6 (ZI.lt ⟨B,⟨V,Z⟩,K,d,⟨L,T,g⟩,O,⟨C,D⟩,⟨U,R,j⟩⟩)=bA5 (ZI.lt ⟨B,⟨V,Z⟩,K,d,⟨L,T,g⟩,O,⟨C,D⟩,⟨U,R,j⟩⟩)++SL j.length++(j.take j.length).flatMap WB:=by unfold bA6;rw[if_pos jE,B5,G0] <;> rfl
   exact Ul (α:=Unit) (pre:=fun _=>[]) (F:=fun _=>True) (S2:=fun _=>St M ((b3,Yp [.one (.string (WJ (bA6 (ZI.lt ⟨B,⟨V,Z⟩,K,d,⟨L,T,g⟩,O,⟨C,D⟩,⟨U,R,j⟩⟩))))] 219)::(b1,Yp (ZI.segs ⟨B,⟨V,Z⟩,K,d,⟨L,T,g⟩,O,⟨C,D⟩,⟨U,R,j⟩⟩) 128)::H)) (()) (trivial) (.cons (k:=6) rfl (.cons (k:=3) rfl (.cons (k:=2) rfl .nil))) (fun w hw=>by show St _ _ w;rw[aa];first|exact hw|exact hw.c)
  refine Stp ?_;have aa:bA6 (ZI.lt ⟨B,⟨V,Z⟩,K,d,⟨L,T,g⟩,O,⟨C,D⟩,⟨U,R,j⟩⟩)=bA5 (ZI.lt ⟨B,⟨V,Z⟩,K,d,⟨L,T,g⟩,O,⟨C,D⟩,⟨U,R,j⟩⟩):=by unfold bA6;rw[if_neg jE,E0]
  exact Ul (α:=Unit) (pre:=fun _=>[]) (F:=fun _=>True) (S2:=fun _=>St M ((b3,Yp [.one (.string (WJ (bA6 (ZI.lt ⟨B,⟨V,Z⟩,K,d,⟨L,T,g⟩,O,⟨C,D⟩,⟨U,R,j⟩⟩))))] 219)::(b1,Yp (ZI.segs ⟨B,⟨V,Z⟩,K,d,⟨L,T,g⟩,O,⟨C,D⟩,⟨U,R,j⟩⟩) 128)::H)) (()) (trivial) (.cons (k:=6) rfl (.cons (k:=3) rfl (.cons (k:=2) rfl .nil))) (fun w hw=>by show St _ _ w;rw[aa];first|exact hw|exact hw.c)
 rintro _ -;refine S11 ?_;refine ZH fun w hw=>?_;refine⟨_,rfl,(hw.c),?_⟩;rfl
theorem Zye(M:Mem)(l:ZI)(g:ZI.ok M l)(L:¬SP l.lt):Fs Tryz.prog 104 [l.enc] M (fun v=>v=Value.tuple (#[.string ⟨#[]⟩,.int .i64 1])):=by
 obtain⟨ZF,⟨U,V⟩,ZX,j,⟨C,y,F⟩,O,⟨R,ZG⟩,⟨D,B,K⟩⟩:=l;have T:SlK M (WC .i64) 1 ⟨C,y,F⟩:=g.h0;have Z:SlK M Zr.segs 21 ⟨D,B,K⟩:=g.h1;refine Xa Tryz.func104 rfl Tryz.ntmps104 rfl ?_;intro H;refine S3 ?_;intro b1;refine S8 ?_;refine Vn (Zao _ ⟨_,⟨_,_⟩,_,_,⟨_,_,_⟩,_,⟨_,_⟩,⟨_,_,_⟩⟩ jE) ?_;rintro _ rfl;refine Xs 12 rfl (show _=Value.bool false from congrArg Value.bool (decide_eq_false L)) ?_;refine S3 ?_;refine Xb (fun d=>?_) (fun d=>?_)
 ·skip
  refine S8 ?_;refine ZH fun w hw=>?_;refine⟨_,rfl,(hw.c),?_⟩;rfl
 skip
 (exfalso;simp[eqX]at d;done)
theorem F.ok204:Ta Tryz.prog 204=true:=by kernel_rfl
theorem Cq(M:Mem)(d:Nat)(a b:List Nat)(y:(a++b).length≤100000)(n:Int)(v:n=(a.length:Int)):Fh Tryz.prog 224 [.pointer (some ⟨d,0,none⟩),.int .i64 n] M [(d,Yp [.one (.string (WJ (a++b)))] 230)] (fun M' r g=>M'=M∧r=.tuple #[.string (WJ a),.int .i64 0]∧g=[(d,Yp [.one (.string (WJ (b)))] 230)]):=by
 rw[B3]at y;subst v;refine YI (fun H=>(d,Yp [.one (.string (WJ (a++b)))] 230)::H) (fun _=>by simp only[B5,B4,B6]) Tryz.func224 rfl Tryz.ntmps224 rfl ?_;intro H;refine S13 ?_;refine Rz Tryz.underlying9 ?_;refine S4 ?_;refine Xb (cT fun j=>?_) (cF fun j=>?_)
 ·(exfalso;simp only[VE,B3]at *;omega)
 refine S9 ?_;refine PF (olo:=none) (ohi:=some a.length) rfl rfl rfl .none (.some rfl rfl) Tryz.underlying9 (by show a.length≤_;rw[VE,B3];omega) (C3 _) (show _=WJ a from Zmr a b) rfl ?_;refine S11 ?_;refine PF (olo:=some a.length) (ohi:=none) rfl rfl rfl (.some rfl rfl) .none Tryz.underlying9 (B9 _) (by show a.length≤(WJ (a++b)).size;rw[VE,B3];omega) (show _=WJ b from Zez a b) rfl ?_;refine S13 ?_;refine ZH fun w hw=>?_;refine⟨_,M,[(d,Yp [.one (.string (WJ (b)))] 230)],rfl,Mem.le.refl M,hw.c,rfl,rfl,rfl⟩
theorem Yao{x:Nat}(hx:x<72057594037927936):LA .shl .u64 ((x:Nat):Int) 8=some ((x * 256:Nat):Int):=by
 show some (IntKind.u64.wrap ((x:Int) * 2 ^ 8))=_;rw[show(x:Int) * 2 ^ 8=((x * 256:Nat):Int)by omega];exact congrArg some (RX rfl jD)
theorem Zji{v:Nat}(j:v<18446744073709551616)(h:0<Sa v):¬((v / 256 ^ (Sa v-1) % 256:Nat):Int)=0:=by
 have h0:v≠0:=by rintro rfl;exact absurd h jM
 obtain⟨_,h2⟩:=Ztg h0;have h3:=Zhj v;have e:Sa v=(Sa v-1)+1:=by omega
 rw[e,Nat.pow_succ]at h3;have g:1≤v / 256 ^ (Sa v-1):=(Nat.le_div_iff_mul_le (Nat.pow_pos jM)).2 jD;have d:v / 256 ^ (Sa v-1)<256:=Nat.div_lt_of_lt_mul jD;omega
theorem Znm(M:Mem)(d:Nat)(v:Nat)(b:List Nat)(K:v<18446744073709551616)(U:(SL v++b).length≤100000):Fh Tryz.prog 204 [.pointer (some ⟨d,0,none⟩)] M [(d,Yp [.one (.string (WJ (SL v++b)))] 230)] (fun M' r F=>M'=M∧r=.tuple #[.int .u64 (v:Int),.int .i64 0]∧F=[(d,Yp [.one (.string (WJ (b)))] 230)]):=by
 rw[B3,PB]at U;have y:=Jh K;refine YI (fun H=>(d,Yp [.one (.string (WJ (SL v++b)))] 230)::H) (fun _=>by simp only[B5,B4,B6]) Tryz.func204 rfl Tryz.ntmps204 rfl ?_;intro H;refine S7 ?_;refine Yq (l:=[0,1,2,3,4,5,6]) [1] rfl ?_;refine Stp ?_
 skip
 refine Xx (Cq M d [Sa v] (beL (Sa v) v++b) (by simp only[B3,C8,D5,SI];omega) _ rfl) ?_;rintro _ V _ R ⟨g,rfl,rfl⟩;obtain rfl:=g.symm;simp only[B4];rw[B6];refine S6 ?_;refine Xj ?_;refine Stp ?_;refine VG [5,4,3,2,0] ?_;refine S7 ?_;refine VG [14,5,4,3,2,0] ?_;refine Xb (eT fun B=>?_) (eF fun B=>?_)
 ·(exfalso;simp[eqX]at B;done)
 refine S2 ?_;refine VG [5,4,3,2,0] ?_;refine S4 ?_;refine VH (k:=0) (s:=WJ [Sa v]) rfl rfl rfl rfl Tryz.underlying9 rfl (by rw[VE];exact Nat.one_pos) (show _=Value.int .u8 ((Sa v:Nat):Int)from by rw[Qe (l:=[Sa v]) (fun x hx=>by obtain rfl:=B0.1 hx;omega)];rfl) rfl ?_;refine S3 ?_;refine VG [18,5,4,3,2,0] ?_;refine Xb (cT fun T=>?_) (cF fun T=>?_)
 ·(exfalso;omega)
 refine S2 ?_;refine VG [5,4,3,2,0] ?_;refine S2 ?_;refine Yq (l:=[0,1,2,3,4,5,6,7,8,9]) [4] rfl ?_;refine S2 ?_;refine VH (k:=0) (s:=WJ [Sa v]) rfl rfl rfl rfl Tryz.underlying9 rfl (by rw[VE];exact Nat.one_pos) (show _=Value.int .u8 ((Sa v:Nat):Int)from by rw[Qe (l:=[Sa v]) (fun x hx=>by obtain rfl:=B0.1 hx;omega)];rfl) rfl ?_;refine Stp ?_;refine Xs 23 rfl (show _=Value.int .i64 (((beL (Sa v) v).length:Nat):Int)from congrArg _ (by rw[SI])) ?_;refine Xx (Cq M d (beL (Sa v) v) b (by simp only[B3,C8,D5,SI];omega) _ rfl) ?_;rintro _ V _ R ⟨g,rfl,rfl⟩;obtain rfl:=g.symm;simp only[B4];rw[B6];refine S6 ?_;refine Xj ?_;refine Stp ?_;refine VG [5,4,3,2] ?_;refine S6 ?_;refine VG [28,5,4,3,2] ?_;refine Xb (eT fun C=>?_) (eF fun C=>?_)
 ·(exfalso;simp[eqX]at C;done)
 refine S2 ?_;refine VG [4,3,2] ?_;refine S9 ?_;refine Rz Tryz.underlying9 ?_;refine Xs 31 rfl (show _=Value.int .i64 ((Sa v:Nat):Int)from congrArg _ (by rw[VE,SI])) ?_;refine S3 ?_;refine VG [32,31,6,4,3,2] ?_;refine Stp ?_;refine VG [32,6,31,4,3,2] ?_;refine Un (.succ (.succ .zero)) (fun(k:Nat) z=>z=[(32,.int .i64 (k:Int)),(6,.int .u64 ((v / 256 ^ (Sa v-k):Nat):Int))]∧k≤Sa v) (fun k=>Sa v-k) (0) (⟨by rw[Nat.sub_zero,Nat.div_eq_of_lt (Zhj v)];rfl,by omega⟩) ?_;rintro k _ ⟨rfl,hk⟩;refine S6 ?_;refine Xb (cT fun O=>?_) (cF fun O=>?_)
 ·refine S12 ?_;refine VK rfl rfl rfl rfl jM (show _=some ((v / 256 ^ (Sa v-k) * 256:Nat):Int)from Yao (Zxl jD y K)) rfl rfl ?_;refine S2 ?_;refine VH (k:=k) (s:=WJ (beL (Sa v) v)) rfl rfl rfl rfl Tryz.underlying9 rfl (by rw[VE,SI];omega) (show _=Value.int .u8 ((v / 256 ^ (Sa v-1-k) % 256:Nat):Int)from by rw[Qe (Zrk _ _),By jD]) rfl ?_;refine Stp ?_;refine TB rfl rfl rfl rfl rfl (show _=((v / 256 ^ (Sa v-(k+1)):Nat):Int)from by rw[← Zui jD];exact Zsu (Zxl jD y K) (G5 _ jM)) rfl ?_;refine S5 ?_;refine DZ rfl rfl rfl rfl rfl yN rfl ?_;refine S2 ?_;refine VX (a':=[(32,_),(6,_)]) (k+1) (.cons (k:=32) rfl (.cons (k:=6) rfl (.cons (k:=31) rfl (.cons (k:=4) rfl (.cons (k:=3) rfl (.cons (k:=2) rfl (.nil))))))) (fun w hw=>by first|exact hw|exact hw.c) ?_ ?_
  ·exact⟨rfl,by omega⟩
  omega
 refine S9 ?_;refine Zxr ?_;refine Stp ?_;refine YE 45 (eT fun L=>?_) (eF fun L=>?_)
 ·refine Stp ?_;have j:0<Sa v:=by have h9:=Zsd (l:=beL (Sa v) v) jE;rwa [SI]at h9
  refine VH (k:=0) (s:=WJ (beL (Sa v) v)) rfl rfl rfl rfl Tryz.underlying9 rfl (by rw[VE,SI];exact j) (show _=Value.int .u8 ((v / 256 ^ (Sa v-1) % 256:Nat):Int)from by rw[Qe (Zrk _ _),By j,Nat.sub_zero]) rfl ?_;refine Stp ?_;refine Xs 48 rfl (show _=Value.bool false from congrArg Value.bool (decide_eq_false (Zji K j))) ?_;refine S3 ?_;refine Xb (fun D=>?_) (fun D=>?_)
  ·skip
   (exfalso;simp[eqX]at D;done)
  skip
  refine S10 ?_;refine ZH fun w hw=>?_;obtain rfl:k=Sa v:=by omega
  refine⟨_,M,[(d,Yp [.one (.string (WJ (b)))] 230)],rfl,Mem.le.refl M,hw.c,rfl,?_,rfl⟩;rw[Nat.sub_self,Nat.pow_zero,Nat.div_one];rfl
 refine S17 ?_;refine ZH fun w hw=>?_;obtain rfl:k=Sa v:=by omega
 refine⟨_,M,[(d,Yp [.one (.string (WJ (b)))] 230)],rfl,Mem.le.refl M,hw.c,rfl,?_,rfl⟩;rw[Nat.sub_self,Nat.pow_zero,Nat.div_one];rfl
theorem Znj(M:Mem)(d:Nat)(v:Nat)(b:List Nat)(D:v<18446744073709551616)(C:(SL v++b).length≤100000):Fh Tryz.prog 203 [.pointer (some ⟨d,0,none⟩),.func (.func 204) #[.pointer (some ⟨d,0,none⟩)] #[]] M [(d,Yp [.one (.string (WJ (SL v++b)))] 230)] (fun M' r y=>M'=M∧r=.tuple #[.int .u64 (v:Int),.int .i64 0]∧y=[(d,Yp [.one (.string (WJ (b)))] 230)]):=by
 rw[B3,PB]at C;refine YI (fun H=>(d,Yp [.one (.string (WJ (SL v++b)))] 230)::H) (fun _=>by simp only[B5,B4,B6]) Tryz.func203 rfl Tryz.ntmps203 rfl ?_;intro H;refine S18 ?_;refine Xb (fun g=>?_) (fun g=>?_)
 ·skip
  (exfalso;simp[eqX]at g;done)
 skip
 refine S12 ?_;refine Yq (l:=[0,1,2,3,4,5,6]) [1] rfl ?_;refine Stp ?_;refine Zrq (bs:=[.pointer (some ⟨d,0,none⟩)]) (vs:=[]) (caps:=[]) rfl rfl rfl rfl F.ok204 rfl rfl (Znm M d v b D (by rw[B3,PB];omega)) jA (XK rfl) ?_;rintro _ L _ K ⟨B,rfl,rfl⟩;obtain rfl:=B.symm;simp only[B4];rw[B6];refine S6 ?_;refine Xj ?_;refine S8 ?_;refine Xb (eT fun j=>?_) (eF fun j=>?_)
 ·(exfalso;simp[eqX]at j;done)
 refine S10 ?_;refine ZH fun w hw=>?_;refine⟨_,M,[(d,Yp [.one (.string (WJ (b)))] 230)],rfl,Mem.le.refl M,hw.c,rfl,rfl,rfl⟩
theorem Zlo(M:Mem)(d:Nat)(v:Nat)(b:List Nat)(B:v<18446744073709551616)(y:(SL v++b).length≤100000):Fh Tryz.prog 168 [.pointer (some ⟨d,0,none⟩)] M [(d,Yp [.one (.string (WJ (SL v++b)))] 230)] (fun M' r g=>M'=M∧r=.tuple #[.int .u64 (v:Int),.int .i64 0]∧g=[(d,Yp [.one (.string (WJ (b)))] 230)]):=by
 refine YI (fun H=>(d,Yp [.one (.string (WJ (SL v++b)))] 230)::H) (fun _=>by simp only[B5,B4,B6]) Tryz.func168 rfl Tryz.ntmps168 rfl ?_;intro H;refine S7 ?_;refine Yq (l:=[0,1,2,3,4,5,6,7]) [3] rfl ?_;refine S3 ?_;refine Xx (Znj M d v b B y) ?_;rintro _ D _ C ⟨j,rfl,rfl⟩;obtain rfl:=j.symm;simp only[B4];rw[B6];refine S5 ?_;refine Xj ?_;refine S2 ?_;refine ZH fun w hw=>?_;refine⟨_,M,[(d,Yp [.one (.string (WJ (b)))] 230)],rfl,Mem.le.refl M,hw.c,rfl,rfl,rfl⟩
theorem Sc(M:Mem)(d:Nat)(v:Nat)(b:List Nat)(O:v<18446744073709551616)(L:(SL v++b).length≤100000)(lo hi:Int)(F:lo≤(v:Int))(K:(v:Int)≤hi):Fh Tryz.prog 110 [WX [.one (.pointer (some ⟨d,0,none⟩))],.int .u64 lo,.int .u64 hi] M [(d,Yp [.one (.string (WJ (SL v++b)))] 230)] (fun M' r y=>M'=M∧r=.int .u64 (v:Int)∧y=[(d,Yp [.one (.string (WJ (b)))] 230)]):=by
 refine YI (fun H=>(d,Yp [.one (.string (WJ (SL v++b)))] 230)::H) (fun _=>by simp only[B5,B4,B6]) Tryz.func110 rfl Tryz.ntmps110 rfl ?_;intro H;refine S3 ?_;intro U;refine S4 ?_;refine Yq (l:=[0,1,2,3,4,5,6,7]) [2] rfl ?_;refine S2 ?_;refine Xx (Zlo M d v b O L) ?_;rintro _ T _ R ⟨C,rfl,rfl⟩;obtain rfl:=C.symm;simp only[B4];rw[B6];refine S6 ?_;refine Xj ?_;refine S7 ?_;refine YE 17 (cT fun g=>?_) (cF fun g=>?_)
 ·refine S4 ?_;refine YE 21 (cT fun D=>?_) (cF fun D=>?_)
  ·(exfalso;omega)
  refine S7 ?_;refine Xb (cT fun B=>?_) (cF fun B=>?_)
  ·(exfalso;omega)
  refine S9 ?_;refine Xb (eT fun j=>?_) (eF fun j=>?_)
  ·(exfalso;simp[eqX]at j;done)
  refine S9 ?_;refine ZH fun w hw=>?_;refine⟨_,M,[(d,Yp [.one (.string (WJ (b)))] 230)],rfl,Mem.le.refl M,hw.c,rfl,rfl,rfl⟩
 (exfalso;simp[eqX]at g;done)
theorem F.ok110:Ta Tryz.prog 110=true:=by kernel_rfl
theorem F.ok206:Ta Tryz.prog 206=true:=by kernel_rfl
theorem Zsp(x:Plc):(Segs.cells [ZU x]).length=20:=by rw[KV,Qv,A8,A8,Py]
theorem Znl(M:Mem)(d:Nat)(x:Plc)(b:List Nat)(v:(Nc x++b).length≤100000):Fh Tryz.prog 206 [.pointer (some ⟨d,0,none⟩)] M [(d,Yp [.one (.string (WJ (Nc x++b)))] 230)] (fun M' r g=>M'=M∧r=.tuple #[WX [ZU x],.int .i64 0]∧g=[(d,Yp [.one (.string (WJ (b)))] 230)]):=by
 refine YI (fun H=>(d,Yp [.one (.string (WJ (Nc x++b)))] 230)::H) (fun _=>by simp only[B5,B4,B6]) Tryz.func206 rfl Tryz.ntmps206 rfl ?_;intro H;refine S3 ?_;intro C;refine S6 ?_;intro D;refine S3 ?_;refine Yq (l:=[0,1,2,3,4,5,6]) [1] rfl ?_;refine Stp ?_;refine Xx (Cq M d (Nc x) b v 20 (by rw[Py];rfl)) ?_;rintro _ B _ y ⟨j,rfl,rfl⟩;obtain rfl:=j.symm;simp only[B4];rw[B6];refine S6 ?_;refine Xj ?_;refine S5 ?_;refine Zlb (u:=[ZU x]) rfl rfl rfl rfl rfl F.elem202 (by rw[VE,Py]) jH (Zsp _) (Zbq x) rfl ?_;refine S11 ?_;refine ZH fun w hw=>?_;refine⟨_,M,[(d,Yp [.one (.string (WJ (b)))] 230)],rfl,Mem.le.refl M,hw.c,rfl,rfl,rfl⟩
theorem Znk(M:Mem)(d:Nat)(x:Plc)(b:List Nat)(B:(Nc x++b).length≤100000):Fh Tryz.prog 205 [.pointer (some ⟨d,0,none⟩),.func (.func 206) #[.pointer (some ⟨d,0,none⟩)] #[]] M [(d,Yp [.one (.string (WJ (Nc x++b)))] 230)] (fun M' r v=>M'=M∧r=.tuple #[WX [ZU x],.int .i64 0]∧v=[(d,Yp [.one (.string (WJ (b)))] 230)]):=by
 refine YI (fun H=>(d,Yp [.one (.string (WJ (Nc x++b)))] 230)::H) (fun _=>by simp only[B5,B4,B6]) Tryz.func205 rfl Tryz.ntmps205 rfl ?_;intro H;refine S3 ?_;intro L;refine S6 ?_;intro O;refine S9 ?_;refine Xb (fun j=>?_) (fun j=>?_)
 ·skip
  (exfalso;simp[eqX]at j;done)
 skip
 refine S12 ?_;refine Yq (l:=[0,1,2,3,4,5,6,7]) [1] rfl ?_;refine Stp ?_;refine Zrq (bs:=[.pointer (some ⟨d,0,none⟩)]) (vs:=[]) (caps:=[]) rfl rfl rfl rfl F.ok206 rfl rfl (Znl M d x b B) jA (XK rfl) ?_;rintro _ D _ C ⟨y,rfl,rfl⟩;obtain rfl:=y.symm;simp only[B4];rw[B6];refine S4 ?_;intro K;refine S3 ?_;refine Xj ?_;refine S8 ?_;refine Xb (eT fun g=>?_) (eF fun g=>?_)
 ·(exfalso;simp[eqX]at g;done)
 refine S10 ?_;refine ZH fun w hw=>?_;refine⟨_,M,[(d,Yp [.one (.string (WJ (b)))] 230)],rfl,Mem.le.refl M,hw.c,rfl,rfl,rfl⟩
theorem Zqh(M:Mem)(d:Nat)(x:Plc)(b:List Nat)(v:(Nc x++b).length≤100000):Fh Tryz.prog 169 [.pointer (some ⟨d,0,none⟩)] M [(d,Yp [.one (.string (WJ (Nc x++b)))] 230)] (fun M' r g=>M'=M∧r=.tuple #[WX [ZU x],.int .i64 0]∧g=[(d,Yp [.one (.string (WJ (b)))] 230)]):=by
 refine YI (fun H=>(d,Yp [.one (.string (WJ (Nc x++b)))] 230)::H) (fun _=>by simp only[B5,B4,B6]) Tryz.func169 rfl Tryz.ntmps169 rfl ?_;intro H;refine S3 ?_;intro C;refine S4 ?_;refine Yq (l:=[0,1,2,3,4,5,6,7]) [3] rfl ?_;refine S3 ?_;refine Xx (Znk M d x b v) ?_;rintro _ B _ y ⟨j,rfl,rfl⟩;obtain rfl:=j.symm;simp only[B4];rw[B6];refine S5 ?_;refine Xj ?_;refine S2 ?_;refine ZH fun w hw=>?_;refine⟨_,M,[(d,Yp [.one (.string (WJ (b)))] 230)],rfl,Mem.le.refl M,hw.c,rfl,rfl,rfl⟩
theorem Eu(M:Mem)(d:Nat)(x:Plc)(b:List Nat)(y:(Nc x++b).length≤100000):Fh Tryz.prog 113 [WX [.one (.pointer (some ⟨d,0,none⟩))]] M [(d,Yp [.one (.string (WJ (Nc x++b)))] 230)] (fun M' r j=>M'=M∧r=WX [ZU x]∧j=[(d,Yp [.one (.string (WJ (b)))] 230)]):=by
 refine YI (fun H=>(d,Yp [.one (.string (WJ (Nc x++b)))] 230)::H) (fun _=>by simp only[B5,B4,B6]) Tryz.func113 rfl Tryz.ntmps113 rfl ?_;intro H;refine S3 ?_;intro F;refine Stp ?_;intro K;refine S3 ?_;refine Yq (l:=[0,1,2,3,4,5,6,7,8]) [2] rfl ?_;refine S2 ?_;refine Xx (Zqh M d x b y) ?_;rintro _ D _ B ⟨v,rfl,rfl⟩;obtain rfl:=v.symm;simp only[B4];rw[B6];refine S4 ?_;intro C;refine S3 ?_;refine Xj ?_;refine S8 ?_;refine Xb (eT fun g=>?_) (eF fun g=>?_)
 ·(exfalso;simp[eqX]at g;done)
 refine S9 ?_;refine ZH fun w hw=>?_;refine⟨_,M,[(d,Yp [.one (.string (WJ (b)))] 230)],rfl,Mem.le.refl M,hw.c,rfl,rfl,rfl⟩
theorem Kc(M:Mem)(v:Nat)(p:Zr)(b:List Nat)(D:Yf p.addr)(K:(WB p++b).length≤100000):Fh Tryz.prog 111 [WX [.one (.pointer (some ⟨v,0,none⟩))]] M [(v,Yp [.one (.string (WJ (WB p++b)))] 230)] (fun M' r B=>M'=M∧r=p.enc∧B=[(v,Yp [.one (.string (WJ (b)))] 230)]):=by
 obtain⟨g,d⟩:=p;replace D:0≤g∧g≤999:=D;have y:(SL g.toNat++(Nc d++b)).length≤100000:=by rw[← B5];exact K
 rw[show WB ⟨g,d⟩++b=SL g.toNat++(Nc d++b)from B5 ..];refine YI (fun H=>(v,Yp [.one (.string (WJ (SL g.toNat++(Nc d++b))))] 230)::H) (fun _=>by simp only[B5,B4,B6]) Tryz.func111 rfl Tryz.ntmps111 rfl ?_;intro H;refine S3 ?_;intro O;refine Stp ?_;intro R;refine S3 ?_;refine Yq (l:=[0,1,2]) [1] rfl ?_;refine Stp ?_;refine Xx (Sc M v g.toNat (Nc d++b) jD y 0 999 jD jD) ?_;rintro _ L _ C ⟨j,rfl,rfl⟩;obtain rfl:=j.symm;simp only[B4];rw[B6];refine S2 ?_;refine Xj ?_;refine S2 ?_;refine Yq (l:=[0,1,2,3,4,5]) [3] rfl ?_;refine S2 ?_;refine Xs 7 rfl (show _=Value.int .i64 (g)from congrArg _ jD) ?_;refine Stp ?_;refine Xx (Eu M v d b (by rw[B3]at y;omega)) ?_;rintro _ L _ C ⟨j,rfl,rfl⟩;obtain rfl:=j.symm;simp only[B4];rw[B6];refine XN rfl rfl F.bld38 (.cons rfl jG (.cons rfl jG .nil)) rfl rfl ?_;refine S2 ?_;refine Xj ?_;refine S2 ?_;refine ZH fun w hw=>?_;refine⟨_,M,[(v,Yp [.one (.string (WJ (b)))] 230)],rfl,Mem.le.refl M,hw.c,rfl,rfl,rfl⟩
theorem GV(M:Mem)(g:Nat)(b:List Nat):Fh Tryz.prog 114 [.pointer (some ⟨g,0,none⟩)] M [(g,Yp [.one (.string (WJ (b)))] 230)] (fun M' r d=>M'=M∧r=.int .i64 (b.length:Int)∧d=[(g,Yp [.one (.string (WJ (b)))] 230)]):=by
 refine YI (fun H=>(g,Yp [.one (.string (WJ (b)))] 230)::H) (fun _=>by simp only[B5,B4,B6]) Tryz.func114 rfl Tryz.ntmps114 rfl ?_;intro H;refine S12 ?_;refine Xb (fun j=>?_) (fun j=>?_)
 ·skip
  (exfalso;simp[eqX]at j;done)
 skip
 refine S8 ?_;refine Rz Tryz.underlying9 ?_;refine S4 ?_;refine ZH fun w hw=>?_;refine⟨_,M,[(g,Yp [.one (.string (WJ (b)))] 230)],rfl,Mem.le.refl M,hw.c,rfl,?_,rfl⟩;rw[VE];rfl
end Go.Proofs.YtglnjnacodgmaaaGreatDoor
namespace Go.Esp
section
variable {P:Program} {Q:Exit→Act→World→Prop} {M M':Mem} {H H':Hp} {e:Env} {S:World→Prop}
theorem GZ{m:Nat}{id:Nat}{ops:Array Oper}{d:Tmp}{f:FuncId}{ys:List Operand}{us:List Value}{F:Array TypeId}{O B:TypeId}{D y:String}{R L:Array Edge}
 (h0:ops[0]?=some ⟨some d,.makeFunc (.func f) #[] ys.toArray,O,D,R,none⟩) (h1:ops[1]?=some ⟨none,.defer ⟨.value (.tmp d),#[],F⟩,B,y,L,none⟩) (hs:ops.size=2)
 (Z:evs e ys=some us) (U:Nat.ble (d+1) m=true) (hk:K ⟨m,[⟨.fn (.func f) us.toArray,#[]⟩],none,[]⟩ Q .normal S ((d,.func (.func f) #[] us.toArray)::e)):C P ⟨m,[],none,[]⟩ (.region id ops false) Q S e:=by
 intro a w ha hw;refine wpIn_region ?_;rw[hs];show wpOpsIn _ _ _ _ _ [0,1] _ _;rw[wpOpsIn_cons];unfold wpOpIn;simp only[h0];refine Runs.wpIn (v:=.func (.func f) #[] us.toArray) (.inl (by
  simp only[execOp];rw[show ys.toArray.map a.eval=us.toArray from by rw[← ha.evs Z];simp,show(#[]:Array Operand).map a.eval=#[]from by simp];rfl)) ?_
 rw[wpOpsIn_cons];unfold wpOpIn;simp only[h1];have j:=ha.put U (.func (.func f) #[] us.toArray);refine⟨fun _ _=>trivial,?_⟩;have V:(a.put (some d) (.func (.func f) #[] us.toArray)).eval (.tmp d)=.func (.func f) #[] us.toArray:=j.ev (by unfold ev Esp.get;simp);have T:(Oper.semAt (Fr none).round (a.put (some d) (.func (.func f) #[] us.toArray)).eval ⟨none,.defer ⟨.value (.tmp d),#[],F⟩,B,y,L,none⟩).run P w=.ok (.defer ⟨.fn (.func f) us.toArray,#[]⟩) w:=by
  rw[show(Fr none).round=none from rfl,Oper.semAt_none];simp only[execOp,resolve,V,Deferred.ofValue];rw[show∀ g:Operand→Value,(#[]:Array Value)++Array.map g #[]=#[]from fun g=>by simp];rfl
 rw[T];exact hk _ w ⟨j.size,A9 (_::·) j.defers,j.slot⟩ hw
theorem Zfw{n:Sh}{fn:Func}{vs:List Value}{a:Act}{w:World}(d:Res P e H fn.results.toList vs)(ha:Sat n e a)(hw:St M H w):(results fn a.tmps).run P w=.ok (Zmb vs) w:=by
 have h1:=Res.run (P:=P) ha hw d;have h2:results fn a.tmps=(do let vs ← fn.results.mapM (IF a.tmps);pure (if h:vs.size=1 then vs[0]else .tuple vs)):=by
  congr 1
 rw[h2,Array.mapM_eq_mapM_toList,Sem.run_bind];rw[Sem.run_map,h1];cases vs with
 | nil=>rfl
 | cons v vs=>cases vs <;> rfl
theorem Zam{n:Nat}{fn:Func}{R:Ending→World→Prop}{x:Exit}{vs us:List Value}{f:FuncId}(hx:x=.normal∨x=.ret)(y:Res P e H fn.results.toList vs)
 (C:Ta P f=true) (B:∀ w,St M H w→CallsD P f us.toArray .returning w fun en j d=>j=.returning∧(∃ v,en=.returned v)∧St M H d) (h:∀ w,St M H w→R (.returned (Zmb vs)) w) :
 K ⟨n,[⟨.fn (.func f) us.toArray,#[]⟩],none,[]⟩ (bodyPostD P fn R) x (St M H) e:=by
 intro a w ha hw;obtain⟨g,g1,g2,g3⟩:=Ub C;have hi:(invoke (.fn (.func f) us.toArray) #[]).run P w=.ok (.enter f us.toArray) w:=by
  simp only[invoke];unfold callFunc;rw[Sem.run_bind];show(Result.ok P w).andThen _=_;rw[Result.andThen_ok];simp only[g1,g3];have:g.body.isNone=false:=by rw[← Option.not_isSome,g2];rfl
  simp only[this];rw[show(#[]++us.toArray)=us.toArray from by simp];rfl
 have L:Leaves P fn a.tmps R a.defers .returning w:=by
  rw[ha.defers];refine leaves_cons (by intro h9;cases h9) hi ((B w hw).mono ?_);rintro en j d ⟨rfl,⟨v,rfl⟩,hs⟩;exact⟨Zmb vs,Zfw y ha hs,h d hs⟩
 rcases hx with rfl|rfl <;> exact L
theorem Zxc{f:FuncId}{fn:Func}{c:Code}{vs:List Value}{w:World}{R:Ending→World→Prop}{m:Nat}(g:P.funcs[f]?=some fn)(hb:fn.body=some c)(hm:fn.ntmps=m)(hle:Nat.ble vs.length m=true)
 (hw:S w) (h:C P ⟨m,[],none,[]⟩ c (bodyPostD P fn R) S (RJ 0 vs)):Calls P f vs.toArray w R:=by
 have d:vs.length≤m:=D1 hle;refine calls_of_wp_defers g hb (wpIn_wide.1 (h _ w ⟨?_,rfl,fun k v hk=>?_⟩ hw))
 ·grind
 rw[hm];obtain⟨_,h2⟩:=Or vs 0 k v hk;exact HD k v (by simpa using h2)
theorem Zjc{f:FuncId}{fn:Func}{c:Code}{vs:List Value}{R:Mem→Value→Prop}{m:Nat}(g:P.funcs[f]?=some fn)(hb:fn.body=some c)(hm:fn.ntmps=m)(hle:Nat.ble vs.length m=true)
 (h:∀ H,C P ⟨m,[],none,[]⟩ c (bodyPostD P fn fun e d=>∃ v M',e=.returned v∧M.le M'∧St M' H d∧R M' v) (St M H) (RJ 0 vs)):Fn P f vs M R :=
 fun H _ hw=>Zxc (S:=St M H) g hb hm hle hw (h H)
theorem Ez{f:FuncId}{fn:Func}{vs:List Value}{m id:Nat}{ops:Array Oper}{rest:Code}{d d2:Tmp}{R:Array TypeId}{O L:TypeId}{y j:String}{F T:Array Edge}(hf:P.funcs[f]?=some fn)(hb:fn.body=some (.seq (.region id ops false) rest))(hm:fn.ntmps=m)(hle:Nat.ble vs.length m=true)
 (h0:ops[0]?=some ⟨some d,.call ⟨.builtin .recover,#[],R⟩,O,y,F,none⟩) (h1:ops[1]?=some ⟨some d2,.assign (.tmp d),L,j,T,none⟩) (hs:ops.size=2) (hd:Nat.ble (d+1) m=true) (aa:Nat.ble (d2+1) m=true)
 (hk:∀ B:Frame,∀ cs:List Frame,B.mode=.returning→C P ⟨m,[],none,[]⟩ rest (fun e a D=>bodyPostS P fn B cs (fun en U D=>U=.returning∧(∃ v,en=.returned v)∧St M H D) e a (B::cs) D) (St M H) ((d2,.nilIface)::(d,.nilIface)::RJ 0 vs)) :
 ∀ w,St M H w→CallsD P f vs.toArray .returning w fun en U D=>U=.returning∧(∃ v,en=.returned v)∧St M H D:=by
 intro w hw;have ab:vs.length≤m:=D1 hle;refine callsD_of_wpS hf hb fun B cs g=>?_;refine wpS_seq (wpS_region ?_);rw[hs];show wpOpsS _ _ _ [0,1] _ _ _;have ha:Sat ⟨m,[],none,[]⟩ (RJ 0 vs) { tmps:=vs.toArray++Array.replicate (fn.ntmps-vs.toArray.size) undef,defers:=[] }:=by
  refine⟨?_,rfl,fun k v hk=>?_⟩
  ·simp[hm];omega
  rw[hm];obtain⟨_,h2⟩:=Or vs 0 k v hk;exact HD k v (by simpa using h2)
 have K:=ha.put hd .nilIface;have V:=K.put aa .nilIface;unfold wpOpsS;simp only[h0];have r0:(execOp ({ tmps:=vs.toArray++Array.replicate (fn.ntmps-vs.toArray.size) undef,defers:=[] }:Act).eval ⟨some d,.call ⟨.builtin .recover,#[],R⟩,O,y,F,none⟩).run P w=.ok .recover w:=by
  rfl
 rw[r0];have Z:recoverD (B::cs)=none:=by unfold recoverD;simp only[g]
 simp only[Z];unfold wpOpsS;simp only[h1];have r1:(execOp (Act.put { tmps:=vs.toArray++Array.replicate (fn.ntmps-vs.toArray.size) undef,defers:=[] } (some d) .nilIface).eval ⟨some d2,.assign (.tmp d),L,j,T,none⟩).run P w=.ok (.value .nilIface) w:=by
  have hv:(Act.put { tmps:=vs.toArray++Array.replicate (fn.ntmps-vs.toArray.size) undef,defers:=[] } (some d) .nilIface).eval (.tmp d)=.nilIface:=K.ev (by unfold ev Esp.get;simp);simp only[execOp,hv];rfl
 rw[r1];exact wpS_of_wp (wpIn_wide.1 (hk B cs g _ w V hw))
theorem Zyk{n:Nat}{fn:Func}{x:Exit}{vs:List Value}{d:Frame}{cs:List Frame}(hm:d.mode=.returning)(hx:x=.normal∨x=.ret)(y:Res P e H fn.results.toList vs):
 K ⟨n,[],none,[]⟩ (fun en a g=>bodyPostS P fn d cs (fun en j g=>j=.returning∧(∃ v,en=.returned v)∧St M H g) en a (d::cs) g) x (St M H) e:=by
 intro a w ha hw;have h9:d::cs={ d with mode:=.returning }::cs:=by rw[← hm]
 rcases hx with rfl|rfl <;> exact⟨ha.defers,.returning,h9,Zmb vs,Zfw y ha hw,rfl,⟨_,rfl⟩,hw⟩
end
end Go.Esp
namespace Go.Proofs.YtglnjnacodgmaaaGreatDoor
open Go.Esp
theorem F.bld176:Bld Tryz.prog 176 [[.one (.pointer none)]]:=⟨by kernel_rfl,by kernel_rfl⟩
theorem F.bld230:Bld Tryz.prog 230 [[.one (.string ⟨#[]⟩)]]:=⟨by kernel_rfl,by kernel_rfl⟩
theorem F.ok108:Ta Tryz.prog 108=true:=by kernel_rfl
theorem Zuw(M:Mem)(l:List Nat):Fh Tryz.prog 109 [.string (WJ l)] M [] (fun M' r d=>M'=M∧∃ g,r=.pointer (some ⟨g,0,none⟩)∧d=[(g,Yp [.one (.string (WJ (l)))] 230)]):=by
 refine YI (fun H=>H) (fun _=>rfl) Tryz.func109 rfl Tryz.ntmps109 rfl ?_;intro H;refine S8 ?_;refine XN rfl rfl F.bld230 (.cons rfl jG .nil) rfl rfl ?_;refine Stp ?_;intro j;refine S4 ?_;refine ZH fun w hw=>?_;refine⟨_,M,[(j,Yp [.one (.string (WJ (l)))] 230)],rfl,Mem.le.refl M,hw.c,rfl,_,rfl,rfl⟩
theorem Gm(M:Mem)(H:Hp)(p q:Value):∀ w,St M H w→CallsD Tryz.prog 108 #[p,q] .returning w fun en j y=>j=.returning∧(∃ v,en=.returned v)∧St M H y:=by
 refine Ez (vs:=[p,q]) Tryz.func108 rfl Tryz.ntmps108 rfl rfl rfl rfl rfl rfl (fun B cs g=>?_);refine S6 ?_;refine Xb (fun d=>?_) (fun d=>?_)
 ·skip
  (exfalso;simp[eqX]at d;done)
 skip
 refine Stp ?_;exact Zyk g (.inl rfl) (.nil)
theorem Zyl(M:Mem)(l:Lt)(hI:SP l)(hr:SB l.req):Esp.Fn Tryz.prog 69 [.string (body l)] M (fun M' v=>∃ x:ZI,v=.tuple #[x.enc,.int .i64 0]∧ZI.ok M' x∧x.lt=l):=by
 obtain⟨C,⟨d,g⟩,L,j,D,O,⟨B,y⟩,K⟩:=l;have bj:=Zxm hI hr;simp only at bj;obtain⟨g1,g2,g3,g4,g5,g6,g7,g8,g9,g10,g11,g12,g13,g14⟩:=hI;simp only at g1 g2 g3 g4 g5 g6 g7 g8 g9 g10 g11 g12 g13 g14;obtain⟨z0,z1,z2,z3,z4,z5,z6,z7⟩:=bj;obtain⟨r1,r2⟩:=hr;simp only at r1 r2;have b9:=SC (v:=L.toNat) jD;have b4:(if(⟨B,y⟩:Zr)≠Yj then WB ⟨B,y⟩else[]).length≤29:=by
  split
  ·rename_i h8;exact OC (g5.resolve_left h8)
  exact C3 _
 rw[show body ⟨C,⟨d,g⟩,L,j,D,O,⟨B,y⟩,K⟩=WJ (SL C.toNat++(WB ⟨d,g⟩++bS0 ⟨C,⟨d,g⟩,L,j,D,O,⟨B,y⟩,K⟩))from A9 WJ (Zxn _)];refine Zjc Tryz.func69 rfl Tryz.ntmps69 rfl ?_;intro H;refine S3 ?_;intro b1;refine Stp ?_;intro b2;refine S3 ?_;refine GZ (ys:=[.tmp 2,.tmp 3]) rfl rfl rfl rfl rfl ?_;refine S2 ?_;refine Yq (l:=[0,1,2,3,4]) [1] rfl ?_;refine Stp ?_;refine Xx (Zuw M _) ?_;rintro _ M1 _ az ⟨ag,T,rfl,rfl⟩;obtain rfl:=ag.symm;simp only[B4];rw[B6];refine XN rfl rfl F.bld176 (.cons rfl jG .nil) rfl rfl ?_;refine Stp ?_;intro b3;refine S2 ?_;refine Xj ?_;refine S2 ?_;refine Yq (l:=[0,1,2,3,4]) [1] rfl ?_;refine Stp ?_;refine Xx (Sc _ T (C.toNat) (WB ⟨d,g⟩++(bS0 ⟨C,⟨d,g⟩,L,j,D,O,⟨B,y⟩,K⟩)) jD jD 1 8 jD jD) ?_;rintro _ M9 _ Z ⟨R,rfl,rfl⟩;obtain rfl:=R.symm;simp only[B4];rw[B6];refine Stp ?_;refine Xs 14 rfl (show _=Value.int .i64 (C)from A9 _ jD) ?_;refine S3 ?_;refine Xj ?_;refine S2 ?_;refine Yq (l:=[0,1,2,3,4,5,6]) [1] rfl ?_;refine Stp ?_;refine Xx (Kc _ T ⟨d,g⟩ (bS0 ⟨C,⟨d,g⟩,L,j,D,O,⟨B,y⟩,K⟩) g2 jD) ?_;rintro _ M9 _ Z ⟨R,rfl,rfl⟩;obtain rfl:=R.symm;simp only[B4];rw[B6];refine Vn (VD _) ?_;rintro _ rfl;refine Xs 18 rfl (show _=WX [.one (.int .i64 (-1)),ZU 0]from rfl) ?_;refine S5 ?_;refine Xj ?_;refine S5 ?_;refine Vn (HV _ _) ?_;rintro _ rfl;refine S13 ?_;refine Xs 29 rfl (show _=Value.bool (decide (Ue C))from A9 Value.bool (Up g1 (1,decide (Ue C)) jP)) ?_;refine S2 ?_;refine VG [29,5,4,3,2] ?_;refine RD (α:=Unit) (fun _=>[]) (fun _=>True) (fun _=>St M ((T,Yp [.one (.string (WJ (bS1 ⟨C,⟨d,g⟩,L,j,D,O,⟨B,y⟩,K⟩)))] 230)::(b3,Yp [.one (.pointer (some ⟨T,0,none⟩))] 176)::(b2,Yp [.one (.int .i64 0)] 25)::(b1,Yp (ZI.segs ⟨C,⟨d,g⟩,L,0,⟨none,0,[]⟩,false,⟨-1,0⟩,⟨none,0,[]⟩⟩) 128)::H)) (.cons (k:=5) rfl (.cons (k:=4) rfl (.cons (k:=3) rfl (.cons (k:=2) rfl .nil)))) ?_ ?_
 ·skip
  refine Xb (cT fun b0=>?_) (cF fun b0=>?_)
  ·have e9:(bS0 ⟨C,⟨d,g⟩,L,j,D,O,⟨B,y⟩,K⟩)=SL L.toNat++(bS1 ⟨C,⟨d,g⟩,L,j,D,O,⟨B,y⟩,K⟩):=by unfold bS0 pt1;rw[A6 jE]
   have ai:=A9 List.length e9;rw[e9];refine Yq (l:=[0,1,2,3]) [1] rfl ?_;refine Stp ?_;refine Xx (Sc _ T (L.toNat) (bS1 ⟨C,⟨d,g⟩,L,j,D,O,⟨B,y⟩,K⟩) jD jD 0 18446744073709551615 jD jD) ?_;rintro _ M9 _ Z ⟨R,rfl,rfl⟩;obtain rfl:=R.symm;simp only[B4];rw[B6];refine Xs 31 rfl (show _=Value.int .u64 (L)from A9 _ jD) ?_;refine S3 ?_;refine Xj ?_;exact Ul (α:=Unit) (pre:=fun _=>[]) (F:=fun _=>True) (S2:=fun _=>St M ((T,Yp [.one (.string (WJ (bS1 ⟨C,⟨d,g⟩,L,j,D,O,⟨B,y⟩,K⟩)))] 230)::(b3,Yp [.one (.pointer (some ⟨T,0,none⟩))] 176)::(b2,Yp [.one (.int .i64 0)] 25)::(b1,Yp (ZI.segs ⟨C,⟨d,g⟩,L,0,⟨none,0,[]⟩,false,⟨-1,0⟩,⟨none,0,[]⟩⟩) 128)::H)) (()) (trivial) (.cons (k:=5) rfl (.cons (k:=4) rfl (.cons (k:=3) rfl (.cons (k:=2) rfl .nil)))) (fun w hw=>by(try simp only[ZI.segs,Sl.val,D5]at hw ⊢);first|exact hw|exact hw.c)
  refine Stp ?_;have hz:L=0:=g7.resolve_left jE;have aa:bS0 ⟨C,⟨d,g⟩,L,j,D,O,⟨B,y⟩,K⟩=bS1 ⟨C,⟨d,g⟩,L,j,D,O,⟨B,y⟩,K⟩:=by unfold bS0 pt1;rw[A4 jE];rfl
  exact Ul (α:=Unit) (pre:=fun _=>[]) (F:=fun _=>True) (S2:=fun _=>St M ((T,Yp [.one (.string (WJ (bS1 ⟨C,⟨d,g⟩,L,j,D,O,⟨B,y⟩,K⟩)))] 230)::(b3,Yp [.one (.pointer (some ⟨T,0,none⟩))] 176)::(b2,Yp [.one (.int .i64 0)] 25)::(b1,Yp (ZI.segs ⟨C,⟨d,g⟩,L,0,⟨none,0,[]⟩,false,⟨-1,0⟩,⟨none,0,[]⟩⟩) 128)::H)) (()) (trivial) (.cons (k:=5) rfl (.cons (k:=4) rfl (.cons (k:=3) rfl (.cons (k:=2) rfl .nil)))) (fun w hw=>by show St _ _ w;(try dsimp only);rw[← aa];rw[hz]at hw ⊢;(try simp only[ZI.segs,Sl.val,D5]at hw ⊢);first|exact hw|exact hw.c)
 rintro _ -;refine S6 ?_;refine Xs 35 rfl (show _=Value.bool (decide (C=1))from A9 Value.bool (Up g1 (2,decide (C=1)) jP)) ?_;refine S2 ?_;refine VG [35,5,4,3,2] ?_;refine RD (α:=Unit) (fun _=>[]) (fun _=>True) (fun _=>St M ((T,Yp [.one (.string (WJ (bS2 ⟨C,⟨d,g⟩,L,j,D,O,⟨B,y⟩,K⟩)))] 230)::(b3,Yp [.one (.pointer (some ⟨T,0,none⟩))] 176)::(b2,Yp [.one (.int .i64 0)] 25)::(b1,Yp (ZI.segs ⟨C,⟨d,g⟩,L,j,⟨none,0,[]⟩,false,⟨-1,0⟩,⟨none,0,[]⟩⟩) 128)::H)) (.cons (k:=5) rfl (.cons (k:=4) rfl (.cons (k:=3) rfl (.cons (k:=2) rfl .nil)))) ?_ ?_
 ·skip
  refine Xb (cT fun bw=>?_) (cF fun bw=>?_)
  ·have e9:(bS1 ⟨C,⟨d,g⟩,L,j,D,O,⟨B,y⟩,K⟩)=Nc j++(bS2 ⟨C,⟨d,g⟩,L,j,D,O,⟨B,y⟩,K⟩):=by unfold bS1 pt2;rw[A6 jE]
   have ai:=A9 List.length e9;rw[e9];refine Yq (l:=[0,1,2,3]) [1] rfl ?_;refine Stp ?_;refine Xx (Eu _ T j (bS2 ⟨C,⟨d,g⟩,L,j,D,O,⟨B,y⟩,K⟩) jD) ?_;rintro _ M9 _ Z ⟨R,rfl,rfl⟩;obtain rfl:=R.symm;simp only[B4];rw[B6];refine S3 ?_;refine Xj ?_;exact Ul (α:=Unit) (pre:=fun _=>[]) (F:=fun _=>True) (S2:=fun _=>St M ((T,Yp [.one (.string (WJ (bS2 ⟨C,⟨d,g⟩,L,j,D,O,⟨B,y⟩,K⟩)))] 230)::(b3,Yp [.one (.pointer (some ⟨T,0,none⟩))] 176)::(b2,Yp [.one (.int .i64 0)] 25)::(b1,Yp (ZI.segs ⟨C,⟨d,g⟩,L,j,⟨none,0,[]⟩,false,⟨-1,0⟩,⟨none,0,[]⟩⟩) 128)::H)) (()) (trivial) (.cons (k:=5) rfl (.cons (k:=4) rfl (.cons (k:=3) rfl (.cons (k:=2) rfl .nil)))) (fun w hw=>by(try simp only[ZI.segs,Sl.val,D5]at hw ⊢);first|exact hw|exact hw.c)
  refine Stp ?_;have hz:j=0:=g8.resolve_left jE;have aa:bS1 ⟨C,⟨d,g⟩,L,j,D,O,⟨B,y⟩,K⟩=bS2 ⟨C,⟨d,g⟩,L,j,D,O,⟨B,y⟩,K⟩:=by unfold bS1 pt2;rw[A4 jE];rfl
  exact Ul (α:=Unit) (pre:=fun _=>[]) (F:=fun _=>True) (S2:=fun _=>St M ((T,Yp [.one (.string (WJ (bS2 ⟨C,⟨d,g⟩,L,j,D,O,⟨B,y⟩,K⟩)))] 230)::(b3,Yp [.one (.pointer (some ⟨T,0,none⟩))] 176)::(b2,Yp [.one (.int .i64 0)] 25)::(b1,Yp (ZI.segs ⟨C,⟨d,g⟩,L,j,⟨none,0,[]⟩,false,⟨-1,0⟩,⟨none,0,[]⟩⟩) 128)::H)) (()) (trivial) (.cons (k:=5) rfl (.cons (k:=4) rfl (.cons (k:=3) rfl (.cons (k:=2) rfl .nil)))) (fun w hw=>by show St _ _ w;(try dsimp only);rw[← aa];rw[hz]at hw ⊢;(try simp only[ZI.segs,Sl.val,D5]at hw ⊢);first|exact hw|exact hw.c)
 rintro _ -;refine S6 ?_;refine Xs 41 rfl (show _=Value.bool (decide (C=1))from A9 Value.bool (Up g1 (4,decide (C=1)) jP)) ?_;refine S2 ?_;refine VG [41,5,4,3,2] ?_;refine RD (α:=Mem×Option Addr×Nat) (fun _=>[]) (fun x=>M.le x.1∧SlK x.1 (WC .i64) 1 ⟨x.2.1,x.2.2,D⟩) (fun x=>St x.1 ((T,Yp [.one (.string (WJ (bS3 ⟨C,⟨d,g⟩,L,j,D,O,⟨B,y⟩,K⟩)))] 230)::(b3,Yp [.one (.pointer (some ⟨T,0,none⟩))] 176)::(b2,Yp [.one (.int .i64 0)] 25)::(b1,Yp (ZI.segs ⟨C,⟨d,g⟩,L,j,⟨x.2.1,x.2.2,D⟩,false,⟨-1,0⟩,⟨none,0,[]⟩⟩) 128)::H)) (.cons (k:=5) rfl (.cons (k:=4) rfl (.cons (k:=3) rfl (.cons (k:=2) rfl .nil)))) ?_ ?_
 ·skip
  refine Xb (cT fun bz=>?_) (cF fun bz=>?_)
  ·refine Stp ?_;have e9:(bS2 ⟨C,⟨d,g⟩,L,j,D,O,⟨B,y⟩,K⟩)=SL D.length++(D.flatMap Sw++(bS3 ⟨C,⟨d,g⟩,L,j,D,O,⟨B,y⟩,K⟩)):=by unfold bS2 pt3 Ga;rw[A6 jE,B5]
   have ai:=A9 List.length e9;rw[e9];refine Yq (l:=[0,1,2]) [1] rfl ?_;refine Stp ?_;refine Xx (Sc _ T (D.length) (D.flatMap Sw++(bS3 ⟨C,⟨d,g⟩,L,j,D,O,⟨B,y⟩,K⟩)) jD jD 0 16 jD jD) ?_;rintro _ M9 _ Z ⟨R,rfl,rfl⟩;obtain rfl:=R.symm;simp only[B4];rw[B6];refine S2 ?_;refine Xj ?_;refine S2 ?_;refine VG [44,43,5,4,3,2] ?_;refine OZ (Hin:=[(T,Yp [.one (.string (WJ (D.flatMap Sw++(bS3 ⟨C,⟨d,g⟩,L,j,D,O,⟨B,y⟩,K⟩))))] 230)]) (Hin2:=[(b1,Yp [.one (.int .i64 C),.one (.int .i64 d),ZU g,.one (.int .u64 L),ZU j,.one (.slice none 0 0),.one (.bool false),.one (.int .i64 (-1)),ZU 0,.one (.slice none 0 0)] 128)]) (.succ .zero) jA jA (fun(k:Nat) M1 h1 z=>∃(v:Value) (ha:Hp),M1=M∧z=[(44,.int .u64 (k:Int))]∧k≤D.length∧h1=(T,Yp [.one (.string (WJ ((D.drop k).flatMap Sw++(bS3 ⟨C,⟨d,g⟩,L,j,D,O,⟨B,y⟩,K⟩))))] 230)::(b1,Yp [.one (.int .i64 C),.one (.int .i64 d),ZU g,.one (.int .u64 L),ZU j,.one (v),.one (.bool false),.one (.int .i64 (-1)),ZU 0,.one (.slice none 0 0)] 128)::ha∧OSl 3 1 v ha ((D.take k).map (WC .i64))) (fun k=>D.length-k) (0) (⟨_,[],rfl,rfl,by omega,rfl,OSl.nil⟩) ?_;rintro k M1 h1 z az ⟨v1,ha,ag,rfl,hk,rfl,ho⟩;obtain rfl:=ag.symm;obtain⟨ad,ae,rfl⟩:=ho.valL;have aj:(D.take k).length=k:=by rw[D8];omega
   have bq:((D.take k).map (WC .i64)).length=k:=by rw[A8,aj]
   simp only[B4];refine S6 ?_;refine Xb (cT fun bx=>?_) (cF fun bx=>?_)
   ·refine S4 ?_;have e8:(D.drop k).flatMap Sw++(bS3 ⟨C,⟨d,g⟩,L,j,D,O,⟨B,y⟩,K⟩)=SL D[k].toNat++((D.drop (k+1)).flatMap Sw++(bS3 ⟨C,⟨d,g⟩,L,j,D,O,⟨B,y⟩,K⟩)):=by rw[HZ jD];rfl
    have bc:=A9 List.length e8;rw[e8];have bh:=g13 _ (C1 (l:=D) (n:=k) jD);replace bh:0≤D[k]∧D[k]≤999:=bh;have bd:=Ol (f:=Sw) D k;refine Ya (l:=[0,1,2,3,4,5,6,7,8]) #[0,1,0,4,12,28,63,127,255] (St M ((b1,Yp [.one (.int .i64 C),.one (.int .i64 d),ZU g,.one (.int .u64 L),ZU j,.one (.slice ad (D.take k).length ae),.one (.bool false),.one (.int .i64 (-1)),ZU 0,.one (.slice none 0 0)] 128)::(b3,Yp [.one (.pointer (some ⟨T,0,none⟩))] 176)::ha++H)) rfl jI jI St.drawn (fun _ hw=>hw.c) ?_;refine S3 ?_;refine We (Sc _ T (D[k].toNat) ((D.drop (k+1)).flatMap Sw++(bS3 ⟨C,⟨d,g⟩,L,j,D,O,⟨B,y⟩,K⟩)) jD jZ 0 999 jD jD) ?_;rintro _ M9 _ Z ⟨R,rfl,rfl⟩;obtain rfl:=R.symm;simp only[B4];rw[B6];refine Stp ?_;refine Xs 50 rfl (show _=Value.int .i64 (D[k])from A9 _ jD) ?_;refine YK rfl rfl F.elem32 F.zero3 rfl rfl (.cons rfl jG .nil) rfl rfl jK rfl ?_;intro b8 bs;refine Vc (m:=1000000) rfl rfl rfl rfl rfl F.elem32 F.zero3 zH rfl jE jA (Src.own bs.lens jN rfl jB) jX jM rfl ?_;intro v12 bp ar;obtain⟨a1,ay,rfl⟩:=ar.valAt (n:=k+1) jX;refine S9 ?_;refine YO (a':=[(44,_)]) (k+1) ((T,Yp [.one (.string (WJ ((D.drop (k+1)).flatMap Sw++(bS3 ⟨C,⟨d,g⟩,L,j,D,O,⟨B,y⟩,K⟩))))] 230)::(b1,Yp [.one (.int .i64 C),.one (.int .i64 d),ZU g,.one (.int .u64 L),ZU j,.one (.slice a1 (k+1) ay),.one (.bool false),.one (.int .i64 (-1)),ZU 0,.one (.slice none 0 0)] 128)::bp) (.cons (k:=44) rfl (.cons (k:=43) rfl (.cons (k:=5) rfl (.cons (k:=4) rfl (.cons (k:=3) rfl (.cons (k:=2) rfl (.nil))))))) jO (fun w hw=>by first|exact hw|exact hw.c) ?_ ?_
    ·refine⟨_,_,rfl,rfl,by omega,rfl,?_⟩;refine OSl.as9 (OSl.aZ ar jX) ?_;rw[C9,A7 jD,C6];rfl
    omega
   refine S4 ?_;obtain rfl:k=D.length:=by omega
   rw[List.drop_length,List.flatMap_nil,B6];rw[G0]at ho ⊢;refine Yac ho jA (fun M2 ah ab=>?_);exact Ul (α:=Mem×Option Addr×Nat) (pre:=fun _=>[]) (F:=fun x=>M.le x.1∧SlK x.1 (WC .i64) 1 ⟨x.2.1,x.2.2,D⟩) (S2:=fun x=>St x.1 ((T,Yp [.one (.string (WJ (bS3 ⟨C,⟨d,g⟩,L,j,D,O,⟨B,y⟩,K⟩)))] 230)::(b3,Yp [.one (.pointer (some ⟨T,0,none⟩))] 176)::(b2,Yp [.one (.int .i64 0)] 25)::(b1,Yp (ZI.segs ⟨C,⟨d,g⟩,L,j,⟨x.2.1,x.2.2,D⟩,false,⟨-1,0⟩,⟨none,0,[]⟩⟩) 128)::H)) ((M2,ad,ae)) (⟨ah,ab⟩) (.cons (k:=5) rfl (.cons (k:=4) rfl (.cons (k:=3) rfl (.cons (k:=2) rfl .nil)))) (fun w hw=>by show St M2 _ w;(try dsimp only);(try simp only[ZI.segs,Sl.val,D5]at hw ⊢);first|exact hw|exact hw.c)
  refine Stp ?_;have hz:D=[]:=g9.resolve_left jE;have aa:bS2 ⟨C,⟨d,g⟩,L,j,D,O,⟨B,y⟩,K⟩=bS3 ⟨C,⟨d,g⟩,L,j,D,O,⟨B,y⟩,K⟩:=by unfold bS2 pt3;rw[A4 jE];rfl
  exact Ul (α:=Mem×Option Addr×Nat) (pre:=fun _=>[]) (F:=fun x=>M.le x.1∧SlK x.1 (WC .i64) 1 ⟨x.2.1,x.2.2,D⟩) (S2:=fun x=>St x.1 ((T,Yp [.one (.string (WJ (bS3 ⟨C,⟨d,g⟩,L,j,D,O,⟨B,y⟩,K⟩)))] 230)::(b3,Yp [.one (.pointer (some ⟨T,0,none⟩))] 176)::(b2,Yp [.one (.int .i64 0)] 25)::(b1,Yp (ZI.segs ⟨C,⟨d,g⟩,L,j,⟨x.2.1,x.2.2,D⟩,false,⟨-1,0⟩,⟨none,0,[]⟩⟩) 128)::H)) ((M,none,0)) (⟨Mem.le.refl M,by rw[hz];exact SlK.nil⟩) (.cons (k:=5) rfl (.cons (k:=4) rfl (.cons (k:=3) rfl (.cons (k:=2) rfl .nil)))) (fun w hw=>by show St _ _ w;(try dsimp only);rw[← aa];rw[hz]at hw ⊢;(try simp only[ZI.segs,Sl.val,D5]at hw ⊢);first|exact hw|exact hw.c)
 rintro⟨M2,U,V⟩ ⟨ah,ab⟩;dsimp only at ah ab ⊢;refine S6 ?_;refine Xs 57 rfl (show _=Value.bool (decide (C=2))from A9 Value.bool (Up g1 (8,decide (C=2)) jP)) ?_;refine S2 ?_;refine VG [57,5,4,3,2] ?_;refine RD (α:=Unit) (fun _=>[]) (fun _=>True) (fun _=>St M2 ((T,Yp [.one (.string (WJ (bS4 ⟨C,⟨d,g⟩,L,j,D,O,⟨B,y⟩,K⟩)))] 230)::(b3,Yp [.one (.pointer (some ⟨T,0,none⟩))] 176)::(b2,Yp [.one (.int .i64 0)] 25)::(b1,Yp (ZI.segs ⟨C,⟨d,g⟩,L,j,⟨U,V,D⟩,O,⟨-1,0⟩,⟨none,0,[]⟩⟩) 128)::H)) (.cons (k:=5) rfl (.cons (k:=4) rfl (.cons (k:=3) rfl (.cons (k:=2) rfl .nil)))) ?_ ?_
 ·skip
  refine Xb (cT fun bm=>?_) (cF fun bm=>?_)
  ·have e9:(bS3 ⟨C,⟨d,g⟩,L,j,D,O,⟨B,y⟩,K⟩)=SL (if O then 1 else 0)++(bS4 ⟨C,⟨d,g⟩,L,j,D,O,⟨B,y⟩,K⟩):=by unfold bS3 pt4 Qi;rw[A6 jE]
   have ai:=A9 List.length e9;rw[e9];refine Yq (l:=[0,1,2,3,4]) [1] rfl ?_;refine Stp ?_;refine Xx (Sc _ T ((if O then 1 else 0)) (bS4 ⟨C,⟨d,g⟩,L,j,D,O,⟨B,y⟩,K⟩) (by(split <;> omega)) jD 0 1 jD (by(split <;> omega))) ?_;rintro _ M9 _ Z ⟨R,rfl,rfl⟩;obtain rfl:=R.symm;simp only[B4];rw[B6];refine Stp ?_;refine Xs 60 rfl (show _=Value.bool O from A9 Value.bool (by cases O <;> rfl)) ?_;refine S3 ?_;refine Xj ?_;exact Ul (α:=Unit) (pre:=fun _=>[]) (F:=fun _=>True) (S2:=fun _=>St M2 ((T,Yp [.one (.string (WJ (bS4 ⟨C,⟨d,g⟩,L,j,D,O,⟨B,y⟩,K⟩)))] 230)::(b3,Yp [.one (.pointer (some ⟨T,0,none⟩))] 176)::(b2,Yp [.one (.int .i64 0)] 25)::(b1,Yp (ZI.segs ⟨C,⟨d,g⟩,L,j,⟨U,V,D⟩,O,⟨-1,0⟩,⟨none,0,[]⟩⟩) 128)::H)) (()) (trivial) (.cons (k:=5) rfl (.cons (k:=4) rfl (.cons (k:=3) rfl (.cons (k:=2) rfl .nil)))) (fun w hw=>by(try simp only[ZI.segs,Sl.val,D5]at hw ⊢);first|exact hw|exact hw.c)
  refine Stp ?_;have hz:O=false:=g10.resolve_left jE;have aa:bS3 ⟨C,⟨d,g⟩,L,j,D,O,⟨B,y⟩,K⟩=bS4 ⟨C,⟨d,g⟩,L,j,D,O,⟨B,y⟩,K⟩:=by unfold bS3 pt4;rw[A4 jE];rfl
  exact Ul (α:=Unit) (pre:=fun _=>[]) (F:=fun _=>True) (S2:=fun _=>St M2 ((T,Yp [.one (.string (WJ (bS4 ⟨C,⟨d,g⟩,L,j,D,O,⟨B,y⟩,K⟩)))] 230)::(b3,Yp [.one (.pointer (some ⟨T,0,none⟩))] 176)::(b2,Yp [.one (.int .i64 0)] 25)::(b1,Yp (ZI.segs ⟨C,⟨d,g⟩,L,j,⟨U,V,D⟩,O,⟨-1,0⟩,⟨none,0,[]⟩⟩) 128)::H)) (()) (trivial) (.cons (k:=5) rfl (.cons (k:=4) rfl (.cons (k:=3) rfl (.cons (k:=2) rfl .nil)))) (fun w hw=>by show St _ _ w;(try dsimp only);rw[← aa];rw[hz]at hw ⊢;(try simp only[ZI.segs,Sl.val,D5]at hw ⊢);first|exact hw|exact hw.c)
 rintro _ -;refine S13 ?_;refine VG [64,7,5,4,3,2] ?_;refine Zys (α:=Unit) (fun _=>[(7,.int .u64 (if C=2 then 1 else 0))]) (fun _=>True) (.cons (k:=5) rfl (.cons (k:=4) rfl (.cons (k:=3) rfl (.cons (k:=2) rfl .nil)))) ?_ ?_
 ·skip
  refine Xb (cT fun bl=>?_) (cF fun bl=>?_)
  ·refine S3 ?_;refine Yak 7 rfl (show _=Value.int .u64 (if C=2 then 1 else 0)from by first|rw[A6 jE]|rw[A4 jE]) ?_;exact Zrv (()) (trivial) (.cons (k:=7) rfl (.cons (k:=5) rfl (.cons (k:=4) rfl (.cons (k:=3) rfl (.cons (k:=2) rfl .nil))))) (fun w hw=>by first|exact hw|exact hw.c)
  refine Stp ?_;refine Yak 7 rfl (show _=Value.int .u64 (if C=2 then 1 else 0)from by first|rw[A6 jE]|rw[A4 jE]) ?_;exact Zrv (()) (trivial) (.cons (k:=7) rfl (.cons (k:=5) rfl (.cons (k:=4) rfl (.cons (k:=3) rfl (.cons (k:=2) rfl .nil))))) (fun w hw=>by first|exact hw|exact hw.c)
 rintro _ -;refine S2 ?_;refine Yq (l:=[0,1,2,3,4,5,6,7,8]) [6] rfl ?_;refine S3 ?_;refine Xs 67 rfl (show _=Value.bool (decide (Vm C))from A9 Value.bool (Up g1 (16,decide (Vm C)) jP)) ?_;refine Stp ?_;refine YE 68 (cT fun bo=>?_) (cF fun bo=>?_)
 ·refine S2 ?_;have b6:Vm C:=by first|assumption|(simp_all;done)
  have e9:(bS4 ⟨C,⟨d,g⟩,L,j,D,O,⟨B,y⟩,K⟩)=SL (if(⟨B,y⟩:Zr)≠Yj then 1 else 0)++((if(⟨B,y⟩:Zr)≠Yj then WB ⟨B,y⟩else[])++(bS5 ⟨C,⟨d,g⟩,L,j,D,O,⟨B,y⟩,K⟩)):=by unfold bS4 pt5 Qi;rw[A6 jE,B5];simp only[decide_eq_true_eq]
  have ai:=A9 List.length e9;rw[e9];refine Zut rfl rfl rfl F.ok110 rfl (Sc _ T (if(⟨B,y⟩:Zr)≠Yj then 1 else 0) ((if(⟨B,y⟩:Zr)≠Yj then WB ⟨B,y⟩else[])++(bS5 ⟨C,⟨d,g⟩,L,j,D,O,⟨B,y⟩,K⟩)) (by split <;> omega) jD _ 1 (by by_cases h2:C=2 <;> by_cases h3:(⟨B,y⟩:Zr)=Yj <;> simp_all) (by split <;> omega)) jA (XK rfl) ?_;rintro _ M9 _ Z ⟨R,rfl,rfl⟩;obtain rfl:=R.symm;simp only[B4];rw[B6];refine Stp ?_;refine Xs 72 rfl (show _=Value.bool (decide ((⟨B,y⟩:Zr)≠Yj))from A9 Value.bool (by split <;> simp_all)) ?_;refine S2 ?_;refine Xj ?_;refine Stp ?_;refine VG [73,5,4,3,2] ?_;refine RD (α:=Unit) (fun _=>[]) (fun _=>True) (fun _=>St M2 ((T,Yp [.one (.string (WJ (bS5 ⟨C,⟨d,g⟩,L,j,D,O,⟨B,y⟩,K⟩)))] 230)::(b3,Yp [.one (.pointer (some ⟨T,0,none⟩))] 176)::(b2,Yp [.one (.int .i64 0)] 25)::(b1,Yp (ZI.segs ⟨C,⟨d,g⟩,L,j,⟨U,V,D⟩,O,⟨B,y⟩,⟨none,0,[]⟩⟩) 128)::H)) (.cons (k:=5) rfl (.cons (k:=4) rfl (.cons (k:=3) rfl (.cons (k:=2) rfl .nil)))) ?_ ?_
  ·skip
   refine Xb (cT fun bk=>?_) (cF fun bk=>?_)
   ·rw[A6 jE];have b5:=OC (p:=⟨B,y⟩) (g5.resolve_left jE);refine Yq (l:=[0,1,2,3]) [1] rfl ?_;refine Stp ?_;refine Xx (Kc _ T ⟨B,y⟩ (bS5 ⟨C,⟨d,g⟩,L,j,D,O,⟨B,y⟩,K⟩) (g5.resolve_left jE) jZ) ?_;rintro _ M9 _ Z ⟨R,rfl,rfl⟩;obtain rfl:=R.symm;simp only[B4];rw[B6];refine S3 ?_;refine Xj ?_;exact Ul (α:=Unit) (pre:=fun _=>[]) (F:=fun _=>True) (S2:=fun _=>St M2 ((T,Yp [.one (.string (WJ (bS5 ⟨C,⟨d,g⟩,L,j,D,O,⟨B,y⟩,K⟩)))] 230)::(b3,Yp [.one (.pointer (some ⟨T,0,none⟩))] 176)::(b2,Yp [.one (.int .i64 0)] 25)::(b1,Yp (ZI.segs ⟨C,⟨d,g⟩,L,j,⟨U,V,D⟩,O,⟨B,y⟩,⟨none,0,[]⟩⟩) 128)::H)) (()) (trivial) (.cons (k:=5) rfl (.cons (k:=4) rfl (.cons (k:=3) rfl (.cons (k:=2) rfl .nil)))) (fun w hw=>by(try simp only[ZI.segs,Sl.val,D5]at hw ⊢);first|exact hw|exact hw.c)
   refine Stp ?_;have ak:(⟨B,y⟩:Zr)=Yj:=by first|exact Classical.not_not.1 jE|exact g11.resolve_left (by first|assumption|(simp_all;done))
   have hz:B=-1:=A9 Zr.addr ak;have hy:y=0:=A9 Zr.id ak;rw[A4 jE,B6];exact Ul (α:=Unit) (pre:=fun _=>[]) (F:=fun _=>True) (S2:=fun _=>St M2 ((T,Yp [.one (.string (WJ (bS5 ⟨C,⟨d,g⟩,L,j,D,O,⟨B,y⟩,K⟩)))] 230)::(b3,Yp [.one (.pointer (some ⟨T,0,none⟩))] 176)::(b2,Yp [.one (.int .i64 0)] 25)::(b1,Yp (ZI.segs ⟨C,⟨d,g⟩,L,j,⟨U,V,D⟩,O,⟨B,y⟩,⟨none,0,[]⟩⟩) 128)::H)) (()) (trivial) (.cons (k:=5) rfl (.cons (k:=4) rfl (.cons (k:=3) rfl (.cons (k:=2) rfl .nil)))) (fun w hw=>by show St _ _ w;rw[hz,hy]at hw ⊢;(try simp only[ZI.segs,Sl.val,D5]at hw ⊢);first|exact hw|exact hw.c)
  rintro _ -;refine S6 ?_;refine Xs 79 rfl (show _=Value.bool (decide (Wn C))from A9 Value.bool (Up g1 (32,decide (Wn C)) jP)) ?_;refine S2 ?_;refine Xb (cT fun br=>?_) (cF fun br=>?_)
  ·refine Stp ?_;have e9:(bS5 ⟨C,⟨d,g⟩,L,j,D,O,⟨B,y⟩,K⟩)=SL K.length++(K.flatMap WB++[]):=by unfold bS5 pt6 Ga;rw[A6 jE,B5]
   have ai:=A9 List.length e9;rw[e9];refine Yq (l:=[0,1,2]) [1] rfl ?_;refine Stp ?_;refine Xx (Sc _ T (K.length) (K.flatMap WB++[]) jD jD 0 8 jD jD) ?_;rintro _ M9 _ Z ⟨R,rfl,rfl⟩;obtain rfl:=R.symm;simp only[B4];rw[B6];refine S2 ?_;refine Xj ?_;refine S2 ?_;refine VG [82,81,4,3,2] ?_;refine OZ (Hin:=[(T,Yp [.one (.string (WJ (K.flatMap WB++[])))] 230)]) (Hin2:=[(b1,Yp [.one (.int .i64 C),.one (.int .i64 d),ZU g,.one (.int .u64 L),ZU j,.one (.slice U D.length V),.one (.bool O),.one (.int .i64 B),ZU y,.one (.slice none 0 0)] 128)]) (.succ .zero) jA jA (fun(k:Nat) M1 h1 z=>∃(v:Value) (ha:Hp),M1=M2∧z=[(82,.int .u64 (k:Int))]∧k≤K.length∧h1=(T,Yp [.one (.string (WJ ((K.drop k).flatMap WB++[])))] 230)::(b1,Yp [.one (.int .i64 C),.one (.int .i64 d),ZU g,.one (.int .u64 L),ZU j,.one (.slice U D.length V),.one (.bool O),.one (.int .i64 B),ZU y,.one (v)] 128)::ha∧OSl 38 21 v ha ((K.take k).map Zr.segs)) (fun k=>K.length-k) (0) (⟨_,[],rfl,rfl,by omega,rfl,OSl.nil⟩) ?_;rintro k M1 h1 z az ⟨v1,ha,ag,rfl,hk,rfl,ho⟩;obtain rfl:=ag.symm;obtain⟨ad,ae,rfl⟩:=ho.valL;have aj:(K.take k).length=k:=by rw[D8];omega
   have bq:((K.take k).map Zr.segs).length=k:=by rw[A8,aj]
   simp only[B4];refine S6 ?_;refine Xb (cT fun bt=>?_) (cF fun bt=>?_)
   ·refine S4 ?_;have e8:(K.drop k).flatMap WB++[]=WB K[k]++((K.drop (k+1)).flatMap WB++[]):=by exact HZ jD _
    have bc:=A9 List.length e8;rw[e8];have bd:=Ol (f:=WB) K k;refine Ya (l:=[0,1,2,3,4,5,6,7]) #[0,1,0,4,12,31,63,127] (St M2 ((b1,Yp [.one (.int .i64 C),.one (.int .i64 d),ZU g,.one (.int .u64 L),ZU j,.one (.slice U D.length V),.one (.bool O),.one (.int .i64 B),ZU y,.one (.slice ad (K.take k).length ae)] 128)::(b3,Yp [.one (.pointer (some ⟨T,0,none⟩))] 176)::ha++H)) rfl jI jI St.drawn (fun _ hw=>hw.c) ?_;refine S3 ?_;refine We (Kc _ T K[k] ((K.drop (k+1)).flatMap WB++[]) (g14 _ (C1 _)) jZ) ?_;rintro _ M9 _ Z ⟨R,rfl,rfl⟩;obtain rfl:=R.symm;simp only[B4];rw[B6];refine YK rfl rfl F.elem39 F.zero38 rfl rfl (.cons rfl jG .nil) rfl rfl jK rfl ?_;intro b7 bb;refine Vc (m:=1000000) rfl rfl rfl rfl rfl F.elem39 F.zero38 zI rfl jE jA (Src.own bb.lens jN rfl jB) jX jM rfl ?_;intro v23 bn al;obtain⟨a6,ax,rfl⟩:=al.valAt (n:=k+1) jX;refine S9 ?_;refine YO (a':=[(82,_)]) (k+1) ((T,Yp [.one (.string (WJ ((K.drop (k+1)).flatMap WB++[])))] 230)::(b1,Yp [.one (.int .i64 C),.one (.int .i64 d),ZU g,.one (.int .u64 L),ZU j,.one (.slice U D.length V),.one (.bool O),.one (.int .i64 B),ZU y,.one (.slice a6 (k+1) ax)] 128)::bn) (.cons (k:=82) rfl (.cons (k:=81) rfl (.cons (k:=4) rfl (.cons (k:=3) rfl (.cons (k:=2) rfl (.nil)))))) jO (fun w hw=>by first|exact hw|exact hw.c) ?_ ?_
    ·refine⟨_,_,rfl,rfl,by omega,rfl,?_⟩;refine OSl.as9 (OSl.aZ al jX) ?_;rw[C9,A7 jD,C6];rfl
    omega
   refine S7 ?_;obtain rfl:k=K.length:=by omega
   rw[List.drop_length,List.flatMap_nil,B6];rw[G0]at ho ⊢;refine Yq (l:=[0,1,2,3]) [2] rfl ?_;refine S2 ?_;refine Xx (GV _ T []) ?_;rintro _ M9 _ Z ⟨R,rfl,rfl⟩;obtain rfl:=R.symm;simp only[B4];rw[B6];refine S2 ?_;refine Xj ?_;refine Stp ?_;refine Xb (cT fun aq=>?_) (cF fun aq=>?_)
   ·(exfalso;simp at aq;done)
   refine S5 ?_;refine UE rfl rfl rfl rfl jG jL jH F.lay128 jC (Sm (m:=67) rfl jC jC) ?_;refine S4 ?_;refine Zam (us:=[.pointer (some ⟨b1,0,none⟩),.pointer (some ⟨b2,0,none⟩)]) (.inr rfl) (.cell rfl jB F.lay128 rfl rfl (.cell rfl jB F.lay25 rfl rfl .nil)) F.ok108 (Gm _ _ _ _) (fun w hw=>?_);obtain⟨M3,j1,j2,j3⟩:=ho.frz (H:=H) (hw.c);exact⟨_,M3,rfl,ah.trans j1,j2,⟨C,⟨d,g⟩,L,j,⟨U,V,D⟩,O,⟨B,y⟩,⟨ad,ae,K⟩⟩,rfl,⟨ab.mono j1,j3⟩,rfl⟩
  refine S4 ?_;have hz:K=[]:=g12.resolve_left jE;have aa:(bS5 ⟨C,⟨d,g⟩,L,j,D,O,⟨B,y⟩,K⟩)=[]:=by unfold bS5 pt6;rw[A4 jE];rfl
  rw[aa];refine Yq (l:=[0,1,2,3]) [2] rfl ?_;refine S2 ?_;refine Xx (GV _ T []) ?_;rintro _ M9 _ Z ⟨R,rfl,rfl⟩;obtain rfl:=R.symm;simp only[B4];rw[B6];refine S2 ?_;refine Xj ?_;refine Stp ?_;refine Xb (cT fun an=>?_) (cF fun an=>?_)
  ·(exfalso;simp at an;done)
  refine S5 ?_;refine UE rfl rfl rfl rfl jG jL jH F.lay128 jC (Sm (m:=67) rfl jC jC) ?_;refine S4 ?_;refine Zam (us:=[.pointer (some ⟨b1,0,none⟩),.pointer (some ⟨b2,0,none⟩)]) (.inr rfl) (.cell rfl jB F.lay128 rfl rfl (.cell rfl jB F.lay25 rfl rfl .nil)) F.ok108 (Gm _ _ _ _) (fun w hw=>?_);refine⟨_,M2,rfl,ah,hw.c,⟨C,⟨d,g⟩,L,j,⟨U,V,D⟩,O,⟨B,y⟩,⟨none,0,[]⟩⟩,?_,⟨ab,SlK.nil⟩,?_⟩
  ·rfl
  show Lt.mk _ _ _ _ _ _ _ _=_;rw[hz]
 refine S6 ?_;refine Xj ?_;refine Stp ?_;refine VG [73,5,4,3,2] ?_;refine RD (α:=Unit) (fun _=>[]) (fun _=>True) (fun _=>St M2 ((T,Yp [.one (.string (WJ (bS5 ⟨C,⟨d,g⟩,L,j,D,O,⟨B,y⟩,K⟩)))] 230)::(b3,Yp [.one (.pointer (some ⟨T,0,none⟩))] 176)::(b2,Yp [.one (.int .i64 0)] 25)::(b1,Yp (ZI.segs ⟨C,⟨d,g⟩,L,j,⟨U,V,D⟩,O,⟨B,y⟩,⟨none,0,[]⟩⟩) 128)::H)) (.cons (k:=5) rfl (.cons (k:=4) rfl (.cons (k:=3) rfl (.cons (k:=2) rfl .nil)))) ?_ ?_
 ·skip
  refine S2 ?_;have ak:(⟨B,y⟩:Zr)=Yj:=by first|exact Classical.not_not.1 jE|exact g11.resolve_left jE
  have hz:B=-1:=A9 Zr.addr ak;have hy:y=0:=A9 Zr.id ak;have aa:bS4 ⟨C,⟨d,g⟩,L,j,D,O,⟨B,y⟩,K⟩=bS5 ⟨C,⟨d,g⟩,L,j,D,O,⟨B,y⟩,K⟩:=by unfold bS4 pt5;rw[A4 jE];rfl
  exact Ul (α:=Unit) (pre:=fun _=>[]) (F:=fun _=>True) (S2:=fun _=>St M2 ((T,Yp [.one (.string (WJ (bS5 ⟨C,⟨d,g⟩,L,j,D,O,⟨B,y⟩,K⟩)))] 230)::(b3,Yp [.one (.pointer (some ⟨T,0,none⟩))] 176)::(b2,Yp [.one (.int .i64 0)] 25)::(b1,Yp (ZI.segs ⟨C,⟨d,g⟩,L,j,⟨U,V,D⟩,O,⟨B,y⟩,⟨none,0,[]⟩⟩) 128)::H)) (()) (trivial) (.cons (k:=5) rfl (.cons (k:=4) rfl (.cons (k:=3) rfl (.cons (k:=2) rfl .nil)))) (fun w hw=>by show St _ _ w;(try dsimp only);rw[← aa];rw[hz,hy]at hw ⊢;(try simp only[ZI.segs,Sl.val,D5]at hw ⊢);first|exact hw|exact hw.c)
 rintro _ -;refine S6 ?_;refine Xs 79 rfl (show _=Value.bool (decide (Wn C))from A9 Value.bool (Up g1 (32,decide (Wn C)) jP)) ?_;refine S2 ?_;refine Xb (cT fun bu=>?_) (cF fun bu=>?_)
 ·refine Stp ?_;have e9:(bS5 ⟨C,⟨d,g⟩,L,j,D,O,⟨B,y⟩,K⟩)=SL K.length++(K.flatMap WB++[]):=by unfold bS5 pt6 Ga;rw[A6 jE,B5]
  have ai:=A9 List.length e9;rw[e9];refine Yq (l:=[0,1,2]) [1] rfl ?_;refine Stp ?_;refine Xx (Sc _ T (K.length) (K.flatMap WB++[]) jD jD 0 8 jD jD) ?_;rintro _ M9 _ Z ⟨R,rfl,rfl⟩;obtain rfl:=R.symm;simp only[B4];rw[B6];refine S2 ?_;refine Xj ?_;refine S2 ?_;refine VG [82,81,4,3,2] ?_;refine OZ (Hin:=[(T,Yp [.one (.string (WJ (K.flatMap WB++[])))] 230)]) (Hin2:=[(b1,Yp [.one (.int .i64 C),.one (.int .i64 d),ZU g,.one (.int .u64 L),ZU j,.one (.slice U D.length V),.one (.bool O),.one (.int .i64 B),ZU y,.one (.slice none 0 0)] 128)]) (.succ .zero) jA jA (fun(k:Nat) M1 h1 z=>∃(v:Value) (ha:Hp),M1=M2∧z=[(82,.int .u64 (k:Int))]∧k≤K.length∧h1=(T,Yp [.one (.string (WJ ((K.drop k).flatMap WB++[])))] 230)::(b1,Yp [.one (.int .i64 C),.one (.int .i64 d),ZU g,.one (.int .u64 L),ZU j,.one (.slice U D.length V),.one (.bool O),.one (.int .i64 B),ZU y,.one (v)] 128)::ha∧OSl 38 21 v ha ((K.take k).map Zr.segs)) (fun k=>K.length-k) (0) (⟨_,[],rfl,rfl,by omega,rfl,OSl.nil⟩) ?_;rintro k M1 h1 z az ⟨v1,ha,ag,rfl,hk,rfl,ho⟩;obtain rfl:=ag.symm;obtain⟨ad,ae,rfl⟩:=ho.valL;have aj:(K.take k).length=k:=by rw[D8];omega
  have bq:((K.take k).map Zr.segs).length=k:=by rw[A8,aj]
  simp only[B4];refine S6 ?_;refine Xb (cT fun bf=>?_) (cF fun bf=>?_)
  ·refine S4 ?_;have e8:(K.drop k).flatMap WB++[]=WB K[k]++((K.drop (k+1)).flatMap WB++[]):=by exact HZ jD _
   have bc:=A9 List.length e8;rw[e8];have bd:=Ol (f:=WB) K k;refine Ya (l:=[0,1,2,3,4,5,6,7]) #[0,1,0,4,12,31,63,127] (St M2 ((b1,Yp [.one (.int .i64 C),.one (.int .i64 d),ZU g,.one (.int .u64 L),ZU j,.one (.slice U D.length V),.one (.bool O),.one (.int .i64 B),ZU y,.one (.slice ad (K.take k).length ae)] 128)::(b3,Yp [.one (.pointer (some ⟨T,0,none⟩))] 176)::ha++H)) rfl jI jI St.drawn (fun _ hw=>hw.c) ?_;refine S3 ?_;refine We (Kc _ T K[k] ((K.drop (k+1)).flatMap WB++[]) (g14 _ (C1 _)) jZ) ?_;rintro _ M9 _ Z ⟨R,rfl,rfl⟩;obtain rfl:=R.symm;simp only[B4];rw[B6];refine YK rfl rfl F.elem39 F.zero38 rfl rfl (.cons rfl jG .nil) rfl rfl jK rfl ?_;intro cc a7;refine Vc (m:=1000000) rfl rfl rfl rfl rfl F.elem39 F.zero38 zI rfl jE jA (Src.own a7.lens jN rfl jB) jX jM rfl ?_;intro v32 bg ao;obtain⟨ba,a8,rfl⟩:=ao.valAt (n:=k+1) jX;refine S9 ?_;refine YO (a':=[(82,_)]) (k+1) ((T,Yp [.one (.string (WJ ((K.drop (k+1)).flatMap WB++[])))] 230)::(b1,Yp [.one (.int .i64 C),.one (.int .i64 d),ZU g,.one (.int .u64 L),ZU j,.one (.slice U D.length V),.one (.bool O),.one (.int .i64 B),ZU y,.one (.slice ba (k+1) a8)] 128)::bg) (.cons (k:=82) rfl (.cons (k:=81) rfl (.cons (k:=4) rfl (.cons (k:=3) rfl (.cons (k:=2) rfl (.nil)))))) jO (fun w hw=>by first|exact hw|exact hw.c) ?_ ?_
   ·refine⟨_,_,rfl,rfl,by omega,rfl,?_⟩;refine OSl.as9 (OSl.aZ ao jX) ?_;rw[C9,A7 jD,C6];rfl
   omega
  refine S7 ?_;obtain rfl:k=K.length:=by omega
  rw[List.drop_length,List.flatMap_nil,B6];rw[G0]at ho ⊢;refine Yq (l:=[0,1,2,3]) [2] rfl ?_;refine S2 ?_;refine Xx (GV _ T []) ?_;rintro _ M9 _ Z ⟨R,rfl,rfl⟩;obtain rfl:=R.symm;simp only[B4];rw[B6];refine S2 ?_;refine Xj ?_;refine Stp ?_;refine Xb (cT fun aw=>?_) (cF fun aw=>?_)
  ·(exfalso;simp at aw;done)
  refine S5 ?_;refine UE rfl rfl rfl rfl jG jL jH F.lay128 jC (Sm (m:=67) rfl jC jC) ?_;refine S4 ?_;refine Zam (us:=[.pointer (some ⟨b1,0,none⟩),.pointer (some ⟨b2,0,none⟩)]) (.inr rfl) (.cell rfl jB F.lay128 rfl rfl (.cell rfl jB F.lay25 rfl rfl .nil)) F.ok108 (Gm _ _ _ _) (fun w hw=>?_);obtain⟨M3,j1,j2,j3⟩:=ho.frz (H:=H) (hw.c);exact⟨_,M3,rfl,ah.trans j1,j2,⟨C,⟨d,g⟩,L,j,⟨U,V,D⟩,O,⟨B,y⟩,⟨ad,ae,K⟩⟩,rfl,⟨ab.mono j1,j3⟩,rfl⟩
 refine S4 ?_;have hz:K=[]:=g12.resolve_left jE;have aa:(bS5 ⟨C,⟨d,g⟩,L,j,D,O,⟨B,y⟩,K⟩)=[]:=by unfold bS5 pt6;rw[A4 jE];rfl
 rw[aa];refine Yq (l:=[0,1,2,3]) [2] rfl ?_;refine S2 ?_;refine Xx (GV _ T []) ?_;rintro _ M9 _ Z ⟨R,rfl,rfl⟩;obtain rfl:=R.symm;simp only[B4];rw[B6];refine S2 ?_;refine Xj ?_;refine Stp ?_;refine Xb (cT fun au=>?_) (cF fun au=>?_)
 ·(exfalso;simp at au;done)
 refine S5 ?_;refine UE rfl rfl rfl rfl jG jL jH F.lay128 jC (Sm (m:=67) rfl jC jC) ?_;refine S4 ?_;refine Zam (us:=[.pointer (some ⟨b1,0,none⟩),.pointer (some ⟨b2,0,none⟩)]) (.inr rfl) (.cell rfl jB F.lay128 rfl rfl (.cell rfl jB F.lay25 rfl rfl .nil)) F.ok108 (Gm _ _ _ _) (fun w hw=>?_);refine⟨_,M2,rfl,ah,hw.c,⟨C,⟨d,g⟩,L,j,⟨U,V,D⟩,O,⟨B,y⟩,⟨none,0,[]⟩⟩,?_,⟨ab,SlK.nil⟩,?_⟩
 ·rfl
 show Lt.mk _ _ _ _ _ _ _ _=_;rw[hz]
end Go.Proofs.YtglnjnacodgmaaaGreatDoor
namespace Go.Esp
theorem Zic(l:IM)(k d:Int)(v:Value):Xw (PM l k v) d=if d=k then(Xw l k).map (fun _=>v)else Xw l d:=by
 induction l with
 | nil=>simp[PM,Xw]
 | cons p l ih =>
  obtain⟨j,u⟩:=p;unfold PM;by_cases e:k=j
  ·subst e;by_cases h:d=k
   ·subst h;simp[Xw]
   simp[Xw,h]
  by_cases h:d=j
  ·subst h;simp[Xw,e,Ne.symm e]
  simp only[e,if_false,Xw,h];exact ih
theorem Zie(l:IM)(k d:Int)(v:Value):Xw (l++[(k,v)]) d=match Xw l d with|some u=>some u|none=>if d=k then some v else none:=by
 induction l with
 | nil=>simp[Xw]
 | cons p l ih =>
  obtain⟨j,u⟩:=p;by_cases h:d=j
  ·subst h;simp[Xw]
  simp[Xw,h,ih]
theorem Zid(l:IM)(k d:Int)(v:Value):Xw (VS l k v) d=if d=k then some v else Xw l d:=by
 unfold VS;split
 ·rename_i u hu;rw[Zic,hu];rfl
 rename_i hu;rw[Zie];grind
theorem Dj(l:IM)(k d:Int)(h:d≠k):Xw (Pb l k) d=Xw l d:=by
 induction l with
 | nil=>rfl
 | cons p l ih =>
  obtain⟨j,u⟩:=p;unfold Pb;by_cases e:k=j
  ·subst e;simp[Xw,h]
  simp only[e,if_false,Xw];by_cases h2:d=j
  ·simp[h2]
  simp[ih]
structure Inner (ids:List Int) (im:IM) (l:List YQ) (next:Int):Prop where
  len:ids.length=l.length
  get:∀(i:Nat) (x:Int) (m:YQ),ids[i]?=some x→l[i]?=some m→Xw im x=some m.enc
  nodup:ids.Nodup
  lt:∀ x∈ids,x<next
theorem Inner.put{ids:List Int}{d:IM}{l:List YQ}{next:Int}(h:Inner ids d l next)(m:YQ):Inner (ids++[next]) (VS d next m.enc) (l++[m]) (next+1):=by
 refine⟨by simp[h.len],fun i x g hx hm=>?_,?_,fun x hx=>?_⟩
 ·rw[Zid];rcases C7 i ids.length with hi|hi
  ·rw[F5 hi]at hx;rw[F5 (by rw[← h.len];exact hi)]at hm;have:=h.lt x (H8 hx);rw[A4 jD];exact h.get i x g hx hm
  rw[G2 hi]at hx;rw[G2 (by rw[← h.len];exact hi)]at hm;grind
 ·rw[H3];refine⟨h.nodup,by simp,fun x hx y j=>?_⟩;simp only[B0]at j;have:=h.lt x hx;omega
 rcases B8.1 hx with hx|hx
 ·have:=h.lt x hx;omega
 grind
theorem Inner.del{ids:List Int}{D:IM}{l:List YQ}{next:Int}(h:Inner ids D l next){i:Nat}{x:Int}(hx:ids[i]?=some x):Inner (ids.eraseIdx i) (Pb D x) (l.eraseIdx i) next:=by
 have hi:=(C4.1 hx).1;refine⟨by simp[List.length_eraseIdx,h.len],fun j y m d hm=>?_,h.nodup.eraseIdx i,fun y d=>h.lt y (List.mem_of_mem_eraseIdx d)⟩;rw[List.getElem?_eraseIdx]at d hm;have key:∀ v,ids[v]?=some y→v≠i→y≠x:=by
  intro v C hne e;subst e;have h1:=(C4.1 C).1;have h2:=(C4.1 C).2;have h3:=(C4.1 hx).2;have F:=E1.1 h.nodup;rcases Nat.lt_trichotomy v i with B|B|B
  ·exact F v i h1 hi B (h2.trans h3.symm)
  ·exact hne B
  exact F i v hi h1 B (h3.trans h2.symm)
 split at d
 ·rename_i g;rw[A6 g]at hm;rw[Dj _ _ _ (key j d jD)];exact h.get j y m d hm
 rename_i g;rw[A4 g]at hm;rw[Dj _ _ _ (key (j+1) d jD)];exact h.get (j+1) y m d hm
theorem Inner.nil:Inner [] [] [] 0:=⟨rfl,fun i x m h=>(by simp at h),J1,fun x h=>(by cases h)⟩
def BagIs(b:Nat)(most:Int)(N:Int)(l:List YQ)(Hb:Hp):Prop :=
 ∃(next:Int) (mb:Nat) (rv:Value) (o:Obj) (hs:Hp) (ids:List Int) (im:IM),
  Hb=(b,Yp [.one (.int .i64 most),.one (.int .i64 next),.one rv,.one (.map (some mb))] 116)::(mb,o)::hs ∧
  OSl 3 1 rv hs (ids.map (WC .i64))∧imO o im∧Inner ids im l next∧0≤next∧next≤N∧(l.length:Int)≤most∧most≤1000
theorem BagIs.mono{b:Nat}{most N N':Int}{l:List YQ}{Hb:Hp}(h:BagIs b most N l Hb)(B:N≤N'):BagIs b most N' l Hb:=by
 obtain⟨next,mb,g,o,hs,ids,d,h1,h2,h3,v,j,C,y⟩:=h;exact⟨next,mb,g,o,hs,ids,d,h1,h2,h3,v,j,by omega,y⟩
def Ak(m:YQ)(most:Int)(l:List YQ):Int:=if m.body.size > 4096 then 2 else if most≤l.length then 12 else 0
def Zge(m:YQ)(most:Int)(l:List YQ):List YQ:=if Ak m most l=0 then l++[m]else l
def atM(i:Int)(l:List YQ):YQ:=if i<0 then .zero else(l[i.toNat]?).getD .zero
def atC(i:Int)(l:List YQ):Int:=if i<0∨(l.length:Int)≤i then 7 else 0
def Zwb(i:Int)(l:List YQ):List YQ:=if i<0 then l else l.eraseIdx i.toNat
def Eg(i:Int)(most:Int)(l:List YQ):Int:=if atC i l=0 then Ak (atM i l) most l else atC i l
def Ef(i:Int)(most:Int)(l:List YQ):List YQ:=if atC i l=0 then Zge (atM i l) most l else l
theorem Zsn(m:YQ)(most:Int)(l:List YQ)(h:(4096:Int)<m.body.size):Ak m most l=2∧Zge m most l=l:=by
 have:Ak m most l=2:=by unfold Ak;rw[A6 jD]
 exact⟨this,by unfold Zge;rw[this];rfl⟩
theorem Ai(m:YQ)(most:Int)(l:List YQ)(h:¬(4096:Int)<m.body.size)(h2:most≤l.length):Ak m most l=12∧Zge m most l=l:=by
 have:Ak m most l=12:=by unfold Ak;rw[A4 jD,A6 h2]
 exact⟨this,by unfold Zge;rw[this];rfl⟩
theorem Zqw(m:YQ)(most:Int)(l:List YQ)(h:¬(4096:Int)<m.body.size)(h2:¬most≤l.length):Ak m most l=0∧Zge m most l=l++[m]:=by
 have:Ak m most l=0:=by unfold Ak;rw[A4 jD,A4 h2]
 exact⟨this,by unfold Zge;rw[this];rfl⟩
theorem Bz(i:Int)(l:List YQ)(h:i<0∨(l.length:Int)≤i):atM i l=.zero∧atC i l=7:=by
 unfold atM atC;grind
theorem Zxo(i:Int)(l:List YQ)(h0:¬i<0)(h:i.toNat<l.length):atM i l=l[i.toNat]∧atC i l=0:=by
 unfold atM atC;grind
theorem Inner.at{ids:List Int}{d:IM}{l:List YQ}{next:Int}(h:Inner ids d l next)(z:Value)(k:Nat)(hk:k<ids.length):(Xw d ids[k]).getD z=WX (l[k]'(by rw[← h.len];exact hk)).segs:=by
 have:=h.get k ids[k] (l[k]'(by rw[← h.len];exact hk)) (A7 hk) (A7 _);rw[this];rfl
theorem Zbv(ids:List Int):∀ u∈ZV (ids.map (WC .i64)),u.oneCell'=true:=by
 intro u hu
 induction ids with
 | nil=>cases hu
 | cons x ids ih =>
  simp only[D3,ZV,WC,Segs.cells,Seg.cells,B4,B7]at hu;rcases hu with rfl|hu
  ·rfl
  exact ih hu
theorem Ko{i:Int}{l:List YQ}:atC i l=0↔0≤i∧i<l.length:=by
 unfold atC;simp
theorem KC{i:Int}{l:List YQ}(h:¬atC i l=0):Zwb i l=l:=by
 rw[Ko]at h;unfold Zwb;simp_all
theorem Cr(k:Nat)(l:List YQ):Zwb (k:Int) l=l.eraseIdx k:=by
 rfl
theorem PE{α β:Type}(f:α→β):∀(l:List α) (k:Nat),(l.map f).eraseIdx k=(l.eraseIdx k).map f
 | [],k=>by simp
 | x::l,0=>by simp
 | x::l,k+1=>by simp[PE f l k]
theorem BagIs.intro{b:Nat}{most N:Int}{l:List YQ}{next:Int}{mb:Nat}{g:Value}{o:Obj}{hs:Hp}{ids:List Int}{d:IM}
 (h1:OSl 3 1 g hs (ids.map (WC .i64))) (h2:imO o d) (h3:Inner ids d l next) (j:0≤next) (v:next≤N) (B:(l.length:Int)≤most) (y:most≤1000) :
 BagIs b most N l ((b,Yp [.one (.int .i64 most),.one (.int .i64 next),.one g,.one (.map (some mb))] 116)::(mb,o)::hs) :=
 ⟨next,mb,g,o,hs,ids,d,rfl,h1,h2,h3,j,v,B,y⟩
theorem Zrm(k:Nat)(l:List YQ)(h:k<l.length):atM (k:Int) l=l[k]∧atC (k:Int) l=0:=by
 have:=Zxo (k:Int) l jD zL;grind
end Go.Esp
namespace Go.Proofs.YtglnjnacodgmaaaGreatDoor.B
open Go.Esp
theorem F.bld116:Bld Tryz.prog 116 [[.one (.int .i64 0)],[.one (.int .i64 0)],[.one (.slice none 0 0)],[.one (.map none)]]:=⟨by kernel_rfl,by kernel_rfl⟩
theorem F.map114:RI Tryz.prog 114=some (3,82):=by kernel_rfl
theorem New_ok(M:Mem)(most:Int)(h:1≤most∧most≤1000):Fh Tryz.prog 27 [.int .i64 most] M [] (fun M' v Hb=>M'=M∧∃ b,v=.tuple #[.pointer (some ⟨b,0,none⟩),.int .i64 0]∧BagIs b most 0 [] Hb):=by
 refine Uu Tryz.func27 rfl Tryz.ntmps27 rfl ?_;intro H;refine S12 ?_;refine YE 6 (cT fun g=>?_) (cF fun g=>?_)
 ·(exfalso;omega)
 refine S5 ?_;refine Xb (cT fun d=>?_) (cF fun d=>?_)
 ·(exfalso;omega)
 refine S6 ?_;intro j;refine XN rfl rfl F.bld116 (.cons rfl jG (.cons rfl jG .nil)) rfl rfl ?_;refine Stp ?_;intro y;refine S5 ?_;refine ZH fun w hw=>?_;refine⟨_,M,_,rfl,Mem.le.refl M,hw.cnt (H':=_++H) ?_,rfl,_,rfl,0,j,_,.map #[] 0,[],[],[],rfl,OSl.nil,⟨#[],_,rfl,rfl⟩,Inner.nil,by omega,by omega,by simp;omega,by omega⟩;intro x;simp only[WG,Wo,WW,cat,B4,B6];omega
theorem Put_ok(M:Mem)(b:Nat)(most N:Int)(l:List YQ)(Hb:Hp)(m:YQ)(hN:N≤1000000000000000)(hb:BagIs b most N l Hb):Fh Tryz.prog 72 [.pointer (some ⟨b,0,none⟩),m.enc] M Hb (fun M' v Z=>M'=M∧v=.int .i64 (Ak m most l)∧BagIs b most (N+1) (Zge m most l) Z):=by
 obtain⟨next,mb,rv,o,hs,ids,T,rfl,ho,hm,d,O,ag,B,j⟩:=hb;obtain⟨ad,cp,rfl⟩:=ho.val;have ae:(ids.map (WC .i64)).length=l.length:=by simp[d.len]
 have ab:ids.length=l.length:=d.len;refine YI (fun H=>(b,Yp [.one (.int .i64 most),Seg.one (.int .i64 next),.one _,.one (.map (some mb))] 116)::(mb,o)::(hs++H)) (fun _=>rfl) Tryz.func72 rfl Tryz.ntmps72 rfl ?_;intro H;refine S3 ?_;intro b1;refine S12 ?_;refine Xb (fun C=>?_) (fun C=>?_)
 ·skip
  (exfalso;simp[eqX]at C;done)
 skip
 refine S4 ?_;refine Rz Tryz.underlying9 ?_;refine S4 ?_;refine Xb (cT fun aa=>?_) (cF fun aa=>?_)
 ·refine S8 ?_;refine ZH fun w hw=>?_;(have g:=Zsn m most l jD;exact⟨_,M,((b,_)::(mb,_)::hs),rfl,Mem.le.refl M,hw.c,rfl,by rw[g.1];rfl,next,mb,_,o,hs,ids,T,rfl,ho,hm,by rw[g.2];exact d,O,by omega,by rw[g.2];exact B,j⟩)
 refine Stp ?_;refine Ya (l:=[0,1,2,3,4,5,6,7,8,9,10]) #[0,1,3,7,15,0,32,96,224,511,1023] _ rfl jI jI St.drawn (fun _ h=>h) ?_;refine S13 ?_;refine Xb (cT fun V=>?_) (cF fun V=>?_)
 ·refine S8 ?_;refine ZH fun w hw=>?_;(have g:=Ai m most l jD jD;exact⟨_,M,((b,_)::(mb,_)::hs),rfl,Mem.le.refl M,hw.c,rfl,by rw[g.1];rfl,next,mb,_,o,hs,ids,T,rfl,ho,hm,by rw[g.2];exact d,O,by omega,by rw[g.2];exact B,j⟩)
 refine S4 ?_;refine Ya (l:=[0,1,2,3,4,5,6,7,8,9]) #[0,1,3,7,0,16,48,112,0,511] _ rfl jI jI St.drawn (fun _ h=>h) ?_;refine S9 ?_;refine LS rfl rfl rfl rfl rfl F.map114 jE jB ?_;intro o5 D;refine⟨_,jH,?_⟩;refine S3 ?_;refine Ya (l:=[0,1,2,3,4,5,6,7,8,9,10,11,12,13]) #[0,0,2,6,14,0,32,96,224,480,1022,2047,4095,8191] _ rfl jI jI St.drawn (fun _ h=>h) ?_;refine S9 ?_;refine YK rfl rfl F.elem32 F.zero3 rfl rfl (.cons rfl jG .nil) rfl rfl jK rfl ?_;intro b7 y;refine Vc (m:=1000000) rfl rfl rfl rfl rfl F.elem32 F.zero3 zH rfl jE jA (Src.own y.lens jN rfl jB) jX jM rfl ?_;intro v11 K L;obtain⟨R,U,rfl⟩:=L.val;refine S23 ?_;refine ZH fun w hw=>?_;have g:=Zqw m most l jD jD;have e:(ids++[next]).map (WC .i64)=ids.map (WC .i64)++[[.one (.int .i64 next)]]:=by simp[WC]
 refine⟨_,M,((b,_)::(mb,o5)::K),rfl,Mem.le.refl M,?_,rfl,by rw[g.1];rfl,next+1,mb,_,_,_,ids++[next],VS T next m.enc,rfl,by rw[e];exact L,D,by rw[g.2];exact d.put m,by omega,by omega,by rw[g.2];simp;omega,j⟩;exact hw.c
end Go.Proofs.YtglnjnacodgmaaaGreatDoor.B
namespace Go.Proofs.YtglnjnacodgmaaaGreatDoor.B
open Go.Esp
theorem F.zero82:XP Tryz.prog 82=some (WX [.one (.int .i64 0),.one (.int .i64 0),.one (.string ⟨#[]⟩)]):=by kernel_rfl
theorem Zyu(M:Mem)(b:Nat)(most N:Int)(l:List YQ)(Hb:Hp)(i:Int)(hb:BagIs b most N l Hb):Fo Tryz.prog 39 [.pointer (some ⟨b,0,none⟩),.int .i64 i] M Hb (fun M' v=>M'=M∧v=.tuple #[(atM i l).enc,.int .i64 (atC i l)]):=by
 obtain⟨next,mb,rv,o,hs,ids,V,rfl,T,hm,g,R,U,L,O⟩:=hb;obtain⟨ad,Z,rfl⟩:=T.val;have K:(ids.map (WC .i64)).length=l.length:=by simp[g.len]
 have D:ids.length=l.length:=g.len;have y:=fun z k hk=>Inner.at g z k hk;refine Mv (fun H=>(b,Yp [.one (.int .i64 most),Seg.one (.int .i64 next),.one _,.one (.map (some mb))] 116)::(mb,o)::(hs++H)) (fun _=>rfl) Tryz.func39 rfl Tryz.ntmps39 rfl ?_;intro H;refine S3 ?_;intro b1;refine S12 ?_;refine Xb (fun j=>?_) (fun j=>?_)
 ·skip
  (exfalso;simp[eqX]at j;done)
 skip
 refine S5 ?_;refine YE 13 (cT fun C=>?_) (cF fun C=>?_)
 ·refine S22 ?_;refine ZH fun w hw=>?_;(have d:=Bz i l jD;exact⟨_,M,rfl,Mem.le.refl M,hw.c,rfl,by rw[d.1,d.2];rfl⟩)
 refine S11 ?_;refine Xb (cT fun B=>?_) (cF fun B=>?_)
 ·refine S10 ?_;refine ZH fun w hw=>?_;(have d:=Bz i l jD;exact⟨_,M,rfl,Mem.le.refl M,hw.c,rfl,by rw[d.1,d.2];rfl⟩)
 refine S4 ?_;refine Ya (l:=[0,1,2,3,4,5,6,7,8,9,10,11,12,13]) #[0,1,3,7,0,16,48,112,0,496,1008,2047,4095,8191] _ rfl jI jI St.drawn (fun _ h=>h) ?_;refine S11 ?_;refine Kp rfl rfl rfl rfl F.map114 F.zero82 jB jE (y _ _ jD) rfl ?_;refine S5 ?_;refine ZH fun w hw=>?_;(have d:=Zxo i l jD jD;exact⟨_,M,rfl,Mem.le.refl M,hw.c,rfl,by rw[d.1,d.2];rfl⟩)
theorem Zlu(M:Mem)(k:Nat)(v:Value)(hs:Hp)(rows:List Segs)(d:OSl 3 1 v hs rows)(hk:k<rows.length)(h1:∀ u∈ZV rows,u.oneCell'=true)(hlen:rows.length≤1000000):Fh Tryz.prog 71 [v,.int .i64 (k:Int),.int .i64 ((k:Int)+1)] M hs (fun M' v hs'=>M'=M∧OSl 3 1 v hs' (rows.eraseIdx k)):=by
 obtain⟨L,c,rfl⟩:=d.val;obtain⟨b,rfl⟩:=d.addr jD;obtain⟨_,_,_,_,D,_⟩:=d.inv;have g:(rows.take k++rows.drop (k+1)).length+1=rows.length:=by simp;omega
 refine Uu Tryz.func71 rfl Tryz.ntmps71 rfl ?_;intro H;refine S12 ?_;refine WL rfl rfl rfl (.some rfl rfl) (.some (k:=k+1) rfl jD) (.some rfl rfl) F.elem32 jJ jJ jJ (fun _=>rfl) rfl rfl ?_;refine S10 ?_;refine Xb (cT fun B=>?_) (cF fun B=>?_)
 ·(exfalso;omega)
 refine S10 ?_;refine Ya (l:=[0,1,2,3,4,5,6,7]) #[0,0,3,0,0,24,63,127] _ rfl jI jI St.drawn (fun _ h=>h) ?_;refine S2 ?_;refine WL rfl rfl rfl .none (.some rfl rfl) .none F.elem32 jJ jJ jJ jQ (show WK (some ⟨b,0,none⟩) 1 0 k c=.slice (some ⟨b,0,none⟩) k c from SV) rfl ?_;refine S2 ?_;refine WL rfl rfl rfl (.some (k:=k+1) rfl jD) .none .none F.elem32 jJ jJ jJ jQ (show WK (some ⟨b,0,none⟩) 1 (k+1) rows.length c=WK (some ⟨b,0,none⟩) 1 (k+1) rows.length c from rfl) rfl ?_;refine BE rfl rfl rfl rfl rfl F.elem32 (d.cut jD) jA (d.srcPiece jA h1 jD) jU rfl ?_;intro K C;refine S9 ?_;refine WL rfl rfl rfl (.some rfl rfl) (.some rfl rfl) .none F.elem32 jJ jJ jJ jQ (show WK (some ⟨b,0,none⟩) 1 (rows.take k++rows.drop (k+1)).length rows.length c=.slice (some ⟨b,0+(rows.take k++rows.drop (k+1)).length * 1,none⟩) (rows.length-(rows.take k++rows.drop (k+1)).length) (c-(rows.take k++rows.drop (k+1)).length)from UZ jD) rfl ?_;refine JS rfl rfl rfl rfl rfl F.elem32 F.zero3 rfl jI C jA jD jD Oa ?_;intro y j;refine S9 ?_;refine ZH fun w hw=>?_;exact⟨_,M,y,rfl,Mem.le.refl M,hw.c,rfl,by rw[List.eraseIdx_eq_take_drop_succ];exact j⟩
end Go.Proofs.YtglnjnacodgmaaaGreatDoor.B
namespace Go.Proofs.YtglnjnacodgmaaaGreatDoor.B
open Go.Esp
theorem Take_ok(M:Mem)(b:Nat)(most N:Int)(l:List YQ)(Hb:Hp)(i:Int)(hb:BagIs b most N l Hb):Fh Tryz.prog 33 [.pointer (some ⟨b,0,none⟩),.int .i64 i] M Hb (fun M' v K=>M'=M∧v=.tuple #[(atM i l).enc,.int .i64 (atC i l)]∧BagIs b most N (Zwb i l) K):=by
 obtain⟨next,mb,rv,o,hs,ids,im,rfl,D,hm,d,j,y,B,g⟩:=hb;obtain⟨ad,cp,rfl⟩:=D.val;have T:(ids.map (WC .i64)).length=l.length:=by simp[d.len]
 have O:ids.length=l.length:=d.len;refine YI (fun H=>(b,Yp [.one (.int .i64 most),Seg.one (.int .i64 next),.one _,.one (.map (some mb))] 116)::(mb,o)::(hs++H)) (fun _=>rfl) Tryz.func33 rfl Tryz.ntmps33 rfl ?_;intro H;refine S3 ?_;intro b1;refine S7 ?_;refine PG (Zyu M b most N l _ i (BagIs.intro D hm d j y B g)) ?_;rintro _ M1 _ ⟨U,rfl⟩;subst M1;refine S4 ?_;intro b2;refine S11 ?_;refine Xb (cT fun L=>?_) (cF fun L=>?_)
 ·refine Stp ?_;refine Ya (l:=[0,1,2,3,4,5,6,7,8,9,10,11]) #[0,1,3,7,0,16,48,112,0,496,1008,2047] _ rfl jI jI St.drawn (fun _ h=>h) ?_;have hi:=Ko.1 ‹atC i l=0›;obtain⟨k,rfl⟩:∃ k:Nat,i=k:=⟨i.toNat,by omega⟩
  refine S11 ?_;refine Zla rfl rfl rfl rfl rfl F.map114 jE jB ?_;intro o4 R;refine⟨_,jH,?_⟩;refine S2 ?_;refine Xv (l:=[0,1,2,3,4,5,6,7,8,9,10,11]) (Hin:=hs) jA rfl ?_;refine S8 ?_;refine We (Zlu M k _ _ _ D jU (Zbv _) jU) ?_;rintro v5 M2 Z _ ⟨V,C⟩;subst M2;obtain⟨ab,aa,rfl⟩:=C.val;refine S14 ?_;refine ZH fun w hw=>?_;have h9:=d.del (i:=k) (A7 jD);have e9:(ids.map (WC .i64)).eraseIdx k=(ids.eraseIdx k).map (WC .i64):=by rw[PE]
  refine⟨_,M,_,rfl,Mem.le.refl M,?_,rfl,rfl,by rw[Cr];exact BagIs.intro (mb:=mb) (by rw[← e9];exact C) jE h9 j y (by rw[List.length_eraseIdx];split <;> omega) g⟩;exact hw.c
 refine S11 ?_;refine ZH fun w hw=>?_;refine⟨_,M,_,rfl,Mem.le.refl M,?_,rfl,rfl,by rw[KC jE];exact BagIs.intro (mb:=mb) D hm d j y B g⟩;exact hw.c
theorem Twice_ok(M:Mem)(b:Nat)(most N:Int)(l:List YQ)(Hb:Hp)(i:Int)(F:N≤1000000000000000)(hb:BagIs b most N l Hb):Fh Tryz.prog 34 [.pointer (some ⟨b,0,none⟩),.int .i64 i] M Hb (fun M' v g=>M'=M∧v=.int .i64 (Eg i most l)∧BagIs b most (N+1) (Ef i most l) g):=by
 refine Uu Tryz.func34 rfl Tryz.ntmps34 rfl ?_;intro H;refine S9 ?_;refine PG (Zyu M b most N l _ i hb) ?_;rintro _ D _ ⟨B,rfl⟩;subst D;refine S4 ?_;intro K;refine S11 ?_;refine Xb (eT fun d=>?_) (eF fun d=>?_)
 ·refine S8 ?_;refine ZH fun w hw=>?_;have h9:=hb.mono (N':=N+1) jD;exact⟨_,M,Hb,rfl,Mem.le.refl M,hw.c,rfl,by unfold Eg;rw[A4 jE];rfl,by unfold Ef;rw[A4 jE];exact h9⟩
 refine S3 ?_;refine Xv (l:=[0,1,2,3]) (Hin:=Hb) jA rfl ?_;refine S2 ?_;refine We (Put_ok M b most N l _ (atM i l) F hb) ?_;rintro _ M2 y _ ⟨C,rfl,j⟩;subst M2;refine S4 ?_;refine ZH fun w hw=>?_;exact⟨_,M,y,rfl,Mem.le.refl M,hw.c,rfl,by unfold Eg;rw[A6 jD];rfl,by unfold Ef;rw[A6 jD];exact j⟩
end Go.Proofs.YtglnjnacodgmaaaGreatDoor.B
namespace Go.Esp
def Kq(L:List Snd):Prop:=∀ s∈L,SB s.letter.req
theorem Vw:Kq []:=fun s hs=>by cases hs
theorem Px{s:Snd}(h:SB s.letter.req):Kq [s]:=fun x hx=>by rw[B0.1 hx];exact h
theorem HW(r:Int):SB (nxR r):=by unfold nxR SB;omega
theorem CN:SB 0:=⟨by decide,by decide⟩
theorem Sd{c:Prop}[Decidable c]{a b:Nd×List Snd}(ha:Kq a.2)(hb:Kq b.2):Kq (if c then a else b).2:=by split <;> assumption
theorem Rh{c:Prop}[Decidable c]{a b:Nd×List Snd×Int}(ha:Kq a.2.1)(hb:Kq b.2.1):Kq (if c then a else b).2.1:=by split <;> assumption
theorem HQ(n:Nd)(d:Int):Kq (UY n d).2:=Px (HW _)
theorem Zne(n:Nd):Kq (UD n).2:=by
 unfold UD;dsimp only;exact Sd (HQ _ _) (Sd Vw (Px (HW _)))
theorem Zsk(n:Nd):Kq (JB n).2:=by
 unfold JB;dsimp only;exact Sd Vw (Sd Vw (Sd Vw (HQ _ _)))
theorem Zfz(n:Nd):Kq (UA n).2:=by
 unfold UA;simp only;split
 ·exact Vw
 exact Px (HW _)
theorem Znc(n:Nd)(k:Int):Kq (Vf n k).2.1:=by
 unfold Vf;dsimp only;exact Rh (Sd (Zne n) (Sd (Zsk n) (Zfz n))) Vw
theorem Zfy(n:Nd)(l:Lt):Kq (YF n l).2:=by
 unfold YF;dsimp only;exact Sd Vw (Sd (Sd Vw (Sd Vw Vw)) (Sd Vw (HQ _ _)))
theorem Znb(n:Nd)(l:Lt):Kq (Si n l).2:=by
 unfold Si;dsimp only;exact Sd Vw (Px CN)
theorem Znf(n:Nd)(l:Lt)(d:SB l.req):Kq (SN n l):=by
 unfold SN;dsimp only;split
 ·exact Vw
 exact Px d
theorem Zsl(n:Nd)(l:Lt)(s:Snd)(hs:SB s.letter.req):Kq (if n.joined then[s]else[]):=by
 split
 ·exact Px hs
 exact Vw
theorem Znd(n:Nd)(l:Lt)(d:SB l.req):Kq (WI n l).2.1:=by
 unfold WI;exact Rh (Rh Vw (Rh (Znf n l d) (Rh (Zfy n l) (Rh (Zsl n l _ d) (Rh (Znb n l) (Rh Vw (Rh (Px d) (Rh Vw Vw)))))))) Vw
theorem Zfx(n:Nd):Kq (Sq n).1:=by
 unfold Sq;split
 ·intro s hs;simp only at hs;rcases B8.1 hs with h|h
  ·split at h
   ·cases h
   rw[B0.1 h];exact CN
  split at h
  ·rw[B0.1 h];exact CN
  cases h
 exact Vw
end Go.Esp
namespace Go.Esp
structure Ml where
  frm:Int
  zto:Int
  lt:Lt
  deriving DecidableEq
structure Rg where
  copies:Int
  most:Int
  nodes:List (Int×Nd)
  bag:List Ml
  deriving DecidableEq
def YC{α:Type}(a:Int):List (Int×α)→Option α
 | []=>none
 | (b,x)::l=>if b=a then some x else YC a l
def WM{α:Type}(a:Int)(x:α):List (Int×α)→List (Int×α)
 | []=>[(a,x)]
 | (b,y)::l=>if a<b then(a,x)::(b,y)::l else if b=a then(a,x)::l else(b,y)::WM a x l
def AY{α:Type}(a:Int)(l:List (Int×α)):List (Int×α):=l.filter fun p=>p.1≠a
def XW(r:Rg):List Int:=r.nodes.map (·.1)
def Zmc(r:Rg)(frm:Int)(s:Snd):Rg:=if SP s.letter∧(r.bag.length:Int)<r.most then { r with bag:=r.bag++[⟨frm,s.to,s.letter⟩] }else r
def Tq(r:Rg)(frm:Int)(l:List Snd):Rg:=l.foldl (fun r s=>Zmc r frm s) r
def XL(r:Rg)(i:Int):Rg×Int :=
 if 0≤i∧i<r.bag.length then
  match r.bag[i.toNat]? with
  | none=>(r,7)
  | some m =>
   let r1:={ r with bag:=r.bag.eraseIdx i.toNat }
   match YC m.zto r.nodes with
   | none=>(r1,0)
   | some n=>if(WI n m.lt).2.2=0 then(Tq { r1 with nodes:=WM m.zto (WI n m.lt).1 r1.nodes } m.zto (WI n m.lt).2.1,0)else(r1,0)
 else(r,7)
def Va:Nat→Rg→Rg
 | 0,r=>r
 | n+1,r=>if(XL r 0).2=0 then Va n (XL r 0).1 else r
def RF(r:Rg)(a kind:Int):Rg×Int :=
 match YC a r.nodes with
 | none=>(r,7)
 | some n=>if(Vf n kind).2.2=0 then(Tq { r with nodes:=WM a (Vf n kind).1 r.nodes } a (Vf n kind).2.1,0)else(r,(Vf n kind).2.2)
def UV(a:Int)(r:Rg)(k:Int):Rg:=Va 10000 (RF r a k).1
def Im(r:Rg)(a:Int):Rg:=[1,3,2].foldl (UV a) r
def VI(r:Rg):Rg:=(XW (Va 10000 r)).foldl Im (Va 10000 r)
def Tg(r:Rg)(a:Int)(x:Nd×Int):Rg×Int:=if x.2=0 then({ r with nodes:=WM a x.1 r.nodes },0)else(r,x.2)
def Td(pn:Int→Zr)(r:Rg)(a:Int):Rg×Int :=
 if ¬Yf a then(r,1)else if r.nodes≠[]then(r,13)else Tg r a (Uk (pn a) r.copies)
def Us(pn:Int→Zr)(r:Rg)(a b:Int):Rg×Int :=
 if ¬Yf a∨¬Yf b∨a=b then(r,1)
 else if(YC a r.nodes).isSome then(r,9)
 else if 16≤r.nodes.length then(r,12)
 else if(YC b r.nodes).isSome=false then(r,7)
 else Tg r a (Ur (pn a) r.copies b)
def Ts(r:Rg)(kind a:Int):Rg×Int :=
 match YC a r.nodes with
 | none=>(r,7)
 | some n=>if kind=3 then({ Tq r a (Sq n).1 with nodes:=AY a r.nodes },0)else({ r with nodes:=AY a r.nodes },0)
def Gy(r:Rg)(i:Int):Rg×Int:=if 0≤i∧i<r.bag.length then({ r with bag:=r.bag.eraseIdx i.toNat },0)else(r,7)
def SR(r:Rg)(i:Int):Rg×Int :=
 if 0≤i∧i<r.bag.length then
  match r.bag[i.toNat]? with
  | none=>(r,7)
  | some m=>if(r.bag.length:Int)<r.most then({ r with bag:=r.bag++[m] },0)else(r,12)
 else(r,7)
structure Trn where
  kind:Int
  a:Int
  b:Int
  deriving DecidableEq
def doR(pn:Int→Zr)(r:Rg)(t:Trn):Rg×Int :=
 if t.kind=1 then Td pn r t.a
 else if t.kind=2 then Us pn r t.a t.b
 else if t.kind=3∨t.kind=4 then Ts r t.kind t.a
 else if t.kind=5 then RF r t.a t.b
 else if t.kind=6 then XL r t.a
 else if t.kind=7 then Gy r t.a
 else if t.kind=8 then SR r t.a
 else if t.kind=9 then(VI r,0)
 else(r,13)
end Go.Esp
namespace Go.Esp
def Vl(m:Ml):YQ:=⟨m.frm,m.zto,body m.lt⟩
def Zqy(m:Ml):Prop:=SP m.lt∧SB m.lt.req
theorem DK{l:Lt}(h:SP l)(d:SB l.req):(body l).size≤4096:=by
 unfold body;rw[VE];have:=(Zkk h d).2.2.2.2.2.2;omega
theorem Zgf{m:Ml}(h:Zqy m)(most:Int)(l:List Ml):Ak (Vl m) most (l.map Vl)=if most≤l.length then 12 else 0:=by
 have h1:=DK h.1 h.2;unfold Ak;rw[A4 (show¬(Vl m).body.size > 4096 from by show¬(body m.lt).size > 4096;omega),A8]
def TY(most:Int)(b:List Ml)(m:Ml):List Ml:=if SP m.lt∧(b.length:Int)<most then b++[m]else b
theorem Zgd{m:Ml}(h:Zqy m)(most:Int)(l:List Ml):Zge (Vl m) most (l.map Vl)=(TY most l m).map Vl:=by
 unfold Zge TY;rw[Zgf h];by_cases h2:most≤(l.length:Int)
 ·grind
 rw[A4 h2,A6 rfl,A6 ⟨h.1,by omega⟩,C6];rfl
theorem Zkj{m:Ml}(h:¬SP m.lt)(most:Int)(l:List Ml):TY most l m=l:=A4 (fun h9=>h h9.1)
theorem Zki{m:Ml}{most:Int}{l:List Ml}(d:∀ x∈l,Zqy x)(g:SB m.lt.req):∀ x∈TY most l m,Zqy x:=by
 unfold TY;split
 ·intro x hx;rcases B8.1 hx with h|h
  ·exact d x h
  rw[B0.1 h];exact⟨by rename_i h9;exact h9.1,g⟩
 exact d
def GG(most:Int)(frm:Int)(b:List Ml)(l:List Snd):List Ml:=l.foldl (fun b s=>TY most b ⟨frm,s.to,s.letter⟩) b
theorem Aj(r:Rg)(frm:Int)(s:Snd):Zmc r frm s={ r with bag:=TY r.most r.bag ⟨frm,s.to,s.letter⟩ }:=by
 unfold Zmc TY;split <;> rfl
theorem NX(frm:Int):∀(l:List Snd) (r:Rg),Tq r frm l={ r with bag:=GG r.most frm r.bag l }
 | [],r=>rfl
 | s::l,r=>by
  show Tq (Zmc r frm s) frm l=_;rw[NX frm l,Aj];rfl
end Go.Esp
namespace Go.Esp
variable {α:Type}
abbrev JM(α:Type):=List (Int×α)
def Wm:JM α→Int→Option α
 | [],_=>none
 | (j,v)::r,k=>if k=j then some v else Wm r k
def SE:JM α→Int→α→JM α
 | [],k,v=>[(k,v)]
 | (j,u)::r,k,v=>if k=j then(j,v)::r else(j,u)::SE r k v
def MC(x:Int):Value:=.int .i64 x
def enJ(en:α→Value)(p:Int×α):Value×Value:=(MC p.1,en p.2)
def jmO(en:α→Value)(o:Obj)(l:JM α):Prop:=∃ es clock,o=.map es clock∧kvs es=l.map (enJ en)∧(∀ x∈es.toList,x.born<clock)∧(es.toList.map (·.born)).Nodup
theorem jmO.nil(en:α→Value):jmO en (.map #[] 0) []:=⟨#[],0,rfl,rfl,fun x h=>(by cases h),J1⟩
structure IntK (P:Program) (k:TypeId):Prop where
  ku:P.underlying k=some (.int .i64)
section
variable {P:Program} {w:World} {k:TypeId} {en:α→Value}
theorem Zrb{en:α→Value}{es:Array MapEntry}{l:JM α}(h:kvs es=l.map (enJ en)):kvs es=(l.map fun p=>(p.1,en p.2)).map fun p=>(Value.int .i64 p.1,p.2):=by
 rw[h,I2];rfl
theorem AL{en:α→Value}{x:Int}:∀{l:JM α},Xw (l.map fun p=>(p.1,en p.2)) x=(Wm l x).map en
 | []=>rfl
 | (j,v)::l=>by
  simp only[D3,Xw,Wm];split
  ·rfl
  exact AL
theorem QQ(d:IntK P k)(x:Int){es:Array MapEntry}{l:JM α}(h:kvs es=l.map (enJ en)):
 (Instr.findKey k (MC x) es.toList).run P w=.ok (match Wm l x with|some v=>some (l.findIdx fun p=>x=p.1,en v)|none=>none) w:=by
 have h1:=SU (w:=w) (k:=x) d.ku (Zrb h);unfold MC;rw[h1,AL,List.findIdx_map];cases Wm l x <;> rfl
theorem Qa(d:IntK P k)(b:Bool)(x:Int):(Instr.checkKey b 10000 k (MC x)).run P w=.ok () w:=UC d.ku
theorem Gf{x:Int}:∀{l:JM α} {v:α},Wm l x=some v→l[l.findIdx fun p=>x=p.1]?=some (x,v)
 | [],_,h=>by simp[Wm]at h
 | (j,u)::l,v,h=>by
  unfold Wm at h;by_cases e:x=j
  ·subst e;simp at h;subst h;simp[G9]
  simp only[e,if_false]at h;simp only[G9,e,decide_false,cond_false];simpa using Gf h
theorem Db{x:Int}{l:JM α}{v:α}(h:Wm l x=some v):(x,v)∈l:=H8 (Gf h)
theorem Mg{x:Int}{v:α}:∀{l:JM α} {es:List MapEntry},es.map (fun x=>(x.key,x.val))=l.map (enJ en)→(Wm l x).isSome=true →
 (es.modify (l.findIdx fun p=>x=p.1) fun y=>{ y with key:=MC x,val:=en v }).map (fun x=>(x.key,x.val))=(SE l x v).map (enJ en)
 | [],_,_,h=>by simp[Wm]at h
 | _::_,[],h,_=>by simp at h
 | (j,u)::l,y::es,h,hs=>by
  simp only[D3,J9,enJ,I8]at h;obtain⟨⟨h1,h2⟩,h3⟩:=h;by_cases e:x=j
  ·subst e;simp[G9,SE,enJ];exact h3
  simp only[Wm,e,if_false]at hs;have d:=Mg (v:=v) h3 hs;simp only[G9,e,decide_false,cond_false,SE,if_false,List.modify_succ_cons,D3,h1,h2,d];rfl
theorem CR{es:List MapEntry}{j:Nat}{a b:Value}:(es.modify j fun y=>{ y with key:=a,val:=b }).map (·.born)=es.map (·.born):=by
 induction es generalizing j with
 | nil=>simp
 | cons y es ih =>
  cases j with
  | zero=>simp
  | succ j=>simp[ih]
theorem IU{x:Int}{v:α}:∀{l:JM α},Wm l x=none→SE l x v=l++[(x,v)]
 | [],_=>rfl
 | (j,u)::l,h=>by
  unfold Wm at h;by_cases e:x=j
  ·simp[e]at h
  simp only[e,if_false]at h;simp[SE,e,IU h]
theorem HM{t el:TypeId}{b:Nat}{o:Obj}{l:JM α}{x:Int}{z:α}(y:IntK P k)(ht:P.underlying t=some (.map k el))(d:XP P el=some (en z))(hb:w.heap[b]?=some o)(B:jmO en o l):
 (Instr.lookup t (.map (some b)) (MC x) true).run P w=.ok (.tuple #[en ((Wm l x).getD z),.bool (Wm l x).isSome]) w:=by
 obtain⟨es,c,rfl,hk,_,_⟩:=B;have j:(zeroValue el).run P w=.ok (en z) w:=by
  unfold XP at d;split at d
  ·rename_i it g;simp[zeroValue,typeInfo,g,d]
  cases d
 unfold Instr.lookup;rw[ZY (YP ht)];rw[ZY (UG hb)];rw[ZY (show(pure es:Sem (Array MapEntry)).run P w=.ok es w from rfl),ZY (Qa y _ x),ZY (QQ y x hk)];cases hg:Wm l x with
 | some v=>rfl
 | none =>
  rw[ZY j];rfl
theorem Ib{t el:TypeId}{b:Nat}{o:Obj}{l:JM α}{x:Int}{z:α}(y:IntK P k)(ht:P.underlying t=some (.map k el))(d:XP P el=some (en z))(hb:w.heap[b]?=some o)(B:jmO en o l):
 (Instr.lookup t (.map (some b)) (MC x) false).run P w=.ok (en ((Wm l x).getD z)) w:=by
 obtain⟨es,c,rfl,hk,_,_⟩:=B;have j:(zeroValue el).run P w=.ok (en z) w:=by
  unfold XP at d;split at d
  ·rename_i it g;simp[zeroValue,typeInfo,g,d]
  cases d
 unfold Instr.lookup;rw[ZY (YP ht)];rw[ZY (UG hb)];rw[ZY (show(pure es:Sem (Array MapEntry)).run P w=.ok es w from rfl),ZY (Qa y _ x),ZY (QQ y x hk)];cases hg:Wm l x with
 | some v=>rfl
 | none =>
  rw[ZY j];rfl
theorem CB(x:Int):Instr.sameBits 10000 (MC x) (MC x)=true:=by
 simp[Instr.sameBits,MC]
theorem LW{t el:TypeId}{b:Nat}{o:Obj}{l:JM α}{x:Int}{v:α}(O:IntK P k)(ht:P.underlying t=some (.map k el))(hb:w.heap[b]?=some o)(U:jmO en o l):
 ∃ o',(Instr.mapUpdate t (.map (some b)) (MC x) (en v)).run P w=.ok () { w with heap:=w.heap.setIfInBounds b o' }∧jmO en o' (SE l x v):=by
 obtain⟨es,c,rfl,hk,g,B⟩:=U;unfold Instr.mapUpdate;rw[ZY (YP ht)];rw[ZY (UG hb)];rw[ZY (Qa O _ x),ZY (QQ O x hk)];cases hg:Wm l x with
 | some v0 =>
  have T:=Gf hg;obtain⟨y,d,K⟩:∃ y,es[l.findIdx fun p=>x=p.1]?=some y∧y.key=MC x:=by
   have h3:(kvs es)[l.findIdx fun p=>x=p.1]?=some (MC x,en v0):=by rw[hk];simp[T,enJ]
   simp only[kvs,E6,Option.map_eq_some_iff]at h3;obtain⟨y,d,D⟩:=h3;simp only[I8]at D;exact⟨y,by simpa using d,D.1⟩
  have L:(Instr.keyThatStays (((es[l.findIdx fun p=>x=p.1]?).map (·.key)).getD (MC x)) (MC x)).run P w=.ok (MC x) w:=by
   rw[d];simp only[E9,F7,K];unfold Instr.keyThatStays;simp only[CB];rfl
  rw[ZY L];have hm:(es.modify (l.findIdx fun p=>x=p.1) fun e=>{ e with key:=MC x,val:=en v }).toList=es.toList.modify (l.findIdx fun p=>x=p.1) (fun e=>{ e with key:=MC x,val:=en v }):=by simp
  have C:=CR (es:=es.toList) (j:=l.findIdx fun p=>x=p.1) (a:=MC x) (b:=en v);refine⟨_,TR hb _,_,_,rfl,?_,?_,?_⟩
  ·unfold kvs;rw[hm];exact Mg hk (by simp[hg])
  ·intro y d;rw[hm]at d;have h1:y.born∈es.toList.map (·.born):=by rw[← C];exact G8 d
   obtain⟨R,F,he⟩:=C0.1 h1;rw[← he];exact g R F
  rw[hm,C];exact B
 | none =>
  refine⟨_,TR hb _,_,_,rfl,?_,?_,?_⟩
  ·rw[IU hg,AB,hk];simp[enJ]
  ·intro y d;simp only[Array.toList_push,B8,B0]at d;rcases d with d|rfl
   ·have:=g y d;omega
   exact Nat.lt_succ_self _
  simp only[Array.toList_push,C6,D3,List.map_nil,H3];refine⟨B,by simp,?_⟩;intro a ha b hb e;simp only[B0]at hb;obtain⟨y,d,rfl⟩:=C0.1 ha;have:=g y d;omega
def PL:JM α→Int→JM α
 | [],_=>[]
 | (j,u)::r,k=>if k=j then r else(j,u)::PL r k
theorem Gj{en:α→Value}{x:Int}:∀{l:JM α},Pb (l.map fun p=>(p.1,en p.2)) x=(PL l x).map fun p=>(p.1,en p.2)
 | []=>rfl
 | (j,v)::l=>by
  simp only[D3,Pb,PL];split
  ·rfl
  rw[D3,Gj]
theorem HN{t el ty:TypeId}{b:Nat}{o:Obj}{l:JM α}{z:Int}{v:Array TypeId}(B:v[0]?=some t)(D:IntK P k)(ht:P.underlying t=some (.map k el))(hb:w.heap[b]?=some o)(K:jmO en o l):
 ∃ o',(Builtin.delete_ v ty #[.map (some b),.int .i64 z]).run P w=.ok (.tuple #[]) { w with heap:=w.heap.setIfInBounds b o' }∧jmO en o' (PL l z):=by
 have h1:=ht;have h2:=D.ku;obtain⟨es,c,rfl,hk,j,g⟩:=K;have d:=Zrb hk;unfold Builtin.delete_;have L:(#[Value.map (some b),Value.int .i64 z])[0]?=some (.map (some b)):=rfl;have F:(#[Value.map (some b),Value.int .i64 z])[1]?=some (.int .i64 z):=rfl;simp only[B,L,F];rw[ZY (YP h1)];rw[ZY (UG hb)];rw[ZY (UC h2),ZY (SU h2 d)];cases hg:Xw (l.map fun p=>(p.1,en p.2)) z with
 | some u =>
  refine⟨.map (es.eraseIdxIfInBounds ((l.map fun p=>(p.1,en p.2)).findIdx fun p=>z=p.1)) c,?_,_,_,rfl,?_,?_,?_⟩
  ·simp only[];rw[ZY (TR hb _)];rfl
  ·have:=EX (k:=z) (es:=es.toList) d (by rw[hg];rfl);have h3:(es.eraseIdxIfInBounds ((l.map fun p=>(p.1,en p.2)).findIdx fun p=>z=p.1)).toList=es.toList.eraseIdx ((l.map fun p=>(p.1,en p.2)).findIdx fun p=>z=p.1):=by simp
   simp only[kvs,h3];rw[this,Gj,I2];rfl
  ·intro y C;simp only[Array.toList_eraseIdxIfInBounds]at C;exact j y (List.mem_of_mem_eraseIdx C)
  simp only[Array.toList_eraseIdxIfInBounds];exact g.sublist ((List.eraseIdx_sublist _ _).map _)
 | none =>
  refine⟨.map es c,?_,_,_,rfl,?_,j,g⟩
  ·simp only[];rw[ZY (TR hb _)];rfl
  rw[d];have:=La hg;rw[Gj]at this;rw[← this,I2];rfl
end
inductive Al2 {β:Type} (R:Nat→β→Prop):List Nat→List β→Prop
  | nil:Al2 R [] []
  | cons {j:Nat} {p:β} {js:List Nat} {sv:List β}:R j p→Al2 R js sv→Al2 R (j::js) (p::sv)
def itJ(en:α→Value)(b:Nat)(oi om:Obj)(l sv:JM α):Prop :=
 ∃(es:Array MapEntry) (clock:Nat) (sn:Array Nat) (js:List Nat),om=.map es clock∧kvs es=l.map (enJ en)∧(∀ x∈es.toList,x.born<clock)∧(es.toList.map (·.born)).Nodup ∧
  oi=.mapIter (some b) clock sn clock∧js.Nodup∧sn.toList=js.filterMap (fun j=>es[j]?.map (·.born))∧Al2 (fun j p=>l[j]?=some p) js sv
theorem itJ.start{en:α→Value}{b:Nat}{d:Obj}{l:JM α}(h:jmO en d l):∃ es c,d=.map es c∧itJ en b (.mapIter (some b) c #[] c) d l []:=by
 obtain⟨es,c,rfl,h1,h2,h3⟩:=h;exact⟨es,c,rfl,es,c,#[],[],rfl,h1,h2,h3,rfl,J1,rfl,.nil⟩
theorem LK{l:JM α}{p0:Int×α}:∀{d:List Nat} {g:JM α},Al2 (fun j p=>l[j]?=some p) d g→g=d.map fun j=>l[j]?.getD p0
 | [],_,h=>by cases h;rfl
 | j::d,_,h=>by
  cases h with
  | cons h1 h2=>simp[h1,← LK h2]
theorem Pf{l:JM α}:∀{d:List Nat} {g:JM α},Al2 (fun j p=>l[j]?=some p) d g→∀ j∈d,j<l.length
 | [],_,h=>fun j hj=>by cases hj
 | i::d,_,h=>fun j hj=>by
  cases h with
  | cons h1 h2 =>
   rcases B7.1 hj with rfl|hj
   ·exact(C4.1 h1).1
   exact Pf h2 j hj
theorem Jz{R:Nat→Int×α→Prop}:∀{g:List Nat} {d:JM α} {j:Nat} {p:Int×α},Al2 R g d→R j p→Al2 R (g++[j]) (d++[p])
 | [],_,_,_,h,h2=>by cases h;exact .cons h2 .nil
 | _::_,_,_,_,h,h2=>by
  cases h with
  | cons g1 g2=>exact .cons g1 (Jz g2 h2)
theorem Mu{R:Nat→Int×α→Prop}:∀{v:List Nat} {g:JM α} {p:Int×α},Al2 R v (g++[p])→∃ d j,v=d++[j]∧Al2 R d g∧R j p
 | _,[],_,h=>by
  cases h with
  | cons g1 g2=>cases g2;exact⟨[],_,rfl,.nil,g1⟩
 | _,s::g,p,h=>by
  cases h with
  | cons g1 g2 =>
   obtain⟨d,j,rfl,h1,h2⟩:=Mu g2;exact⟨_::d,j,rfl,.cons g1 h1,h2⟩
theorem Zpk{es:List MapEntry}(d:(es.map (·.born)).Nodup){i j:Nat}(hi:i<es.length)(hj:j<es.length)(h:es[i].born=es[j].born):i=j:=by
 have h1:(es.map (·.born))[i]'zP=(es.map (·.born))[j]'zM:=by simpa using h
 rcases Nat.lt_trichotomy i j with h9|h9|h9
 ·exact absurd h1 ((E1.1 d) i j zP zM h9)
 ·exact h9
 exact absurd h1.symm ((E1.1 d) j i zM zP h9)
theorem Ba{en:α→Value}{es:Array MapEntry}{l:JM α}(h:kvs es=l.map (enJ en)):es.toList.length=l.length:=by have:=A9 List.length h;simpa[kvs]using this
theorem Ad{es:Array MapEntry}{v:Array Nat}{d:List Nat}(y:(es.toList.map (·.born)).Nodup)(hs:v.toList=d.filterMap (fun j=>es[j]?.map (·.born)))(B:∀ j∈d,j<es.toList.length){j:Nat}(hj:j<es.toList.length):
 es.toList[j].born∈v.toList↔j∈d:=by
 rw[hs,List.mem_filterMap];constructor
 ·rintro⟨i,hi,he⟩;have g:=B i hi;have h1:es[i]?=some es.toList[i]:=by simp
  rw[h1]at he;simp only[E9,G1]at he;rw[← Zpk y g hj he];exact hi
 grind
theorem Zps{es:Array MapEntry}{d:Array Nat}(h:(leftOf es d).size=0){x:MapEntry}(hx:x∈es.toList):x.born∈d.toList:=by
 apply C2;intro g;have h1:x∈leftOf es d:=by
  unfold leftOf;rw[Array.mem_filter];exact⟨by simpa using hx,by simpa using g⟩
 grind
theorem itJ.done{en:α→Value}{b:Nat}{O L:Obj}{l R:JM α}{es:Array MapEntry}{clock:Nat}{K:Array Nat}(h:itJ en b O L l R)(h1:L=.map es clock)(h2:O=.mapIter (some b) clock K clock)(h0:(leftOf es K).size=0):R.Perm l:=by
 obtain⟨g,c',y,D,e1,hk,V,C,Z,B,hs,v⟩:=h;subst e1;obtain⟨rfl,rfl⟩:=Obj.map.inj h1;subst Z;have U:y=K:=(Obj.mapIter.inj h2).2.2.1;subst U;have hlen:=Ba hk;have F:∀ j∈D,j<g.toList.length:=fun j hj=>by rw[hlen];exact Pf v j hj
 have T:D.Perm (List.range l.length):=by
  refine(List.perm_ext_iff_of_nodup B List.nodup_range).2 fun j=>?_;rw[G7];constructor
  ·intro hj;exact Pf v j hj
  intro hj;have d:j<g.toList.length:=by omega
  exact(Ad C hs F d).1 (Zps h0 (C1 d))
 cases l with
 | nil =>
  have:D=[]:=by simpa using T
  subst this;cases v;exact .refl _
 | cons p0 l' =>
  rw[LK (p0:=p0) v];have h9:=T.map fun j=>((p0::l')[j]?).getD p0;refine h9.trans (List.Perm.of_eq ?_);apply J4 jQ;intro i g1 g2;simp only[I7,List.getElem_range,A7 g2,F7]
theorem itJ.step{en:α→Value}{b:Nat}{O F:Obj}{l V:JM α}{es:Array MapEntry}{clock:Nat}{D:Array Nat}{x:MapEntry}(h:itJ en b O F l V)(h1:F=.map es clock)(h2:O=.mapIter (some b) clock D clock)(hx:x∈(leftOf es D).toList):
 ∃ p,p∈l∧x.key=MC p.1∧x.val=en p.2∧itJ en b (.mapIter (some b) clock (D.push x.born) clock) F l (V++[p]):=by
 obtain⟨d,c',g,U,e1,hk,K,B,e2,aa,hs,T⟩:=h;subst e1;obtain⟨rfl,rfl⟩:=Obj.map.inj h1;subst e2;have Z:g=D:=(Obj.mapIter.inj h2).2.2.1;subst Z;obtain⟨L,C⟩:=mem_left hx;obtain⟨j,hj,rfl⟩:=E2 L;have hlen:=Ba hk;have y:j<l.length:=by omega
 have ab:j∉U:=fun hc=>by
  have:=(Ad B hs (fun i hi=>by rw[hlen];exact Pf T i hi) hj).2 hc;have h3:d.toList[j].born∈g:=by simpa using this
  have h4:g.contains d.toList[j].born=true:=by simpa using h3
  rw[h4]at C;cases C
 have v:(d.toList[j].key,d.toList[j].val)=enJ en l[j]:=by
  have R:(kvs d)[j]?=(l.map (enJ en))[j]?:=by rw[hk]
  simp only[kvs,E6,A7 hj,A7 y,E9,G1]at R;exact R
 simp only[enJ,I8]at v;refine⟨l[j],C1 y,v.1,v.2,d,_,_,U++[j],rfl,hk,K,B,rfl,?_,?_,Jz T (A7 y)⟩
 ·grind
 grind
theorem itJ.len{en:α→Value}{b:Nat}{C F:Obj}{l v:JM α}(h:itJ en b C F l v):v.length≤l.length:=by
 obtain⟨es,c,O,g,R,hk,D,B,L,d,hs,y⟩:=h;have h1:g.length=v.length:=by
  clear hs d
  induction y with
  | nil=>rfl
  | cons _ _ ih=>simp[ih]
 have h2:g.length≤(List.range l.length).length:=by
  have K:g.Perm ((List.range l.length).filter fun j=>decide (j∈g)):=(List.perm_ext_iff_of_nodup d (List.nodup_range.sublist List.filter_sublist)).2 fun j=>by
   rw[F6,G7];exact⟨fun hj=>⟨Pf y j hj,by simpa using hj⟩,fun hj=>by simpa using hj.2⟩
  rw[K.length_eq];exact List.length_filter_le _ _
 grind
theorem itJ.last{en:α→Value}{b:Nat}{D F:Obj}{l T:JM α}{p:Int×α}(h:itJ en b D F l (T++[p])):∃(es:Array MapEntry) (clock:Nat) (L:Array Nat) (x:MapEntry),F=.map es clock∧D=.mapIter (some b) clock (L.push x.born) clock∧x∈es.toList∧(es.toList.map (·.born)).Nodup∧x.key=MC p.1∧x.val=en p.2:=by
 obtain⟨es,c,L,Z,rfl,hk,O,y,rfl,V,hs,U⟩:=h;obtain⟨C,j,rfl,R,hj⟩:=Mu U;have hlen:=Ba hk;obtain⟨v,B⟩:=C4.1 hj;have g:j<es.toList.length:=by omega
 have h1:es[j]?=some es.toList[j]:=by simp
 rw[List.filterMap_append]at hs;simp only[List.filterMap_cons,h1]at hs;have d:(es.toList[j].key,es.toList[j].val)=enJ en l[j]:=by
  have K:(kvs es)[j]?=(l.map (enJ en))[j]?:=by rw[hk]
  simp only[kvs,E6,A7 g,A7 v,E9,G1]at K;exact K
 simp only[enJ,I8,B]at d;refine⟨es,c,(C.filterMap (fun j=>es[j]?.map (·.born))).toArray,es.toList[j],rfl,?_,C1 g,y,d.1,d.2⟩;congr 1;apply Array.toList_inj.1;rw[hs];simp
section
variable {P:Program} {n:Sh} {ops:Array Oper} {Q:Exit→Act→World→Prop} {rest:List Nat} {M M':Mem} {H H' H0:Hp} {e:Env} {J S:World→Prop} {A:As} {i:Nat}
  {dst:Option Tmp} {d:Tmp} {op:Op} {ty:TypeId} {pos:String} {af:Array Edge} {gd:Option (Nat×Bool)} {k:TypeId} {en:α→Value}
theorem RS{t el:TypeId}{x y:Operand}{b:Nat}{p:Int}{z:α}{o:Obj}{l:JM α}{j:Mem}{g:Hp}(hi:ops[i]?=some ⟨some d,.lookup t x y true,ty,pos,af,gd⟩)(F:want ops e gd=some true)
 (hx:ev e x=some (.map (some b))) (C:ev e y=some (MC p)) (v:IntK P k) (ht:P.underlying t=some (.map k el)) (K:XP P el=some (en z)) (hb:(b,o)∈g) (D:jmO en o l) (B:Nat.ble (d+1) n.sz=true)
 (hk:XD P n ops Q rest (St j g) A ((d,.tuple #[en ((Wm l p).getD z),.bool (Wm l p).isSome])::e)):XD P n ops Q (i::rest) (St j g) A e :=
 UB hi rfl F (fun a' w ha hw=>Xp (by
  simp only[execOp,ha.ev hx,ha.ev C];exact Wz (HM v ht K (hw.own _ _ hb) D))) (fun a ha=>ha.put B _) hk
theorem Zkv{t el:TypeId}{x y:Operand}{b:Nat}{p:Int}{z:α}{o:Obj}{l:JM α}{j:Mem}{g:Hp}(hi:ops[i]?=some ⟨some d,.lookup t x y false,ty,pos,af,gd⟩)(F:want ops e gd=some true)
 (hx:ev e x=some (.map (some b))) (C:ev e y=some (MC p)) (v:IntK P k) (ht:P.underlying t=some (.map k el)) (K:XP P el=some (en z)) (hb:(b,o)∈g) (D:jmO en o l) (B:Nat.ble (d+1) n.sz=true)
 (hk:XD P n ops Q rest (St j g) A ((d,en ((Wm l p).getD z))::e)):XD P n ops Q (i::rest) (St j g) A e :=
 UB hi rfl F (fun a' w ha hw=>Xp (by
  simp only[execOp,ha.ev hx,ha.ev C];exact Wz (Ib v ht K (hw.own _ _ hb) D))) (fun a ha=>ha.put B _) hk
theorem Hz{t el:TypeId}{x:Operand}{b:Nat}{o:Obj}{l:JM α}{B:Mem}{y:Hp}{g:Array TypeId}(hi:ops[i]?=some ⟨some d,.call ⟨.builtin .len,#[x],g⟩,ty,pos,af,gd⟩)(K:want ops e gd=some true)
 (hx:ev e x=some (.map (some b))) (j:g[0]?=some t) (ht:P.underlying t=some (.map k el)) (hb:(b,o)∈y) (F:jmO en o l) (C:Nat.ble (d+1) n.sz=true) (hk:XD P n ops Q rest (St B y) A ((d,.int .i64 (l.length:Int))::e)):XD P n ops Q (i::rest) (St B y) A e :=
 UB hi rfl K (fun a' w ha hw=>Xp (by
  obtain⟨es,c,rfl,v,_,_⟩:=F;have D:es.size=l.length:=by have:=A9 List.length v;simpa[kvs]using this
  simp only[execOp,resolve];simp[invoke,builtin,Builtin.len_,ha.ev hx,j,YP ht,UG (hw.own _ _ hb),goInt,D])) (fun a ha=>ha.put C _) hk
theorem Ov{t el:TypeId}{x y z:Operand}{b:Nat}{p:Int}{v:α}{o:Obj}{l:JM α}(hi:ops[i]?=some ⟨none,.mapUpdate t x y z,ty,pos,af,gd⟩)(R:want ops e gd=some true)
 (hx:ev e x=some (.map (some b))) (L:ev e y=some (MC p)) (C:ev e z=some (en v)) (K:IntK P k) (ht:P.underlying t=some (.map k el)) (O:jmO en o l) (hb:(b,o)∈H)
 (hk:∀ o',jmO en o' (SE l p v)→∃ d,Upd b o o' H d∧XD P n ops Q rest (St M d) ⟨M,d⟩ e) (g:n.wrs.contains i=false:=by rfl):XD P n ops Q (i::rest) J ⟨M,H⟩ e:=by
 refine SK hi rfl R (fun a w ha hw=>?_) g;have hb:=hw.own b o hb;obtain⟨o',D,j⟩:=LW (P:=P) (x:=p) (v:=v) K ht hb O;unfold Oper.does;have:(execOp a.eval ⟨none,.mapUpdate t x y z,ty,pos,af,gd⟩).run P w=.ok .skip { w with heap:=w.heap.setIfInBounds b o' }:=by
  simp only[execOp,ha.ev hx,ha.ev L,ha.ev C];rw[ZY D];rfl
 rw[this];obtain⟨d,hH,hk⟩:=hk o' j;exact⟨⟨M,d⟩,e,St.upd hw hH (RQ hb) (fun c F q B=>by rw[SS F];exact B) (SameIO.refl _),ha,hk⟩
theorem Zpu{t el:TypeId}{x:Operand}{b:Nat}{o:Obj}{l:JM α}(hi:ops[i]?=some ⟨some d,.range t x,ty,pos,af,gd⟩)(D:want ops e gd=some true)
 (hx:ev e x=some (.map (some b))) (ht:P.underlying t=some (.map k el)) (hb:(b,o)∈H) (C:jmO en o l) (B:Nat.ble (d+1) n.sz=true)
 (hk:∀ r g,itJ en b g o l []→XD P n ops Q rest (St M ((r,g)::H)) ⟨M,(r,g)::H⟩ ((d,.pointer (some ⟨r,0,Option.none⟩))::e)) (v:n.wrs.contains i=false:=by rfl):XD P n ops Q (i::rest) J ⟨M,H⟩ e:=by
 refine SK hi rfl D (fun a w ha hw=>?_) v;have j:=hw.own b o hb;obtain⟨es,c,rfl,y⟩:=itJ.start (b:=b) C;unfold Oper.does;have:(execOp a.eval ⟨some d,.range t x,ty,pos,af,gd⟩).run P w=.ok (.value (.pointer (some ⟨w.heap.size,0,Option.none⟩))) (w.alloc (.mapIter (some b) c #[] c)):=by
  simp only[execOp,ha.ev hx];refine Wz ?_;unfold Instr.range;rw[ZY (YP ht)];rw[ZY (UG j)];rfl
 rw[this];exact⟨⟨M,(w.heap.size,_)::H⟩,_,St.alloc hw _,ha.put B _,hk _ _ y⟩
theorem Zuq{x:Operand}{b r:Nat}{L O:Obj}{l sv:JM α}(hi:ops[i]?=some ⟨some d,.next x false,ty,pos,af,gd⟩)(hg:want ops e gd=some true)
 (hx:ev e x=some (.pointer (some ⟨r,0,Option.none⟩))) (hr:(r,L)∈H) (hb:(b,O)∈H) (j:itJ en b L O l sv) (hd:Nat.ble (d+1) n.sz=true)
 (aa:∀ p K,p∈l→itJ en b K O l (sv++[p])→∃ D,Upd r L K H D∧XD P n ops Q rest (St M D) ⟨M,D⟩ ((d,.tuple #[.bool true,MC p.1,en p.2])::e))
 (Z:sv.Perm l→XD P n ops Q rest (St M H) ⟨M,H⟩ ((d,.tuple #[.bool false])::e)) (U:n.wrs.contains i=false:=by rfl):XD P n ops Q (i::rest) J ⟨M,H⟩ e:=by
 refine SK hi rfl hg (fun a w ha hw=>?_) U;have C:=hw.own r L hr;have v:=hw.own b O hb;have B:=j;obtain⟨es,c,sn,js,e1,ag,R,ae,V,ah,hs,hf⟩:=B;rw[V]at C;rw[e1]at v;unfold Oper.does;rcases run_next_at (P:=P) w ty r b c c sn es c C v R (B9 _)with⟨h0,g⟩|⟨y,hy,T,ab,g⟩
 ·have:(execOp a.eval ⟨some d,.next x false,ty,pos,af,gd⟩).run P w=.ok (.value (.tuple #[.bool false])) w:=by
   simp only[execOp,ha.ev hx];exact Wz g
  rw[this];exact⟨⟨M,H⟩,_,hw,ha.put hd _,Z (j.done e1 V h0)⟩
 obtain⟨p,hp,g1,g2,g3⟩:=j.step e1 V hy;rw[g1,g2]at g;have:(execOp a.eval ⟨some d,.next x false,ty,pos,af,gd⟩).run P w=.ok (.value (.tuple #[.bool true,MC p.1,en p.2])) { T with heap:=T.heap.setIfInBounds r (.mapIter (some b) c (sn.push y.born) c) }:=by
  simp only[execOp,ha.ev hx];exact Wz g
 rw[this];obtain⟨D,hH,hk⟩:=aa p _ hp g3;have F:St M H T:=by
  rcases ab with rfl|rfl
  ·exact hw
  exact St.drawn _ hw
 have ad:=F.own r L hr;exact⟨⟨M,D⟩,_,St.upd F hH (RQ ad) (fun c hc q hq=>by rw[SS hc];exact hq) (SameIO.refl _),ha.put hd _,hk⟩
theorem Zpw{x:Operand}{b r:Nat}{v B:Obj}{l F:JM α}{p:Int×α}{C:Mem}{g:Hp}(hi:ops[i]?=some ⟨some d,.entry x,ty,pos,af,gd⟩)(O:want ops e gd=some true)
 (hx:ev e x=some (.pointer (some ⟨r,0,Option.none⟩))) (D:(r,v)∈g) (hb:(b,B)∈g) (j:itJ en b v B l (F++[p])) (K:Nat.ble (d+1) n.sz=true)
 (hk:XD P n ops Q rest (St C g) A ((d,.tuple #[MC p.1,en p.2])::e)):XD P n ops Q (i::rest) (St C g) A e :=
 UB hi rfl O (fun a' w ha hw=>Xp (by
  obtain⟨es,c,L,y,rfl,rfl,g1,g2,g3,g4⟩:=j.last;simp only[execOp,ha.ev hx];have:=run_entry_at (P:=P) w r b c L es c y (hw.own _ _ D) (hw.own _ _ hb) g1 g2;rw[g3,g4]at this;exact Wz this)) (fun a ha=>ha.put K _) hk
theorem DX{t el:TypeId}{x y:Operand}{b:Nat}{z:Int}{o:Obj}{l:JM α}{d:Array TypeId}(hi:ops[i]?=some ⟨none,.call ⟨.builtin .delete,#[x,y],d⟩,ty,pos,af,gd⟩)(T:want ops e gd=some true)
 (hx:ev e x=some (.map (some b))) (O:ev e y=some (.int .i64 z)) (v:d[0]?=some t) (L:IntK P k) (ht:P.underlying t=some (.map k el)) (R:jmO en o l) (hb:(b,o)∈H)
 (hk:∀ o',jmO en o' (PL l z)→∃ g,Upd b o o' H g∧XD P n ops Q rest (St M g) ⟨M,g⟩ e) (j:n.wrs.contains i=false:=by rfl):XD P n ops Q (i::rest) J ⟨M,H⟩ e:=by
 refine SK hi rfl T (fun a w ha hw=>?_) j;have hb:=hw.own b o hb;obtain⟨o',F,B⟩:=HN (P:=P) (ty:=ty) (z:=z) v L ht hb R;unfold Oper.does;have:(execOp a.eval ⟨none,.call ⟨.builtin .delete,#[x,y],d⟩,ty,pos,af,gd⟩).run P w=.ok (.value (.tuple #[])) { w with heap:=w.heap.setIfInBounds b o' }:=by
  simp only[execOp,resolve];have D:#[x,y].map a.eval=#[.map (some b),.int .i64 z]:=by simp[ha.ev hx,ha.ev O]
  rw[D,Sem.run_bind];show(Result.ok _ w).andThen _=_;exact Wz F
 rw[this];obtain⟨g,hH,hk⟩:=hk o' B;exact⟨⟨M,g⟩,e,St.upd hw hH (RQ hb) (fun c K q C=>by rw[SS K];exact C) (SameIO.refl _),ha,hk⟩
end
end Go.Esp
namespace Go.Esp
section
variable {α:Type}
theorem Ut(a b:Int)(x:α):∀ l:List (Int×α),(l.map (·.1)).Pairwise (·<·)→YC b (WM a x l)=if b=a then some x else YC b l
 | [],_=>by
  by_cases e:b=a
  ·subst e;simp[WM,YC]
  simp[WM,YC,Ne.symm e,e]
 | (c,y)::l,h=>by
  have h2:=D6.1 h;have j:∀ d,d<c→YC d l=none:=fun d v=>getA_low (fun q g=>by have:=h2.1 q.1 (G8 g);simp only at this;omega);unfold WM;by_cases h1:a<c
  ·rw[A6 h1];by_cases e:b=a
   ·subst e;simp[YC]
   simp[YC,Ne.symm e,e]
  rw[A4 h1];by_cases e1:c=a
  ·rw[A6 e1];subst e1;by_cases e:b=c
   ·subst e;simp[YC]
   simp[YC,Ne.symm e,e]
  rw[A4 e1];unfold YC;by_cases e:c=b
  ·rw[A6 e,A4 jD,A6 e]
  rw[A4 e,A4 e];exact Ut a b x l h2.2
 where
  getA_low:∀{l:List (Int×α)} {d:Int},(∀ q∈l,d<q.1)→YC d l=none
    | [],_,_=>rfl
    | (c,y)::l,d,h=>by
      unfold YC
      rw[A4 (by have:=h (c,y) (B1);simp only at this;omega)]
      exact getA_low fun q g=>h q (B2 _ g)
theorem TW{a:Int}{x:α}:∀{l:List (Int×α)},YC a l=some x→(a,x)∈l
 | [],h=>by cases h
 | (c,y)::l,h=>by
  unfold YC at h;split at h
  ·rename_i e;subst e;cases h;exact B1
  exact B2 _ (TW h)
theorem Wg{a:Int}:∀{l:List (Int×α)},YC a l=none↔a∉l.map (·.1)
 | []=>by simp[YC]
 | (c,y)::l=>by
  unfold YC;split
  ·rename_i e;subst e;simp
  rename_i e;rw[Wg (l:=l),D3,B7,not_or];exact⟨fun h=>⟨fun h2=>e h2.symm,h⟩,fun h=>h.2⟩
theorem Ziu{a:Int}{x:α}:∀{l:List (Int×α)},(l.map (·.1)).Nodup→(a,x)∈l→YC a l=some x
 | [],_,h=>by cases h
 | (c,y)::l,hn,h=>by
  have h2:=D9.1 hn;unfold YC;rcases B7.1 h with e|h
  ·cases e;rw[A6 rfl]
  rw[A4 (fun e=>h2.1 (C0.2 ⟨_,h,e.symm⟩))];exact Ziu h2.2 h
theorem EA{a b:Int}{x:α}:∀{l:List (Int×α)},b∈(WM a x l).map (·.1)↔b=a∨b∈l.map (·.1)
 | []=>by simp[WM]
 | (c,y)::l=>by
  unfold WM;split
  ·simp
  split
  ·rename_i e;subst e;simp
  have:=EA (a:=a) (b:=b) (x:=x) (l:=l);rw[D3,B7,this,D3,B7];constructor
  ·rintro(h|h|h)
   ·exact .inr (.inl h)
   ·exact .inl h
   exact .inr (.inr h)
  rintro(h|h|h)
  ·exact .inr (.inl h)
  ·exact .inl h
  exact .inr (.inr h)
theorem NZ{a:Int}{x:α}:∀{l:List (Int×α)},(l.map (·.1)).Pairwise (·<·)→((WM a x l).map (·.1)).Pairwise (·<·)
 | [],_=>by simp[WM]
 | (c,y)::l,h=>by
  have h2:=D6.1 h;unfold WM;split
  ·rename_i e;refine D6.2 ⟨fun q d=>?_,h⟩;rcases B7.1 d with rfl|d
   ·exact e
   have:=h2.1 q d;simp only at this e ⊢;omega
  rename_i e;split
  ·rename_i g;subst g;exact h
  rename_i g;refine D6.2 ⟨fun q d=>?_,NZ h2.2⟩;rcases EA.1 d with rfl|d
  ·simp only at e g ⊢;omega
  exact h2.1 q d
theorem HR{a:Int}{x:α}:∀{l:List (Int×α)},(l.map (·.1)).Pairwise (·<·)→(WM a x l).length=if(YC a l).isSome then l.length else l.length+1
 | [],_=>rfl
 | (c,y)::l,h=>by
  have h2:=D6.1 h;unfold WM YC;by_cases e:a<c
  ·rw[A6 e,A4 (show¬c=a by omega),Ut.getA_low (fun q d=>by have:=h2.1 q.1 (G8 d);simp only at this;omega)];simp
  rw[A4 e];by_cases e1:c=a
  ·rw[A6 e1,A6 e1];simp
  rw[A4 e1,A4 e1,C8,HR h2.2];split <;> simp
theorem DD{a:Int}{l:List (Int×α)}(h:(l.map (·.1)).Pairwise (·<·)):((AY a l).map (·.1)).Pairwise (·<·):=h.sublist (List.filter_sublist.map _)
theorem Mt(a b:Int):∀ l:List (Int×α),YC b (AY a l)=if b=a then none else YC b l
 | []=>by simp[AY,YC]
 | (c,y)::l=>by
  have d:=Mt a b l;unfold AY at *;rw[List.filter_cons];by_cases e:c=a
  ·rw[A4 (by simpa using e),d];split
   ·rfl
   unfold YC;rw[A4 jD];cases l <;> rfl
  rw[A6 (by simpa using e)];unfold YC;by_cases e1:c=b
  ·rw[A6 e1,A4 jD,A6 e1]
  rw[A4 e1,A4 e1];have h9:YC b (l.filter fun p=>decide (p.1≠a))=if b=a then none else YC b l:=d
  cases hl:(l.filter fun p=>decide (p.1≠a))with
  | nil=>rw[hl]at h9;exact h9
  | cons q r=>rw[hl]at h9;exact h9
end
section
variable {α:Type}
theorem Zhz(l:JM α)(k d:Int)(v:α):Wm (SE l k v) d=if d=k then some v else Wm l d:=by
 induction l with
 | nil=>simp only[SE,Wm]
 | cons p l ih =>
  obtain⟨j,u⟩:=p;unfold SE;by_cases e:k=j
  ·subst e;rw[A6 rfl];unfold Wm;split <;> rfl
  rw[A4 e];unfold Wm;by_cases h:d=j
  ·rw[A6 h,A4 jD,A6 h]
  rw[A4 h,A4 h];exact ih
theorem Zck{l:JM α}{k:Int}{v:α}:(SE l k v).map (·.1)=if(Wm l k).isSome then l.map (·.1)else l.map (·.1)++[k]:=by
 induction l with
 | nil=>rfl
 | cons p l ih =>
  unfold SE Wm;split
  ·rfl
  rw[D3,ih];split <;> simp
theorem OK{k:Int}:∀{l:JM α},Wm l k=none↔k∉l.map (·.1)
 | []=>by simp[Wm]
 | (c,y)::l=>by
  unfold Wm;split
  ·rename_i e;subst e;simp
  rename_i e;rw[OK (l:=l),D3,B7,not_or];exact⟨fun h=>⟨e,h⟩,fun h=>h.2⟩
theorem Bb{l:JM α}{k:Int}{v:α}(h:(l.map (·.1)).Nodup):((SE l k v).map (·.1)).Nodup:=by
 rw[Zck];split
 ·exact h
 rename_i e;rw[H3];refine⟨h,by simp,fun a ha b hb d=>?_⟩;rw[B0]at hb;subst hb;subst d;exact OK.1 (by simpa using e) ha
theorem Zhy{l:JM α}{k:Int}{v:α}{p:Int×α}(h:p∈SE l k v):p=(k,v)∨p∈l:=by
 induction l with
 | nil=>simpa[SE]using h
 | cons q l ih =>
  unfold SE at h;split at h
  ·rename_i e;subst e;rcases B7.1 h with rfl|h
   ·exact .inl rfl
   exact .inr (B2 _ h)
  rcases B7.1 h with rfl|h
  ·exact .inr B1
  rcases ih h with h|h
  ·exact .inl h
  exact .inr (B2 _ h)
theorem Jk(k:Int):∀ l:JM α,List.Sublist (PL l k) l
 | []=>List.Sublist.refl _
 | (j,u)::l=>by
  unfold PL;split
  ·exact List.sublist_cons_self _ _
  exact(Jk k l).cons_cons _
theorem Dc(k d:Int):∀ l:JM α,(l.map (·.1)).Nodup→Wm (PL l k) d=if d=k then none else Wm l d
 | [],_=>by simp[PL,Wm]
 | (j,u)::l,h=>by
  have h2:=D9.1 h;unfold PL;by_cases e:k=j
  ·subst e;rw[A6 rfl];by_cases e2:d=k
   ·subst e2;rw[A6 rfl];exact OK.2 h2.1
   rw[A4 e2];unfold Wm;rw[A4 e2];cases l <;> rfl
  rw[A4 e];unfold Wm;by_cases e2:d=j
  ·rw[A6 e2,A4 jD,A6 e2]
  rw[A4 e2,A4 e2];have:=Dc k d l h2.2;cases hl:PL l k with
  | nil=>rw[hl]at this;exact this
  | cons q r=>rw[hl]at this;exact this
end
structure RIs (M:Mem) (r:Rg) (l:JM ZM):Prop where
  ok:∀ p∈l,ZM.ok M p.2
  key:(l.map (·.1)).Nodup
  get:∀ a,(Wm l a).map ZM.nd=YC a r.nodes
  mail:∀ m∈r.bag,Zqy m
  rise:(XW r).Pairwise (·<·)
  few:r.nodes.length≤16
  cop:1≤r.copies∧r.copies≤8
theorem RIs.mono{M M':Mem}{r:Rg}{l:JM ZM}(h:RIs M r l)(hm:M.le M'):RIs M' r l:=⟨fun p d=>(h.ok p d).mono hm,h.key,h.get,h.mail,h.rise,h.few,h.cop⟩
theorem RIs.nil(M:Mem)(c k:Int)(d:1≤c∧c≤8):RIs M ⟨c,k,[],[]⟩ []:=⟨fun p h=>(by cases h),J1,fun a=>rfl,fun m h=>(by cases h),J8,C3 _,d⟩
theorem RIs.put{M:Mem}{r:Rg}{l:JM ZM}(h:RIs M r l){a:Int}{n:ZM}(g:ZM.ok M n)(j:(YC a r.nodes).isSome∨r.nodes.length<16):RIs M { r with nodes:=WM a n.nd r.nodes } (SE l a n):=by
 refine⟨fun p d=>?_,Bb h.key,fun b=>?_,h.mail,NZ h.rise,?_,h.cop⟩
 ·rcases Zhy d with rfl|d
  ·exact g
  exact h.ok p d
 ·show(Wm (SE l a n) b).map ZM.nd=YC b (WM a n.nd r.nodes);rw[Zhz,Ut _ _ _ _ h.rise,← h.get b];split <;> rfl
 show(WM a n.nd r.nodes).length≤16;rw[HR h.rise];have:=h.few;grind
theorem RIs.del{M:Mem}{r:Rg}{l:JM ZM}(h:RIs M r l)(a:Int):RIs M { r with nodes:=AY a r.nodes } (PL l a):=by
 refine⟨fun p d=>h.ok p ((Jk a l).subset d),h.key.sublist ((Jk a l).map _),fun b=>?_,h.mail,DD h.rise,H7 (List.length_filter_le _ _) h.few,h.cop⟩;rw[Dc _ _ _ h.key,Mt,← h.get b];split <;> rfl
theorem RIs.bag{M:Mem}{r:Rg}{l:JM ZM}(h:RIs M r l){b:List Ml}(hb:∀ m∈b,Zqy m):RIs M { r with bag:=b } l:=⟨h.ok,h.key,h.get,hb,h.rise,h.few,h.cop⟩
theorem RIs.keys{M:Mem}{r:Rg}{l:JM ZM}(h:RIs M r l):(l.map (·.1)).Perm (XW r):=by
 refine(List.perm_ext_iff_of_nodup h.key (h.rise.imp fun hx=>by omega)).2 fun a=>?_;have h1:=OK (k:=a) (l:=l);have h2:=Wg (a:=a) (l:=r.nodes);have h3:=h.get a;unfold XW;constructor
 ·intro ha;apply C2;intro hb;simp_all
 grind
theorem RIs.len{M:Mem}{r:Rg}{l:JM ZM}(h:RIs M r l):l.length=r.nodes.length:=by
 have:=h.keys.length_eq;simpa[XW]using this
def RingIs(g:Nat)(N:Int)(r:Rg)(M:Mem)(Hb:Hp):Prop :=
 ∃(mb bb:Nat) (o:Obj) (l:JM ZM) (hb:Hp),
  Hb=(g,Yp [.one (.int .i64 r.copies),.one (.map (some mb)),.one (.pointer (some ⟨bb,0,none⟩))] 78)::(mb,o)::hb∧BagIs bb r.most N (r.bag.map Vl) hb∧jmO ZM.enc o l∧RIs M r l
theorem RingIs.intro{g:Nat}{N:Int}{r:Rg}{M:Mem}{mb d:Nat}{o:Obj}{l:JM ZM}{hb:Hp}(h1:BagIs d r.most N (r.bag.map Vl) hb)(h2:jmO ZM.enc o l)(h3:RIs M r l):
 RingIs g N r M ((g,Yp [.one (.int .i64 r.copies),.one (.map (some mb)),.one (.pointer (some ⟨d,0,none⟩))] 78)::(mb,o)::hb):=⟨mb,d,o,l,hb,rfl,h1,h2,h3⟩
theorem RingIs.mono{g:Nat}{N N':Int}{r:Rg}{M M':Mem}{Hb:Hp}(h:RingIs g N r M Hb)(d:N≤N')(hm:M.le M'):RingIs g N' r M' Hb:=by
 obtain⟨mb,j,o,l,hb,rfl,h1,h2,h3⟩:=h;exact RingIs.intro (h1.mono d) h2 (h3.mono hm)
theorem RingIs.few{g:Nat}{N:Int}{r:Rg}{M:Mem}{Hb:Hp}(h:RingIs g N r M Hb):r.nodes.length≤16:=by
 obtain⟨mb,d,o,l,hb,rfl,h1,h2,h3⟩:=h;exact h3.few
theorem Sn{c:Prop}[Decidable c]{a b:Nd×List Snd}(ha:a.2.length≤1)(hb:b.2.length≤1):(if c then a else b).2.length≤1:=by split <;> assumption
theorem Zob(n:Nd):(UD n).2.length≤1:=by
 refine Sn (B9 _) (Sn (C3 _) (B9 _))
theorem Ztf(n:Nd):(JB n).2.length≤1:=by
 refine Sn (C3 _) (Sn (C3 _) (Sn (C3 _) (B9 _)))
theorem Zhi(n:Nd):(UA n).2.length≤1:=by
 unfold UA;grind
theorem Znz(n:Nd)(k:Int):(Vf n k).2.1.length≤1:=by
 unfold Vf;split
 ·exact Sn (Zob n) (Sn (Ztf n) (Zhi n))
 decide
theorem Zhh(n:Nd)(l:Lt):(YF n l).2.length≤1:=by
 refine Sn (C3 _) (Sn (Sn (C3 _) (Sn (C3 _) (C3 _))) (Sn (C3 _) (B9 _)))
theorem Zny(n:Nd)(l:Lt):(Si n l).2.length≤1:=by
 unfold Si;grind
theorem Zoc(n:Nd)(l:Lt):(SN n l).length≤1:=by
 unfold SN;grind
theorem Zoa(n:Nd)(l:Lt):(WI n l).2.1.length≤1:=by
 unfold WI;split
 ·split
  ·exact C3 _
  split
  ·exact Zoc n l
  split
  ·exact Zhh n l
  split
  ·show(if n.joined=true then _ else _:List Snd).length≤1;split <;> simp
  split
  ·exact Zny n l
  split
  ·exact C3 _
  split
  ·exact B9 _
  split
  ·exact C3 _
  exact C3 _
 exact C3 _
theorem EU(n:Nd):(Sq n).1.length≤2:=by
 unfold Sq;grind
theorem IA{r:Rg}{frm:Int}{l:List YD}{k:Nat}(hk:k<l.length):Tq r frm (QV (l.take (k+1)))=Zmc (Tq r frm (QV (l.take k))) frm (l[k]).snd:=by
 rw[C9,A7 hk];unfold Tq QV;grind
theorem RingIs.sent{g:Nat}{N:Int}{r:Rg}{M:Mem}{mb d:Nat}{o:Obj}{l:JM ZM}{hb:Hp}{frm:Int}{s:Snd}(h1:BagIs d r.most N ((TY r.most r.bag ⟨frm,s.to,s.letter⟩).map Vl) hb)(h2:jmO ZM.enc o l)(h3:RIs M r l)(j:SB s.letter.req):
 RingIs g N (Zmc r frm s) M ((g,Yp [.one (.int .i64 r.copies),.one (.map (some mb)),.one (.pointer (some ⟨d,0,none⟩))] 78)::(mb,o)::hb):=by
 rw[Aj];exact RingIs.intro (r:={ r with bag:=TY r.most r.bag ⟨frm,s.to,s.letter⟩ }) h1 h2 (h3.bag (Zki h3.mail j))
theorem Zmy{r:Rg}{N:Int}{j:Nat}{hb:Hp}{frm d:Int}{lt:Lt}{b:ByteArray}(y:SP lt)(v:SB lt.req)(g:b=body lt)(h:BagIs j r.most N (Zge ⟨frm,d,b⟩ r.most (r.bag.map Vl)) hb):
 BagIs j r.most N ((TY r.most r.bag ⟨frm,d,lt⟩).map Vl) hb:=by
 subst g;rw[← Zgd (m:=⟨frm,d,lt⟩) ⟨y,v⟩];exact h
theorem Zsi{r:Rg}{N:Int}{g:Nat}{hb:Hp}{frm d:Int}{lt:Lt}(j:¬SP lt)(h:BagIs g r.most N (r.bag.map Vl) hb):BagIs g r.most N ((TY r.most r.bag ⟨frm,d,lt⟩).map Vl) hb:=by
 rw[Zkj j];exact h
theorem Zsm{l:List YD}(h:Kq (QV l)){k:Nat}(hk:k<l.length):SB (l[k]).letter.lt.req:=h (l[k]).snd (G8 (C1 hk))
theorem MO(r:Rg)(frm:Int)(l:List Snd):(Tq r frm l).most=r.most∧(Tq r frm l).copies=r.copies∧(Tq r frm l).nodes=r.nodes:=by
 rw[NX];exact⟨rfl,rfl,rfl⟩
theorem Rw{r:Rg}{i:Int}(h:¬(0≤i∧i<r.bag.length)):XL r i=(r,7):=A4 h
theorem OS{r:Rg}{k:Nat}(h:k<r.bag.length):XL r k=(match YC (r.bag[k]).zto r.nodes with
 | none=>({ r with bag:=r.bag.eraseIdx k },0)
 | some n=>if(WI n (r.bag[k]).lt).2.2=0 then(Tq { r with bag:=r.bag.eraseIdx k,nodes:=WM (r.bag[k]).zto (WI n (r.bag[k]).lt).1 r.nodes } (r.bag[k]).zto (WI n (r.bag[k]).lt).2.1,0)else({ r with bag:=r.bag.eraseIdx k },0)):=by
 unfold XL;grind
theorem DN{r:Rg}{k:Nat}:((r.bag.map Vl).eraseIdx k)=(r.bag.eraseIdx k).map Vl:=by rw[PE]
theorem Rx{r:Rg}{k:Nat}{m:Ml}(hk:k<r.bag.length)(hm:r.bag[k]=m)(h:YC m.zto r.nodes=none):XL r k=({ r with bag:=r.bag.eraseIdx k },0):=by
 rw[OS hk,hm,h]
theorem Rb{r:Rg}{k:Nat}{m:Ml}{n n1:Nd}{s:List Snd}(hk:k<r.bag.length)(hm:r.bag[k]=m)(h:YC m.zto r.nodes=some n)(h1:n1=(WI n m.lt).1)(h2:s=(WI n m.lt).2.1)(h3:(WI n m.lt).2.2=0):
 XL r k=(Tq { r with bag:=r.bag.eraseIdx k,nodes:=WM m.zto n1 r.nodes } m.zto s,0):=by
 rw[OS hk,hm,h,h1,h2];grind
theorem ND{r:Rg}{k:Nat}{m:Ml}{n:Nd}(hk:k<r.bag.length)(hm:r.bag[k]=m)(h:YC m.zto r.nodes=some n)(h3:¬(WI n m.lt).2.2=0):XL r k=({ r with bag:=r.bag.eraseIdx k },0):=by
 rw[OS hk,hm,h];grind
theorem Bq{r:Rg}{i:Int}(h:¬(XL r i).2=0):XL r i=(r,7):=by
 by_cases hi:0≤i∧i<r.bag.length
 ·obtain⟨k,rfl⟩:∃ k:Nat,i=k:=⟨i.toNat,by omega⟩
  exfalso;apply h;rw[OS jD];grind
 exact Rw hi
theorem RIs.some{M:Mem}{r:Rg}{l:JM ZM}(h:RIs M r l){a:Int}{x:ZM}(hx:(Wm l a).getD ZM.zero=x)(hs:(Wm l a).isSome=true):YC a r.nodes=some x.nd∧ZM.ok M x:=by
 cases hg:Wm l a with
 | none=>rw[hg]at hs;cases hs
 | some v =>
  rw[hg]at hx;subst hx;exact⟨by rw[← h.get a,hg];rfl,h.ok _ (Db hg)⟩
theorem RIs.none{M:Mem}{r:Rg}{l:JM ZM}(h:RIs M r l){a:Int}(hs:(Wm l a).isSome=false):YC a r.nodes=Option.none:=by
 rw[← h.get a];simp_all
theorem Pg{n:Nat}{r:Rg}(h:(XL r 0).2=0):Va (n+1) r=Va n (XL r 0).1:=A6 h
theorem Dt{n:Nat}{r:Rg}(h:¬(XL r 0).2=0):Va n r=r:=by
 cases n with
 | zero=>rfl
 | succ n=>exact A4 h
theorem QU{r:Rg}{a k:Int}(h:YC a r.nodes=none):RF r a k=(r,7):=by unfold RF;rw[h]
theorem PU{r:Rg}{a k:Int}{n n1:Nd}{s:List Snd}(h:YC a r.nodes=some n)(h1:n1=(Vf n k).1)(h2:s=(Vf n k).2.1)(h3:(Vf n k).2.2=0):RF r a k=(Tq { r with nodes:=WM a n1 r.nodes } a s,0):=by
 unfold RF;rw[h,h1,h2];grind
theorem HG{r:Rg}{a k:Int}{n:Nd}(h:YC a r.nodes=some n)(h3:¬(Vf n k).2.2=0):RF r a k=(r,(Vf n k).2.2):=by
 unfold RF;rw[h];grind
theorem De{b:Bool}(h:(!b)=true):b=false:=by simpa using h
theorem Oj{b:Bool}(h:(!b)=false):b=true:=by simpa using h
def FlEq(F k:Nat)(r r1:Rg):Prop:=Va F r=Va (F-k) r1
theorem FlEq.step{F k:Nat}{r r1:Rg}(h:FlEq F k r r1)(hk:k<F)(h0:(XL r1 0).2=0):FlEq F (k+1) r (XL r1 0).1:=by
 unfold FlEq at *;rw[h,show F-k=(F-(k+1))+1 by omega,Pg h0]
theorem FlEq.ends{F k:Nat}{r r1:Rg}(h:FlEq F k r r1)(h0:¬(XL r1 0).2=0):Va F r=r1:=by
 rw[h,Dt h0]
theorem FlEq.full{F:Nat}{r r1:Rg}(h:FlEq F F r r1):Va F r=r1:=by
 rw[h,Nat.sub_self];rfl
theorem Oz{r:Rg}{a:Int}{X:Nd×Int}{n:Nd}(h:X.2=0)(e:n=X.1):Tg r a X=({ r with nodes:=WM a n r.nodes },0):=by
 unfold Tg;rw[A6 h,e]
theorem KF{r:Rg}{a:Int}{X:Nd×Int}(h:¬X.2=0):Tg r a X=(r,X.2):=A4 h
theorem EO{r:Rg}:r.nodes≠[]↔0<r.nodes.length:=by
 cases r.nodes <;> simp
theorem DM{pn:Int→Zr}{r:Rg}{a:Int}(h:¬Yf a):Td pn r a=(r,1):=A6 h
theorem Hw{pn:Int→Zr}{r:Rg}{a:Int}(h:Yf a)(h1:0<r.nodes.length):Td pn r a=(r,13):=by
 unfold Td;rw[A4 (fun h9=>h9 h),A6 (EO.2 h1)]
theorem OU{pn:Int→Zr}{r:Rg}{a:Int}(h:Yf a)(h1:¬0<r.nodes.length):Td pn r a=Tg r a (Uk (pn a) r.copies):=by
 unfold Td;rw[A4 (fun h9=>h9 h),A4 (fun h9=>h1 (EO.1 h9))]
section
variable {pn:Int→Zr} {r:Rg} {a b:Int}
theorem Kj(h:Yf a∧Yf b∧¬a=b):¬(¬Yf a∨¬Yf b∨a=b):=fun h9=>h9.elim (fun q=>q h.1) (fun h9=>h9.elim (fun q=>q h.2.1) h.2.2)
theorem OJ(h:¬Yf a∨¬Yf b∨a=b):Us pn r a b=(r,1):=A6 h
theorem OI(h:Yf a∧Yf b∧¬a=b)(h1:(YC a r.nodes).isSome=true):Us pn r a b=(r,9):=by
 unfold Us;rw[A4 (Kj h),A6 h1]
theorem Mj(h:Yf a∧Yf b∧¬a=b)(h1:(YC a r.nodes).isSome=false)(h2:16≤r.nodes.length):Us pn r a b=(r,12):=by
 unfold Us;rw[A4 (Kj h),A4 (by rw[h1];decide),A6 h2]
theorem Oi(h:Yf a∧Yf b∧¬a=b)(h1:(YC a r.nodes).isSome=false)(h2:¬16≤r.nodes.length)(h3:(YC b r.nodes).isSome=false):Us pn r a b=(r,7):=by
 unfold Us;rw[A4 (Kj h),A4 (by rw[h1];decide),A4 h2,A6 h3]
theorem Mi(h:Yf a∧Yf b∧¬a=b)(h1:(YC a r.nodes).isSome=false)(h2:¬16≤r.nodes.length)(h3:(YC b r.nodes).isSome=true):Us pn r a b=Tg r a (Ur (pn a) r.copies b):=by
 unfold Us;rw[A4 (Kj h),A4 (by rw[h1];decide),A4 h2,A4 (by rw[h3];decide)]
end
theorem RIs.isS{M:Mem}{r:Rg}{l:JM ZM}(h:RIs M r l)(a:Int):(Wm l a).isSome=(YC a r.nodes).isSome:=by
 rw[← h.get a];simp
theorem Mr{r:Rg}{kind a:Int}(h:YC a r.nodes=none):Ts r kind a=(r,7):=by unfold Ts;rw[h]
theorem IY{r:Rg}{a:Int}{n:Nd}{s:List Snd}(h:YC a r.nodes=some n)(hs:s=(Sq n).1):Ts r 3 a=({ Tq r a s with nodes:=AY a r.nodes },0):=by
 unfold Ts;rw[h,hs];rfl
theorem IZ{r:Rg}{kind a:Int}{n:Nd}(h:YC a r.nodes=some n)(hk:¬kind=3):Ts r kind a=({ r with nodes:=AY a r.nodes },0):=by
 unfold Ts;rw[h];grind
section
variable {pn:Int→Zr} {r:Rg} {t:Trn}
theorem do1(h:t.kind=1):doR pn r t=Td pn r t.a:=A6 h
theorem do2(h:t.kind=2):doR pn r t=Us pn r t.a t.b:=by unfold doR;rw[A4 (by omega),A6 h]
theorem Zxi(h:t.kind=3∨t.kind=4):doR pn r t=Ts r t.kind t.a:=by unfold doR;rw[A4 (by omega),A4 (by omega),A6 h]
theorem do5(h:t.kind=5):doR pn r t=RF r t.a t.b:=by unfold doR;rw[A4 (by omega),A4 (by omega),A4 (by omega),A6 h]
theorem do6(h:t.kind=6):doR pn r t=XL r t.a:=by unfold doR;rw[A4 (by omega),A4 (by omega),A4 (by omega),A4 (by omega),A6 h]
theorem do7(h:t.kind=7):doR pn r t=Gy r t.a:=by unfold doR;rw[A4 (by omega),A4 (by omega),A4 (by omega),A4 (by omega),A4 (by omega),A6 h]
theorem do8(h:t.kind=8):doR pn r t=SR r t.a:=by unfold doR;rw[A4 (by omega),A4 (by omega),A4 (by omega),A4 (by omega),A4 (by omega),A4 (by omega),A6 h]
theorem do9(h:t.kind=9):doR pn r t=(VI r,0):=by unfold doR;rw[A4 (by omega),A4 (by omega),A4 (by omega),A4 (by omega),A4 (by omega),A4 (by omega),A4 (by omega),A6 h]
theorem do0(h:¬(1≤t.kind∧t.kind≤9)):doR pn r t=(r,13):=by unfold doR;rw[A4 (by omega),A4 (by omega),A4 (by omega),A4 (by omega),A4 (by omega),A4 (by omega),A4 (by omega),A4 (by omega)]
end
theorem Zjr(r:Rg)(i:Int):atC i (r.bag.map Vl)=(Gy r i).2∧Zwb i (r.bag.map Vl)=(Gy r i).1.bag.map Vl∧(Gy r i).1={ r with bag:=(Gy r i).1.bag }∧∀ m∈(Gy r i).1.bag,m∈r.bag:=by
 unfold Gy;by_cases h:0≤i∧i<r.bag.length
 ·rw[A6 h];obtain⟨k,rfl⟩:∃ k:Nat,i=k:=⟨i.toNat,by omega⟩
  refine⟨Ko.2 (by rw[A8];exact h),?_,rfl,fun m hm=>List.mem_of_mem_eraseIdx hm⟩;rw[Cr,DN];rfl
 rw[A4 h];have d:atC i (r.bag.map Vl)=7:=by
  unfold atC;rw[A6 zC]
 exact⟨d,KC (by rw[d];decide),rfl,fun m hm=>hm⟩
theorem Zmi{r:Rg}(i:Int)(hm:∀ m∈r.bag,Zqy m):Eg i r.most (r.bag.map Vl)=(SR r i).2∧Ef i r.most (r.bag.map Vl)=(SR r i).1.bag.map Vl∧(SR r i).1={ r with bag:=(SR r i).1.bag }∧∀ m∈(SR r i).1.bag,m∈r.bag:=by
 unfold SR Eg Ef;by_cases h:0≤i∧i<r.bag.length
 ·rw[A6 h];obtain⟨k,rfl⟩:∃ k:Nat,i=k:=⟨i.toNat,by omega⟩
  have hk:k<r.bag.length:=by omega
  have h0:atC (k:Int) (r.bag.map Vl)=0:=Ko.2 (by rw[A8];exact h);have g:atM (k:Int) (r.bag.map Vl)=Vl r.bag[k]:=by
   have h9:=(Zrm k (r.bag.map Vl) (by rw[A8];exact hk)).1;rw[I7]at h9;exact h9
  simp only[Int.toNat_natCast,A7 hk];have h1:=DK (hm _ (C1 hk)).1 (hm _ (C1 hk)).2;have d:¬(4096:Int)<((Vl r.bag[k]).body.size:Int):=by
   show¬(4096:Int)<((body (r.bag[k]).lt).size:Int);omega
  by_cases hf:(r.bag.length:Int)<r.most
  ·rw[A6 hf];obtain⟨g1,g2⟩:=Zqw (Vl r.bag[k]) r.most (r.bag.map Vl) d zC;grind
  rw[A4 hf];obtain⟨g1,g2⟩:=Ai (Vl r.bag[k]) r.most (r.bag.map Vl) d zC;grind
 rw[A4 h];have j:atC i (r.bag.map Vl)=7:=by
  unfold atC;rw[A6 zC]
 grind
theorem RingIs.rebag{g:Nat}{N:Int}{r d:Rg}{M:Mem}{mb j:Nat}{o:Obj}{l:JM ZM}{hb:Hp}(h1:BagIs j r.most N (d.bag.map Vl) hb)(h2:jmO ZM.enc o l)(h3:RIs M r l)(he:d={ r with bag:=d.bag })(hm:∀ m∈d.bag,m∈r.bag):
 RingIs g N d M ((g,Yp [.one (.int .i64 r.copies),.one (.map (some mb)),.one (.pointer (some ⟨j,0,none⟩))] 78)::(mb,o)::hb):=by
 rw[he];exact RingIs.intro (r:={ r with bag:=d.bag }) h1 h2 (h3.bag fun m h9=>h3.mail m (hm m h9))
end Go.Esp
namespace Go.Proofs.YtglnjnacodgmaaaGreatDoor
open Go.Esp
theorem F.bld78:Bld Tryz.prog 78 [[.one (.int .i64 0)],[.one (.map none)],[.one (.pointer none)]]:=⟨by kernel_rfl,by kernel_rfl⟩
theorem F.bld82:Bld Tryz.prog 82 [[.one (.int .i64 0)],[.one (.int .i64 0)],[.one (.string ⟨#[]⟩)]]:=⟨by kernel_rfl,by kernel_rfl⟩
theorem F.lay169:lay Tryz.prog 169=some (true,68):=by kernel_rfl
theorem Zgb(M:Mem)(c most:Int)(K:1≤c∧c≤8)(hm:1≤most∧most≤1000):Fh Tryz.prog 8 [.int .i64 c,.int .i64 most] M [] (fun M' v Hb=>∃ D,v=.tuple #[.pointer (some ⟨D,0,none⟩),.int .i64 0]∧RingIs D 0 ⟨c,most,[],[]⟩ M' Hb):=by
 refine YI (fun H=>[]++H) (fun _=>rfl) Tryz.func8 rfl Tryz.ntmps8 rfl ?_;intro H;refine S9 ?_;refine We (B.New_ok M most hm) ?_;rintro _ U hb R ⟨O,T,rfl,g⟩;subst U;refine S13 ?_;refine YE 15 (eT fun d=>?_) (eF fun d=>?_)
 ·(exfalso;simp[eqX]at d;done)
 refine S4 ?_;refine YE 19 (cT fun y=>?_) (cF fun y=>?_)
 ·(exfalso;omega)
 refine S5 ?_;refine Xb (cT fun C=>?_) (cF fun C=>?_)
 ·(exfalso;omega)
 refine S6 ?_;intro j;refine Stp ?_;refine XN rfl rfl F.bld78 (.cons rfl jG (.cons rfl jG (.cons rfl jG .nil))) rfl rfl ?_;refine Stp ?_;intro L;refine S5 ?_;refine ZH fun w hw=>?_;exact⟨_,M,(L,Yp [.one (.int .i64 c),.one (.map (some j)),.one (.pointer (some ⟨T,0,none⟩))] 78)::(j,.map #[] 0)::hb,rfl,Mem.le.refl M,hw.c,_,rfl,RingIs.intro (r:=⟨c,most,[],[]⟩) (mb:=j) g (jmO.nil _) (RIs.nil M c most K)⟩
theorem Zvi(M:Mem)(l:ZI)(d:ZI.ok M l)(j:SB l.lt.req):Fs Tryz.prog 104 [l.enc] M (fun v=>∃(b:ByteArray) (e:Int),v=.tuple #[.string b,.int .i64 e]∧((SP l.lt∧e=0∧b=body l.lt)∨(¬SP l.lt∧e=1))):=by
 by_cases h:SP l.lt
 ·exact fun H w hw=>(Put_ok M l d h j H w hw).mono fun e g ⟨v,g1,g2,g3⟩=>⟨v,g1,g2,_,_,g3,.inl ⟨h,rfl,rfl⟩⟩
 exact fun H w hw=>(Zye M l d h H w hw).mono fun e g ⟨v,g1,g2,g3⟩=>⟨v,g1,g2,_,_,g3,.inr ⟨h,rfl⟩⟩
theorem HH(M:Mem)(gb:Nat)(N:Int)(r:Rg)(Hb:Hp)(hR:RingIs gb N r M Hb)(frm:Int)(l:Sl YD)(ar:SlK M YD.segs 68 l)(ak:∀ y∈l.l,YD.ok M y)(hq:Kq (QV l.l))(hN:N+l.l.length≤1000000000000000):Fh Tryz.prog 67 [.pointer (some ⟨gb,0,none⟩),.int .i64 frm,Sl.val l] M Hb (fun M' v az=>M'=M∧v=.tuple #[]∧RingIs gb (N+l.l.length) (Tq r frm (QV l.l)) M az):=by
 obtain⟨a1,bd,d⟩:=l;have a7:SlM M a1 (d.map YD.segs) 68:=ar.h1;have a8:(d.map YD.segs).length=d.length:=A8 ..;have a6:d.length≤9223372036854775807:=ar.h2;simp only at hq hN ak ⊢;refine YI (fun H=>Hb++H) (fun _=>rfl) Tryz.func67 rfl Tryz.ntmps67 rfl ?_;intro H;refine S8 ?_;refine VG [12,11,10,0,1] ?_;refine XV (Hin:=Hb) (.succ .zero) jA (fun(k:Nat) M1 h1 z=>M1=M∧z=[(12,.int .i64 (k:Int))]∧k≤d.length∧RingIs gb (N+k) (Tq r frm (QV (d.take k))) M h1) (fun k=>d.length-k) (0) (⟨rfl,rfl,by omega,by simpa[QV,Tq]using hR⟩) ?_;rintro k M1 h1 z ba ⟨ay,rfl,hk,ao⟩;obtain rfl:=ay.symm;obtain⟨r1,V⟩:∃ r1,Tq r frm (QV (d.take k))=r1:=⟨_,rfl⟩
 rw[V]at ao;obtain⟨mb,bb,o,jl,hb,rfl,Z,ag,hri⟩:=ao;refine S6 ?_;refine Xb (cT fun au=>?_) (cF fun au=>?_)
 ·refine S5 ?_;obtain⟨⟨aj,⟨ab,⟨j,U⟩,ah,aq,⟨O,D,C⟩,ae,⟨g,L⟩,⟨K,T,R⟩⟩⟩,ad⟩:∃ s,d[k]'jD=s:=⟨_,rfl⟩
  have aa:=Zsm hq (show k<d.length by omega);have an:=ak _ (C1 (show k<d.length by omega));rw[ad]at aa an;refine S3 ?_;simp only[H9,ad];refine Stp ?_;intro b2;refine UE rfl rfl rfl rfl jG jL jH F.lay169 jC (Sm (m:=68) rfl jC jC) ?_;refine S6 ?_;refine Vn (Zvi M ⟨ab,⟨j,U⟩,ah,aq,⟨O,D,C⟩,ae,⟨g,L⟩,⟨K,T,R⟩⟩ an.h0 aa) ?_;rintro _ ⟨b9,e9,rfl,al⟩;refine S13 ?_;refine Xb (cT fun ax=>?_) (cF fun ax=>?_)
  ·refine Um (l:=[0,1,2,3,4,5,6,7,8,9]) (Hin:=hb) #[0,1,3,7,0,0,32,0,240,511] jA rfl jI jI ?_;refine S8 ?_;refine XN rfl rfl F.bld82 (.cons rfl jG (.cons rfl jG (.cons rfl jG .nil))) rfl rfl ?_;refine We (B.Put_ok M bb _ _ _ hb ⟨frm,aj,b9⟩ jD Z) ?_;rintro _ M2 aw bf ⟨bc,rfl,ai⟩;subst M2;refine S7 ?_;refine YO (a':=[(12,_)]) (k+1) (((gb,Yp [.one (.int .i64 r1.copies),.one (.map (some mb)),.one (.pointer (some ⟨bb,0,none⟩))] 78)::(mb,o)::aw)) (.cons (k:=12) rfl (.cons (k:=11) rfl (.cons (k:=10) rfl (.cons (k:=0) rfl (.cons (k:=1) rfl (.nil)))))) jO (fun w hw=>by first|exact hw|exact hw.c) ?_ ?_
   ·refine⟨rfl,rfl,by omega,?_⟩;rw[IA jD,V,ad,show N+((k+1:Nat):Int)=N+k+1 by omega];rcases al with⟨g1,g2,g3⟩|⟨g1,g2⟩
    ·exact RingIs.sent (Zmy g1 aa g3 ai) ag hri aa
    exact absurd (show e9=0 by assumption) jD
   omega
  refine S7 ?_;refine YO (a':=[(12,_)]) (k+1) (((gb,Yp [.one (.int .i64 r1.copies),.one (.map (some mb)),.one (.pointer (some ⟨bb,0,none⟩))] 78)::(mb,o)::hb)) (.cons (k:=12) rfl (.cons (k:=11) rfl (.cons (k:=10) rfl (.cons (k:=0) rfl (.cons (k:=1) rfl (.nil)))))) jO (fun w hw=>by first|exact hw|exact hw.c) ?_ ?_
  ·refine⟨rfl,rfl,by omega,?_⟩;rw[IA jD,V,ad,show N+((k+1:Nat):Int)=N+k+1 by omega];rcases al with⟨g1,g2,g3⟩|⟨g1,g2⟩
   ·exact absurd g2 jE
   exact RingIs.sent (Zsi g1 (Z.mono jD)) ag hri aa
  omega
 refine S4 ?_;refine ZH fun w hw=>?_;obtain rfl:k=d.length:=by omega
 rw[G0]at V;exact⟨_,M,_,rfl,Mem.le.refl M,hw.c,rfl,rfl,by rw[V];exact RingIs.intro Z ag hri⟩
theorem F.ok67:Ta Tryz.prog 67=true:=by kernel_rfl
theorem Zde(M:Mem)(C:Nat)(N:Int)(r:Rg)(Hb:Hp)(T:RingIs C N r M Hb)(i:Int)(hi:¬(0≤i∧i<r.bag.length)):Fh Tryz.prog 32 [.pointer (some ⟨C,0,none⟩),.int .i64 i] M Hb (fun M' v O=>v=.int .i64 (XL r i).2∧RingIs C N (XL r i).1 M' O):=by
 obtain⟨mb,F,o,Z,hb,rfl,y,L,hri⟩:=T;refine YI (fun H=>(C,Yp [.one (.int .i64 r.copies),.one (.map (some mb)),.one (.pointer (some ⟨F,0,none⟩))] 78)::(mb,o)::(hb++H)) (fun _=>by simp only[B5,B4,B6]) Tryz.func32 rfl Tryz.ntmps32 rfl ?_;intro H;refine S6 ?_;refine Xv (l:=[0,1,2,3,4,5,6,7,8,9,10,11]) (Hin:=hb) jA rfl ?_;refine S5 ?_;refine We (B.Take_ok M F r.most N (r.bag.map Vl) hb i y) ?_;rintro v1 V D U ⟨R,j,d⟩;subst V;have g:atM i (r.bag.map Vl)=YQ.zero∧atC i (r.bag.map Vl)=7:=Bz i _ zC;rw[g.1,g.2]at j;subst j;rw[KC (by rw[g.2];decide)]at d;refine S4 ?_;intro b1;refine S11 ?_;refine Xb (eT fun K=>?_) (eF fun K=>?_)
 ·refine S8 ?_;refine ZH fun w hw=>?_;refine⟨_,M,_,rfl,Mem.le.refl M,hw.cnt (H':=((C,Yp [.one (.int .i64 r.copies),.one (.map (some mb)),.one (.pointer (some ⟨F,0,none⟩))] 78)::(mb,o)::D)++H) jF,?_⟩;rw[Rw hi];exact⟨rfl,RingIs.intro d L hri⟩
 (exfalso;omega)
theorem Zdf(M:Mem)(O:Nat)(N:Int)(r:Rg)(Hb:Hp)(hR:RingIs O N r M Hb)(k:Nat)(hk:k<r.bag.length)(hN:N+1≤1000000000000000):Fh Tryz.prog 32 [.pointer (some ⟨O,0,none⟩),.int .i64 (k:Int)] M Hb (fun M' v a1=>v=.int .i64 (XL r k).2∧RingIs O (N+1) (XL r k).1 M' a1):=by
 obtain⟨mb,bb,o,jl,hb,rfl,an,L,hri⟩:=hR;obtain⟨⟨C,d,K⟩,hm⟩:∃ m,r.bag[k]=m:=⟨_,rfl⟩
 have Z:Zqy ⟨C,d,K⟩:=by rw[← hm];exact hri.mail _ (C1 _)
 have D:=hri.bag (b:=r.bag.eraseIdx k) (fun x hx=>hri.mail x (List.mem_of_mem_eraseIdx hx));refine YI (fun H=>(O,Yp [.one (.int .i64 r.copies),.one (.map (some mb)),.one (.pointer (some ⟨bb,0,none⟩))] 78)::(mb,o)::(hb++H)) (fun _=>by simp only[B5,B4,B6]) Tryz.func32 rfl Tryz.ntmps32 rfl ?_;intro H;refine S6 ?_;refine Xv (l:=[0,1,2,3,4,5,6,7,8,9,10,11]) (Hin:=hb) jA rfl ?_;refine S5 ?_;refine We (B.Take_ok M bb r.most N (r.bag.map Vl) hb (k:Int) an) ?_;rintro v1 M1 V a8 ⟨ba,ag,g⟩;subst M1;have ab:atM (k:Int) (r.bag.map Vl)=(⟨C,d,body K⟩:YQ)∧atC (k:Int) (r.bag.map Vl)=0:=by
  have h9:=Zrm k (r.bag.map Vl) zC;rw[I7,hm]at h9;exact h9
 rw[ab.1,ab.2]at ag;subst ag;rw[Cr,DN]at g;refine S4 ?_;intro b1;refine S11 ?_;refine Xb (eT fun ak=>?_) (eF fun ak=>?_)
 ·(exfalso;simp[eqX]at ak;done)
 refine S3 ?_;refine Ya (l:=[0,1,2,3,4,5,6,7,8,9,10,11,12]) #[0,1,3,7,0,16,63,127,255,255,0,1535,4095] _ rfl jI jI St.drawn (fun _ h=>h) ?_;refine S6 ?_;refine RS (en:=ZM.enc) (z:=ZM.zero) rfl rfl rfl rfl ⟨Tryz.underlying3⟩ Tryz.underlying76 (show _=some (ZM.enc ZM.zero)from F.zero44) jB L rfl ?_;obtain⟨⟨⟨⟨XT,Ws⟩,⟨XU,Wt⟩,⟨Ww,Wv,Wu⟩,⟨XI,XH,XG⟩⟩,TN,TJ,RW,TM,PR,Sy,TO,TI,UP,TK,UQ,TL,⟨UT,US,UR⟩,RV,RU⟩,ai⟩:∃ x:ZM,(Wm jl (d)).getD ZM.zero=x:=⟨_,rfl⟩
 rw[ai];refine S4 ?_;intro b3;refine XX F.lay44 ?_;refine S7 ?_;refine PH (Zyl M K Z.1 Z.2) ?_;rintro _ M2 j ⟨⟨ZF,⟨ZE,ZT⟩,ZX,aj,⟨ZP,ZQ,ZD⟩,ZS,⟨Zy,ZG⟩,⟨ZO,ZN,ZC⟩⟩,rfl,ad,el⟩;refine S4 ?_;intro b4;refine UE rfl rfl rfl rfl jG jL jH F.lay128 jC (Sm (m:=67) rfl jC jC) ?_;refine S9 ?_;refine YE 43 (fun ao=>?_) (fun ao=>?_)
 ·skip
  refine S13 ?_;refine ZH fun w hw=>?_;have az:YC d r.nodes=none:=hri.none (by exact De jE);have U:XL r k=_:=Rx hk hm az;exact⟨_,M2,_,rfl,j,hw.cnt (H':=((O,Yp [.one (.int .i64 r.copies),.one (.map (some mb)),.one (.pointer (some ⟨bb,0,none⟩))] 78)::(mb,o)::V)++H) jF,by rw[U];rfl,by rw[U];exact RingIs.intro (g.mono jD) L (D.mono j)⟩
 skip
 refine S5 ?_;refine Xb (eT fun aa=>?_) (eF fun aa=>?_)
 ·(exfalso;simp[eqX]at aa;done)
 simp only[Zr.eta,ZK.eta,ZM.eta,ZI.eta,YD.eta,YQ.eta,XM.eta,YT.eta,ZW.eta,XF.eta,Yk.eta]at aa;refine S4 ?_;have T:=hri.some ai (by exact Oj jE);refine S3 ?_;refine PH (Take_ok M2 ⟨⟨⟨XT,Ws⟩,⟨XU,Wt⟩,⟨Ww,Wv,Wu⟩,⟨XI,XH,XG⟩⟩,TN,TJ,RW,TM,PR,Sy,TO,TI,UP,TK,UQ,TL,⟨UT,US,UR⟩,RV,RU⟩ ⟨ZF,⟨ZE,ZT⟩,ZX,aj,⟨ZP,ZQ,ZD⟩,ZS,⟨Zy,ZG⟩,⟨ZO,ZN,ZC⟩⟩ (T.2.mono j) ad) ?_;rintro _ M3 R hv;rw[el]at hv;revert hv;rintro⟨⟨⟨⟨YV,Xh⟩,⟨YW,Xi⟩,⟨Xo,Xn,Xm⟩,⟨YZ,YY,YX⟩⟩,Vt,Vp,UO,Vs,Sr,VY,Vu,Vo,WP,Vq,WQ,Vr,⟨WT,WS,WR⟩,UM,UL⟩,⟨ay,au,y⟩,rfl,ey,sy,ah,kq,oq⟩;simp only[Sl.val];try simp only at ey sy ah kq oq
 refine S5 ?_;intro b7;refine XX F.lay44 ?_;refine S10 ?_;refine Xb (cT fun ar=>?_) (cF fun ar=>?_)
 ·refine Stp ?_;refine Um (l:=[0,1,2,3,4,5,6,7]) (Hin:=[(mb,o)]) #[0,1,3,7,0,16,0,127] jA rfl jI jI ?_;refine S7 ?_;refine Ov (en:=ZM.enc) (v:=⟨⟨⟨YV,Xh⟩,⟨YW,Xi⟩,⟨Xo,Xn,Xm⟩,⟨YZ,YY,YX⟩⟩,Vt,Vp,UO,Vs,Sr,VY,Vu,Vo,WP,Vq,WQ,Vr,⟨WT,WS,WR⟩,UM,UL⟩) rfl rfl rfl rfl rfl ⟨Tryz.underlying3⟩ Tryz.underlying76 L jB ?_;intro o2 ae;refine⟨_,jH,?_⟩;refine S2 ?_;have aw:RingIs O N ({ r with bag:=r.bag.eraseIdx k,nodes:=WM d (ZM.nd ⟨⟨⟨YV,Xh⟩,⟨YW,Xi⟩,⟨Xo,Xn,Xm⟩,⟨YZ,YY,YX⟩⟩,Vt,Vp,UO,Vs,Sr,VY,Vu,Vo,WP,Vq,WQ,Vr,⟨WT,WS,WR⟩,UM,UL⟩) r.nodes }) M3 ((O,Yp [.one (.int .i64 r.copies),.one (.map (some mb)),.one (.pointer (some ⟨bb,0,none⟩))] 78)::(mb,o2)::V):=RingIs.intro (r:={ r with bag:=r.bag.eraseIdx k,nodes:=WM d (ZM.nd ⟨⟨⟨YV,Xh⟩,⟨YW,Xi⟩,⟨Xo,Xn,Xm⟩,⟨YZ,YY,YX⟩⟩,Vt,Vp,UO,Vs,Sr,VY,Vu,Vo,WP,Vq,WQ,Vr,⟨WT,WS,WR⟩,UM,UL⟩) r.nodes }) g ae ((D.mono (j.trans R)).put (n:=⟨⟨⟨YV,Xh⟩,⟨YW,Xi⟩,⟨Xo,Xn,Xm⟩,⟨YZ,YY,YX⟩⟩,Vt,Vp,UO,Vs,Sr,VY,Vu,Vo,WP,Vq,WQ,Vr,⟨WT,WS,WR⟩,UM,UL⟩) ah (.inl (by rw[T.1];rfl)));have aq:Kq (QV y):=by rw[sy];exact Znd _ _ Z.2
  have bc:(QV y).length≤1:=by rw[sy];exact Zoa _ _
  have bd:(QV y).length=y.length:=A8 ..;refine Yq (l:=[0,1,2,3,4]) [4] rfl ?_;refine S4 ?_;refine DW H rfl rfl rfl F.ok67 rfl (HH M3 O N _ _ aw d ⟨ay,au,y⟩ kq oq aq (by show N+(y.length:Int)≤_;omega)) jF (XK rfl) ?_;rintro _ M5 ax a7 ⟨a6,rfl,al⟩;subst M5;try simp only at al
  refine Stp ?_;refine Xj ?_;refine S7 ?_;refine ZH fun w hw=>?_;have U:XL r k=(Tq ({ r with bag:=r.bag.eraseIdx k,nodes:=WM d (ZM.nd ⟨⟨⟨YV,Xh⟩,⟨YW,Xi⟩,⟨Xo,Xn,Xm⟩,⟨YZ,YY,YX⟩⟩,Vt,Vp,UO,Vs,Sr,VY,Vu,Vo,WP,Vq,WQ,Vr,⟨WT,WS,WR⟩,UM,UL⟩) r.nodes }) d (QV y),0):=Rb hk hm T.1 ey sy jE;exact⟨_,M3,_,rfl,j.trans R,hw.cnt (H':=ax++H) jF,by rw[U];rfl,by rw[U];exact al.mono jD (Mem.le.refl _)⟩
 refine S8 ?_;refine ZH fun w hw=>?_;have U:XL r k=_:=ND hk hm T.1 jE;exact⟨_,M3,_,rfl,j.trans R,hw.cnt (H':=((O,Yp [.one (.int .i64 r.copies),.one (.map (some mb)),.one (.pointer (some ⟨bb,0,none⟩))] 78)::(mb,o)::V)++H) jF,by rw[U];rfl,by rw[U];exact RingIs.intro (g.mono jD) L (D.mono (j.trans R))⟩
theorem JG(M:Mem)(d:Nat)(N:Int)(r:Rg)(Hb:Hp)(j:RingIs d N r M Hb)(i:Int)(B:N+1≤1000000000000000):Fh Tryz.prog 32 [.pointer (some ⟨d,0,none⟩),.int .i64 i] M Hb (fun M' v g=>v=.int .i64 (XL r i).2∧RingIs d (N+1) (XL r i).1 M' g):=by
 by_cases hi:0≤i∧i<r.bag.length
 ·obtain⟨k,rfl⟩:∃ k:Nat,i=k:=⟨i.toNat,by omega⟩
  exact Zdf M d N r Hb j k jD B
 exact fun H w hw=>(Zde M d N r Hb j i hi H w hw).mono fun e C ⟨v,M2,y,g1,g2,g3,g4,g5⟩=>⟨v,M2,y,g1,g2,g3,g4,g5.mono jD (Mem.le.refl _)⟩
theorem Dr(M:Mem)(C:Nat)(N:Int)(r:Rg)(Hb:Hp)(T:RingIs C N r M Hb)(d:Nat)(U:d≤10000∧10000≤d)(V:N+10001≤1000000000000000):Fh Tryz.prog 73 [.pointer (some ⟨C,0,none⟩)] M Hb (fun M' v R=>v=.tuple #[]∧RingIs C (N+d) (Va d r) M' R):=by
 refine YI (fun H=>Hb++H) (fun _=>rfl) Tryz.func73 rfl Tryz.ntmps73 rfl ?_;intro H;refine S6 ?_;refine VG [2,0] ?_;refine XV (Hin:=Hb) (.succ .zero) jA (fun(k:Nat) K h1 z=>∃ r1,z=[(2,.int .i64 (k:Int))]∧k≤d∧RingIs C (N+k) r1 K h1∧FlEq d k r r1) (fun k=>d-k) (0) (⟨r,rfl,by omega,by simpa using T,rfl⟩) ?_;rintro k K h1 z j ⟨r1,rfl,hk,B,g⟩;refine S6 ?_;refine Xb (cT fun L=>?_) (cF fun L=>?_)
 ·refine S5 ?_;refine Xv (l:=[0,1,2]) (Hin:=h1) jA rfl ?_;refine Stp ?_;refine We (JG K C (N+k) r1 h1 B 0 jD) ?_;rintro _ M2 D F ⟨rfl,y⟩;refine S3 ?_;refine Xb (eT fun O=>?_) (eF fun O=>?_)
  ·refine S5 ?_;refine ZH fun w hw=>?_;exact⟨_,M2,D,rfl,j.trans F,hw.c,rfl,by rw[g.ends jE];rw[Bq jE]at y;exact y.mono jD (Mem.le.refl _)⟩
  refine S7 ?_;refine YO (a':=[(2,_)]) (k+1) (D) (.cons (k:=2) rfl (.cons (k:=0) rfl (.nil))) (j.trans F) (fun w hw=>by first|exact hw|exact hw.c) ?_ ?_
  ·refine⟨(XL r1 0).1,rfl,by omega,by rw[show N+((k+1:Nat):Int)=N+k+1 by omega];exact y,?_⟩;exact g.step jD jD
  omega
 refine S4 ?_;refine ZH fun w hw=>?_;obtain rfl:k=d:=by omega
 exact⟨_,K,h1,rfl,j,hw.c,rfl,by rw[g.full];exact B⟩
theorem BV(M:Mem)(y:Nat)(N:Int)(r:Rg)(Hb:Hp)(hR:RingIs y N r M Hb)(a kind:Int)(hN:N+1≤1000000000000000):Fh Tryz.prog 31 [.pointer (some ⟨y,0,none⟩),.int .i64 a,.int .i64 kind] M Hb (fun M' v ar=>v=.int .i64 (RF r a kind).2∧RingIs y (N+1) (RF r a kind).1 M' ar):=by
 obtain⟨mb,bb,o,jl,hb,rfl,g,B,hri⟩:=hR;refine YI (fun H=>(y,Yp [.one (.int .i64 r.copies),.one (.map (some mb)),.one (.pointer (some ⟨bb,0,none⟩))] 78)::(mb,o)::(hb++H)) (fun _=>by simp only[B5,B4,B6]) Tryz.func31 rfl Tryz.ntmps31 rfl ?_;intro H;refine S12 ?_;refine RS (en:=ZM.enc) (z:=ZM.zero) rfl rfl rfl rfl ⟨Tryz.underlying3⟩ Tryz.underlying76 (show _=some (ZM.enc ZM.zero)from F.zero44) jB B rfl ?_;obtain⟨⟨⟨⟨XT,Ws⟩,⟨XU,Wt⟩,⟨Ww,Wv,Wu⟩,⟨XI,XH,XG⟩⟩,TN,TJ,RW,TM,PR,Sy,TO,TI,UP,TK,UQ,TL,⟨UT,US,UR⟩,RV,RU⟩,aa⟩:∃ x:ZM,(Wm jl (a)).getD ZM.zero=x:=⟨_,rfl⟩
 rw[aa];refine S4 ?_;intro b1;refine XX F.lay44 ?_;refine S10 ?_;refine Xb (fun an=>?_) (fun an=>?_)
 ·skip
  refine S7 ?_;refine ZH fun w hw=>?_;have ao:YC a r.nodes=none:=hri.none (by exact De jE);have D:=QU (k:=kind) ao;exact⟨_,M,_,rfl,Mem.le.refl M,hw.cnt (H':=((y,Yp [.one (.int .i64 r.copies),.one (.map (some mb)),.one (.pointer (some ⟨bb,0,none⟩))] 78)::(mb,o)::hb)++H) jF,by rw[D];rfl,by rw[D];exact RingIs.intro (g.mono jD) B hri⟩
 skip
 refine S3 ?_;have j:=hri.some aa (by exact Oj jE);refine S3 ?_;refine PH (Zux M ⟨⟨⟨XT,Ws⟩,⟨XU,Wt⟩,⟨Ww,Wv,Wu⟩,⟨XI,XH,XG⟩⟩,TN,TJ,RW,TM,PR,Sy,TO,TI,UP,TK,UQ,TL,⟨UT,US,UR⟩,RV,RU⟩ kind j.2) ?_;rintro _ M2 C ⟨⟨⟨⟨YV,Xh⟩,⟨YW,Xi⟩,⟨R,Xn,Xm⟩,⟨L,O,YX⟩⟩,T,Vp,UO,Vs,Sr,VY,Vu,U,WP,Vq,K,Vr,⟨WT,WS,V⟩,UM,Z⟩,⟨al,ah,d⟩,rfl,ey,sy,ad,kq,oq⟩;simp only[Sl.val];try simp only at ey sy ad kq oq
 refine S4 ?_;refine XX F.lay44 ?_;refine S11 ?_;refine Xb (cT fun aj=>?_) (cF fun aj=>?_)
 ·refine Stp ?_;refine Um (l:=[0,1,2,3,4,5,6]) (Hin:=[(mb,o)]) #[0,1,3,7,0,0,63] jA rfl jI jI ?_;refine S6 ?_;refine Ov (en:=ZM.enc) (v:=⟨⟨⟨YV,Xh⟩,⟨YW,Xi⟩,⟨R,Xn,Xm⟩,⟨L,O,YX⟩⟩,T,Vp,UO,Vs,Sr,VY,Vu,U,WP,Vq,K,Vr,⟨WT,WS,V⟩,UM,Z⟩) rfl rfl rfl rfl rfl ⟨Tryz.underlying3⟩ Tryz.underlying76 B jB ?_;intro o2 ab;refine⟨_,jH,?_⟩;refine S2 ?_;have ai:RingIs y N ({ r with nodes:=WM a (ZM.nd ⟨⟨⟨YV,Xh⟩,⟨YW,Xi⟩,⟨R,Xn,Xm⟩,⟨L,O,YX⟩⟩,T,Vp,UO,Vs,Sr,VY,Vu,U,WP,Vq,K,Vr,⟨WT,WS,V⟩,UM,Z⟩) r.nodes }) M2 ((y,Yp [.one (.int .i64 r.copies),.one (.map (some mb)),.one (.pointer (some ⟨bb,0,none⟩))] 78)::(mb,o2)::hb):=RingIs.intro (r:={ r with nodes:=WM a (ZM.nd ⟨⟨⟨YV,Xh⟩,⟨YW,Xi⟩,⟨R,Xn,Xm⟩,⟨L,O,YX⟩⟩,T,Vp,UO,Vs,Sr,VY,Vu,U,WP,Vq,K,Vr,⟨WT,WS,V⟩,UM,Z⟩) r.nodes }) g ab ((hri.mono C).put (n:=⟨⟨⟨YV,Xh⟩,⟨YW,Xi⟩,⟨R,Xn,Xm⟩,⟨L,O,YX⟩⟩,T,Vp,UO,Vs,Sr,VY,Vu,U,WP,Vq,K,Vr,⟨WT,WS,V⟩,UM,Z⟩) ad (.inl (by rw[j.1];rfl)));have aq:Kq (QV d):=by rw[sy];exact Znc _ _
  have ay:(QV d).length≤1:=by rw[sy];exact Znz _ _
  have au:(QV d).length=d.length:=A8 ..;refine Yq (l:=[0,1,2,3]) [3] rfl ?_;refine S3 ?_;refine DW H rfl rfl rfl F.ok67 rfl (HH M2 y N _ _ ai a ⟨al,ah,d⟩ kq oq aq (by show N+(d.length:Int)≤_;omega)) jF (XK rfl) ?_;rintro _ M5 ak ax ⟨aw,rfl,ag⟩;subst M5;try simp only at ag
  refine Stp ?_;refine Xj ?_;refine S8 ?_;refine ZH fun w hw=>?_;have ae:(Vf (ZM.nd ⟨⟨⟨XT,Ws⟩,⟨XU,Wt⟩,⟨Ww,Wv,Wu⟩,⟨XI,XH,XG⟩⟩,TN,TJ,RW,TM,PR,Sy,TO,TI,UP,TK,UQ,TL,⟨UT,US,UR⟩,RV,RU⟩) kind).2.2=0:=by assumption
  have D:RF r a kind=(Tq ({ r with nodes:=WM a (ZM.nd ⟨⟨⟨YV,Xh⟩,⟨YW,Xi⟩,⟨R,Xn,Xm⟩,⟨L,O,YX⟩⟩,T,Vp,UO,Vs,Sr,VY,Vu,U,WP,Vq,K,Vr,⟨WT,WS,V⟩,UM,Z⟩) r.nodes }) a (QV d),0):=PU j.1 ey sy ae;exact⟨_,M2,_,rfl,C,hw.cnt (H':=ak++H) jF,by rw[D];exact congrArg (Value.int .i64) ae,by rw[D];exact ag.mono jD (Mem.le.refl _)⟩
 refine S9 ?_;refine ZH fun w hw=>?_;have D:RF r a kind=_:=HG j.1 jE;exact⟨_,M2,_,rfl,C,hw.cnt (H':=((y,Yp [.one (.int .i64 r.copies),.one (.map (some mb)),.one (.pointer (some ⟨bb,0,none⟩))] 78)::(mb,o)::hb)++H) jF,by rw[D];rfl,by rw[D];exact RingIs.intro (g.mono jD) B (hri.mono C)⟩
end Go.Proofs.YtglnjnacodgmaaaGreatDoor
namespace Go.Esp
open Go.Proofs Go.Shelf Go.RowKit Go.Lib Go.Sort
theorem Ja(k:IntKind):∀ l:List Int,ZV (l.map (WC k))=l.map (Value.int k)
 | []=>rfl
 | x::l=>by
  have:=Ja k l;simp only[D3,ZV,this];rfl
theorem Zbc{β:Type}[Inhabited β]{enc:β→Value}{F:Array β}{M:Mem}{H:Hp}{w:World}{b T:Nat}{cur:Array Value}(hw:St M ((b,.cells cur T (0,0))::H) w)(n:Nat)(os:Array Obj):
 St M ((b,.cells (putCells enc 0 F cur) T (0,0))::H) (grow (putRow enc (Sort.ahead w n) b 0 F) os):=by
 have hb:=hw.own b _ (.head _);have d:=(E4.1 hb).1;refine hw.upd .head ?_ (fun c g x hx=>?_) ⟨rfl,rfl,rfl,Nat.le_add_right _ _⟩
 ·show((w.heap.modify b _)++os)[b]?=_;rw[Array.getElem?_append_left (by simpa using d),Array.getElem?_modify,A6 rfl,hb];rfl
 show((w.heap.modify b _)++os)[c]?=_;grind
def Rn(l:List Int):List Int:=l.mergeSort fun x y=>decide (x≤y)
theorem NV(l:List Int):(Rn l).length=l.length:=List.length_mergeSort _
theorem Zbd(l:List Int):(Rn l).Perm l:=List.mergeSort_perm _ _
theorem Eo(l:List Int):(Rn l).Pairwise (·≤·):=by
 have:=List.pairwise_mergeSort (le:=fun x y:Int=>decide (x≤y)) (fun a b c h1 h2=>by simp at *;omega) (fun a b=>by simp;omega) l;exact this.imp fun h=>by simpa using h
theorem Zmx{l d:List Int}(g:l.Perm d)(hs:d.Pairwise (·<·)):Rn l=d:=by
 refine List.Perm.eq_of_pairwise (le:=(·≤·)) ?_ (Eo l) (hs.imp fun h=>Int.le_of_lt h) ((Zbd l).trans g);grind
theorem Zmw{P:Program}{ρ:Ren}(L:Lays.n189 P ρ){T b c:Nat}{l:List Int}{hs:Hp}(ho:OSl T 1 (.slice (some ⟨b,0,none⟩) l.length c) hs (l.map (WC .i64)))(hl:l.length≤1000000)(M:Mem):
 Fh P (ρ.f 189) [.slice (some ⟨b,0,none⟩) l.length c] M hs (fun M' v C=>M'=M∧v=.tuple #[]∧OSl T 1 (.slice (some ⟨b,0,none⟩) l.length c) C ((Rn l).map (WC .i64))):=by
 obtain⟨cur,rfl,ab,K,hle,Z,U,g⟩:=ho.inv;have R:(l.map (WC .i64)).length=l.length:=A8 ..;rw[R]at hle g;rw[Ja,Nat.mul_one]at g;intro H w hw;have hb:=hw.own b _ (.head _);have V:=(E4.1 hb).1;have hH:Holds (Value.int .i64) w b 0 l.toArray:=by
  intro j hj;have D:j<l.length:=by simpa using hj
  refine⟨?_,?_⟩
  ·unfold World.cell?;simp only[hb,F2,id];have h9:(List.take l.length cur.toList)[j]?=(List.map (Value.int .i64) l)[j]?:=by rw[g]
   rw[I1,A6 D,E6,A7 D,E9,Array.getElem?_toList]at h9;rw[h9,getElem!_pos l.toArray j hj];simp
  unfold World.frozen?;simp only[hb];simp
 have key:=Any.slices_Sort_int L b 0 c l w hH V jD;refine key.mono ?_;rintro e w' ⟨rfl,n,os,rfl⟩;have O:=Zbc (enc:=Value.int .i64) (F:=(Rn l).toArray) hw n os;refine⟨_,M,[(b,.cells (putCells (Value.int .i64) 0 (Rn l).toArray cur) T (0,0))],rfl,Mem.le.refl M,O,rfl,rfl,?_⟩;have y:((Rn l).map (WC .i64)).length=l.length:=by rw[A8,NV]
 have d:lens 1 ((Rn l).map (WC .i64)):=fun r hr=>by
  obtain⟨x,hx,rfl⟩:=C0.1 hr;rfl
 have:=OSl.own (T:=T) b c ((Rn l).map (WC .i64)) (putCells (Value.int .i64) 0 (Rn l).toArray cur) d (by rw[y];exact hle) Z (by simpa[putCells]using U) ?_
 ·rw[y]at this;exact this
 rw[Ja,y,Nat.mul_one];apply List.ext_getElem?;intro t;rw[I1];by_cases ht:t<l.length
 ·rw[A6 ht];have B:t<(Rn l).length:=by rw[NV];exact ht
  have aa:t<cur.size:=by omega
  simp only[putCells,Array.getElem?_toList,Array.getElem?_mapIdx,E8 aa,E9];rw[A6 ⟨C3 _,by simpa using B⟩,E6,A7 B];rw[getElem!_pos _ _ (by simpa using B)];simp
 rw[A4 ht,List.getElem?_eq_none];rw[A8,NV];omega
theorem Zfj{P:Program}{ρ:Ren}(L:Lays.n189 P ρ){T n c:Nat}{g:Option Addr}{l:List Int}{hs:Hp}(y:n=l.length)(j:OSl T 1 (.slice g n c) hs (l.map (WC .i64)))(B:l.length≤1000000)(M:Mem):
 Fh P (ρ.f 189) [.slice g n c] M hs (fun M' v d=>M'=M∧v=.tuple #[]∧OSl T 1 (.slice g n c) d ((Rn l).map (WC .i64))):=by
 subst y;cases l with
 | nil =>
  intro H w hw;refine(Any.slices_Sort_int_none L g c w).mono ?_;rintro e C ⟨rfl,rfl⟩;exact⟨_,M,hs,rfl,Mem.le.refl M,hw,rfl,rfl,by simpa[Rn]using j⟩
 | cons x l =>
  obtain⟨b,rfl⟩:=j.addr jQ;exact Zmw L j B M
end Go.Esp
namespace Go.Proofs
open Go.Shelf
def Tryz.sortIL_ren:Go.Shelf.Ren:=⟨fun|189=>36|125=>75|257=>74|128=>134|129=>135|294=>125|295=>126|296=>127|297=>128|298=>129|299=>130|216=>131|300=>132|301=>133|328=>178|329=>179|330=>180|331=>181|332=>182|215=>86|343=>211|n=>n,fun|28=>32|3=>3|46=>136|0=>0|51=>152|53=>42|4=>4|183=>185|182=>184|131=>60|5=>5|9=>9|218=>238|222=>225|228=>272|229=>273|n=>n,fun|n=>n⟩
theorem Tryz.sortIL:Go.Proofs.Lays.n189 Tryz.prog Tryz.sortIL_ren:={
 mixed:=by kernel_rfl
 f125:=Tryz.func75.trans (congrArg some (by kernel_rfl))
 f128:=Tryz.func134.trans (congrArg some (by kernel_rfl))
 f129:=Tryz.func135.trans (congrArg some (by kernel_rfl))
 f189:=Tryz.func36.trans (congrArg some (by kernel_rfl))
 f215:=Tryz.func86.trans (congrArg some (by kernel_rfl))
 f216:=Tryz.func131.trans (congrArg some (by kernel_rfl))
 f257:=Tryz.func74.trans (congrArg some (by kernel_rfl))
 f294:=Tryz.func125.trans (congrArg some (by kernel_rfl))
 f295:=Tryz.func126.trans (congrArg some (by kernel_rfl))
 f296:=Tryz.func127.trans (congrArg some (by kernel_rfl))
 f297:=Tryz.func128.trans (congrArg some (by kernel_rfl))
 f298:=Tryz.func129.trans (congrArg some (by kernel_rfl))
 f299:=Tryz.func130.trans (congrArg some (by kernel_rfl))
 f300:=Tryz.func132.trans (congrArg some (by kernel_rfl))
 f301:=Tryz.func133.trans (congrArg some (by kernel_rfl))
 f328:=Tryz.func178.trans (congrArg some (by kernel_rfl))
 f329:=Tryz.func179.trans (congrArg some (by kernel_rfl))
 f330:=Tryz.func180.trans (congrArg some (by kernel_rfl))
 f331:=Tryz.func181.trans (congrArg some (by kernel_rfl))
 f332:=Tryz.func182.trans (congrArg some (by kernel_rfl))
 f343:=Tryz.func211.trans (congrArg some (by kernel_rfl))
 t0:=Tryz.underlying0
 a0:=Tryz.isAgg0
 z0:=Tryz.sizeOf0
 v0:=Tryz.zeroValue0
 t3:=Tryz.underlying3
 a3:=Tryz.isAgg3
 z3:=Tryz.sizeOf3
 v3:=Tryz.zeroValue3
 t4:=Tryz.underlying4
 a4:=Tryz.isAgg4
 z4:=Tryz.sizeOf4
 v4:=Tryz.zeroValue4
 t5:=Tryz.underlying5
 a5:=Tryz.isAgg5
 z5:=Tryz.sizeOf5
 v5:=Tryz.zeroValue5
 t9:=Tryz.underlying9
 a9:=Tryz.isAgg9
 z9:=Tryz.sizeOf9
 v9:=Tryz.zeroValue9
 t28:=Tryz.underlying32
 a28:=Tryz.isAgg32
 z28:=Tryz.sizeOf32
 v28:=Tryz.zeroValue32
 t46:=Tryz.underlying136
 a46:=Tryz.isAgg136
 z46:=Tryz.sizeOf136
 v46:=Tryz.zeroValue136
 t51:=Tryz.underlying152
 a51:=Tryz.isAgg152
 z51:=Tryz.sizeOf152
 v51:=Tryz.zeroValue152
 t53:=Tryz.underlying42
 a53:=Tryz.isAgg42
 z53:=Tryz.sizeOf42
 v53:=Tryz.zeroValue42
 t131:=Tryz.underlying60
 a131:=Tryz.isAgg60
 z131:=Tryz.sizeOf60
 v131:=Tryz.zeroValue60
 t182:=Tryz.underlying184
 a182:=Tryz.isAgg184
 z182:=Tryz.sizeOf184
 v182:=Tryz.zeroValue184
 t183:=Tryz.underlying185
 a183:=Tryz.isAgg185
 z183:=Tryz.sizeOf185
 v183:=Tryz.zeroValue185
 t218:=Tryz.underlying238
 a218:=Tryz.isAgg238
 z218:=Tryz.sizeOf238
 v218:=Tryz.zeroValue238
 t222:=Tryz.underlying225
 a222:=Tryz.isAgg225
 z222:=Tryz.sizeOf225
 v222:=Tryz.zeroValue225
 t228:=Tryz.underlying272
 a228:=Tryz.isAgg272
 z228:=Tryz.sizeOf272
 v228:=Tryz.zeroValue272
 t229:=Tryz.underlying273
 a229:=Tryz.isAgg273
 z229:=Tryz.sizeOf273
 v229:=Tryz.zeroValue273 }
end Go.Proofs
namespace Go.Proofs.YtglnjnacodgmaaaGreatDoor
open Go.Esp
theorem Zqd(M:Mem){n c:Nat}{g:Option Addr}{l:List Int}{hs:Hp}(j:n=l.length)(y:OSl 3 1 (.slice g n c) hs (l.map (WC .i64)))(B:l.length≤1000000):Fh Tryz.prog 36 [.slice g n c] M hs (fun M' v d=>M'=M∧v=.tuple #[]∧OSl 3 1 (.slice g n c) d ((Rn l).map (WC .i64))) :=
 Zfj Tryz.sortIL j y B M
theorem JU(M:Mem)(U:Nat)(N:Int)(r:Rg)(Hb:Hp)(hR:RingIs U N r M Hb):Fo Tryz.prog 11 [.pointer (some ⟨U,0,none⟩)] M Hb (fun M' v=>∃ s:Sl Int,v=s.val∧s.l=XW r∧SlK M' (WC .i64) 1 s):=by
 obtain⟨mb,bb,o,jl,hb,rfl,aj,ab,hri⟩:=hR;have ao:jl.length≤16:=by have:=hri.len;have:=hri.few;omega
 refine Mv (fun H=>(U,Yp [.one (.int .i64 r.copies),.one (.map (some mb)),.one (.pointer (some ⟨bb,0,none⟩))] 78)::(mb,o)::(hb++H)) (fun _=>by simp only[B5,B4,B6]) Tryz.func11 rfl Tryz.ntmps11 rfl ?_;intro H;refine S12 ?_;refine Xb (fun D=>?_) (fun D=>?_)
 ·skip
  (exfalso;simp[eqX]at D;done)
 skip
 refine S14 ?_;refine Zpu rfl rfl rfl Tryz.underlying76 jB ab rfl ?_;intro r1 R O;refine S3 ?_;refine VG [3,11,2] ?_;refine XV (Hin:=[(r1,R)]) (.succ .zero) jA (fun(k:Nat) M1 h1 z=>∃(g:JM ZM) (oi:Obj) (v:Value) (hs:Hp),M1=M∧z=[(3,v)]∧k=g.length∧itJ ZM.enc mb oi o jl g∧OSl 3 1 v hs ((g.map (·.1)).map (WC .i64))∧h1=(r1,oi)::hs) (fun k=>jl.length-k) (0) (⟨[],R,_,[],rfl,rfl,rfl,O,OSl.nil,rfl⟩) ?_;rintro k M1 h1 z aq ⟨g,oi,v0,hs,V,rfl,hk,T,ho,rfl⟩;obtain rfl:=V.symm;obtain⟨y,j,rfl⟩:=ho.valL;have al:=T.len;have ar:((g.map (·.1)).map (WC .i64)).length=(g.map (·.1)).length:=A8 ..;have ah:(g.map (·.1)).length=g.length:=A8 ..;refine S2 ?_;refine Zuq rfl rfl rfl jB jB T rfl ?_ ?_
 ·intro p K hp d;obtain⟨pk,pv⟩:=p;refine⟨_,jH,?_⟩;refine S10 ?_;refine Zpw rfl rfl rfl jB jB d rfl ?_;refine Stp ?_;refine Xs 15 rfl (show MC pk=.int .i64 pk from rfl) ?_;refine S6 ?_;refine YK rfl rfl F.elem32 F.zero3 rfl rfl (.cons rfl jG .nil) rfl rfl jK rfl ?_;intro b2 C;refine Vc (m:=1000000) rfl rfl rfl rfl rfl F.elem32 F.zero3 zH rfl jE jA (Src.own C.lens jN rfl jB) jX jM rfl ?_;intro v6 Z L;obtain⟨ai,ag,rfl⟩:=L.val;refine S3 ?_;refine YO (a':=[(3,_)]) (k+1) (((r1,K)::Z)) (.cons (k:=3) rfl (.cons (k:=11) rfl (.cons (k:=2) rfl (.nil)))) jO (fun w hw=>by first|exact hw|exact hw.c) ?_ ?_
  ·refine⟨g++[(pk,pv)],K,_,_,rfl,rfl,by simp[hk],d,?_,rfl⟩;rw[C6,C6];exact L
  have h9:=d.len;simp at h9;omega
 intro B;refine S11 ?_;refine Xv (l:=[0,1]) (Hin:=hs) jA rfl ?_;refine Stp ?_;refine We (Zqd M rfl ho jD) ?_;rintro _ M3 ae ak ⟨an,rfl,ad⟩;subst M3;refine S9 ?_;refine ZH fun w hw=>?_;have aa:St M (ae++(((U,Yp [.one (.int .i64 r.copies),.one (.map (some mb)),.one (.pointer (some ⟨bb,0,none⟩))] 78)::(mb,o)::hb)++H)) w:=hw.c;obtain⟨M9,g1,g2,g3⟩:=ad.frz aa;exact⟨_,M9,rfl,g1,g2,⟨y,j,Rn (g.map (·.1))⟩,(by show Value.slice y _ j=Value.slice y (Rn (g.map (·.1))).length j;rw[NV]),Zmx ((B.map _).trans hri.keys) hri.rise,g3⟩
theorem Ew(M:Mem)(y:Nat)(N:Int)(r:Rg)(Hb:Hp)(hR:RingIs y N r M Hb)(hN:N+1000000≤1000000000000000):Fh Tryz.prog 35 [.pointer (some ⟨y,0,none⟩)] M Hb (fun M' v ak=>v=.tuple #[]∧RingIs y (N+1000000) (VI r) M' ak):=by
 refine YI (fun H=>Hb++H) (fun _=>rfl) Tryz.func35 rfl Tryz.ntmps35 rfl ?_;intro H;refine Stp ?_;refine Xv (l:=[0,1]) (Hin:=Hb) jA rfl ?_;refine Stp ?_;refine We (Dr M y N r Hb hR 10000 ⟨B9 _,B9 _⟩ jD) ?_;rintro _ M0 Z al ⟨rfl,C⟩;refine S5 ?_;refine PG (JU M0 y _ _ Z C) ?_;rintro _ M9 V ⟨⟨ax,au,d⟩,rfl,el,aa⟩;have T:=aa.h1;try simp only at T el
 have aw:(d.map (WC .i64)).length=d.length:=A8 ..;have aq:d.length≤9223372036854775807:=aa.h2;have ar:d.length≤16:=by have:=C.few;have h9:=A9 List.length el;simp only[XW,A8]at h9;omega
 simp only[Sl.val];refine S5 ?_;refine VG [11,10,9,0] ?_;refine XV (Hin:=Z) (.succ .zero) jA (fun(i:Nat) M1 h1 z=>z=[(11,.int .i64 (i:Int))]∧i≤d.length∧RingIs y (N+10000+30003 * (i:Int)) (((XW (Va 10000 r)).take i).foldl Im (Va 10000 r)) M1 h1) (fun i=>d.length-i) (0) (⟨rfl,by omega,by rw[List.take_zero,List.foldl_nil];exact C.mono jD V⟩) ?_;rintro i M1 h1 z K ⟨rfl,hi,g⟩;obtain⟨r1,L⟩:∃ r1,((XW (Va 10000 r)).take i).foldl Im (Va 10000 r)=r1:=⟨_,rfl⟩
 rw[L]at g;have an:=T.mono K;refine S6 ?_;refine Xb (cT fun ah=>?_) (cF fun ah=>?_)
 ·refine S8 ?_;obtain⟨a,ha⟩:∃ a,d[i]'jD=a:=⟨_,rfl⟩
  rw[ha];refine S5 ?_;refine YK rfl rfl F.elem32 F.zero3 rfl rfl (.cons rfl jG (.cons rfl jG (.cons rfl jG .nil))) rfl rfl jK rfl ?_;intro b2 O;refine S5 ?_;refine VG [17,16,15,3,14,13,12,11,10,9,0] ?_;refine XV (Hin:=h1) (.succ .zero) jA (fun(j:Nat) M2 h2 z=>z=[(17,.int .i64 (j:Int))]∧j≤3∧RingIs y (N+10000+30003 * (i:Int)+10001 * (j:Int)) ((([1,3,2]:List Int).take j).foldl (UV a) r1) M2 h2) (fun j=>3-j) (0) (⟨rfl,by omega,by simpa using g⟩) ?_;rintro j M2 h2 z R ⟨rfl,hj,B⟩;obtain⟨r2,D⟩:∃ r2,(([1,3,2]:List Int).take j).foldl (UV a) r1=r2:=⟨_,rfl⟩
  rw[D]at B;refine S6 ?_;refine Xb (cT fun ai=>?_) (cF fun ai=>?_)
  ·refine S7 ?_;have ao:OSl 3 1 _ _ (([1,3,2]:List Int).map (WC .i64)):=O;refine S5 ?_;refine Xv (l:=[0,1,2,3]) (Hin:=h2) jA rfl ?_;refine S3 ?_;refine We (BV M2 y _ r2 h2 B a _ jD) ?_;rintro _ M3 U ad ⟨rfl,ag⟩;refine S2 ?_;refine Xv (l:=[0,1]) (Hin:=U) jA rfl ?_;refine Stp ?_;refine We (Dr M3 y _ _ U ag 10000 ⟨B9 _,B9 _⟩ jD) ?_;rintro _ M4 aj ae ⟨rfl,ab⟩;refine S7 ?_;refine YO (a':=[(17,_)]) (j+1) (aj) (.cons (k:=17) rfl (.cons (k:=16) rfl (.cons (k:=15) rfl (.cons (k:=3) rfl (.cons (k:=14) rfl (.cons (k:=13) rfl (.cons (k:=12) rfl (.cons (k:=11) rfl (.cons (k:=10) rfl (.cons (k:=9) rfl (.cons (k:=0) rfl (.nil)))))))))))) ((R.trans ad).trans ae) (fun w hw=>by first|exact hw|exact hw.c) ?_ ?_
   ·refine⟨rfl,by omega,?_⟩;rw[C9,A7 (show j<([1,3,2]:List Int).length by simpa using(show j<3 by omega)),Option.toList_some,I4,D];exact ab.mono jD (Mem.le.refl _)
   omega
  refine S10 ?_;refine YO (a':=[(11,_)]) (i+1) (h2) (.cons (k:=11) rfl (.cons (k:=10) rfl (.cons (k:=9) rfl (.cons (k:=0) rfl (.nil))))) (K.trans R) (fun w hw=>by first|exact hw|exact hw.c) ?_ ?_
  ·refine⟨rfl,by omega,?_⟩;obtain rfl:j=3:=by omega
   rw[C9,A7 (show i<(XW (Va 10000 r)).length by rw[← el];omega),Option.toList_some,I4,L];refine RingIs.mono ?_ (show N+10000+30003 * (i:Int)+10001 * ((3:Nat):Int)≤_ by omega) (Mem.le.refl _);rw[← D]at B;have e9:(XW (Va 10000 r))[i]'(by rw[← el];omega)=a:=by simp only[← el];exact ha
   rw[e9];exact B
  omega
 refine S4 ?_;refine ZH fun w hw=>?_;obtain rfl:i=d.length:=by omega
 rw[← L]at g;have e8:(XW (Va 10000 r)).take d.length=XW (Va 10000 r):=by rw[← el,G0]
 rw[e8]at g;exact⟨_,M1,h1,rfl,(al.trans V).trans K,hw.c,rfl,g.mono jD (Mem.le.refl _)⟩
end Go.Proofs.YtglnjnacodgmaaaGreatDoor
namespace Go.Proofs.YtglnjnacodgmaaaGreatDoor.K
open Go.Esp
theorem F.ok98:Ta Tryz.prog 98=true:=by kernel_rfl
theorem Circ_ok(M:Mem)(l:(Sl Zr))(ao:SlK M Zr.segs 21 l):Fs Tryz.prog 55 [Sl.val l] M (fun v=>v=Value.bool (decide (Xk l.l))):=by
 obtain⟨T,K,d⟩:=l;have y:SlK M Zr.segs 21 ⟨T,K,d⟩:=ao;have a1:SlM M T (d.map Zr.segs) 21:=y.h1;have a6:(d.map Zr.segs).length=d.length:=A8 ..;have aw:d.length≤9223372036854775807:=y.h2;have ax:d.length≤K:=y.h3;refine Xa Tryz.func55 rfl Tryz.ntmps55 rfl ?_;intro H;refine S12 ?_;refine YE 9 (cT fun ag=>?_) (cF fun ag=>?_)
 ·refine S14 ?_;refine ZH fun w hw=>?_;refine⟨_,rfl,(hw.c),?_⟩;clear hw;refine A9 Value.bool ?_;grind [Xk]
 refine S6 ?_;refine Xb (cT fun ah=>?_) (cF fun ah=>?_)
 ·refine S7 ?_;refine ZH fun w hw=>?_;refine⟨_,rfl,(hw.c),?_⟩;clear hw;refine A9 Value.bool ?_;grind [Xk]
 refine S16 ?_;refine VG [16,3,15,14,2,0] ?_;refine XV (Hin:=[]) (.succ (.succ .zero)) jA (fun(k:Nat) U h1 z=>∃ v,U=M∧z=[(16,.int .i64 (k:Int)),(3,v)]∧k≤d.length∧Uv (d.take k)∧OSl 3 1 v h1 (((d.take k).map Zr.addr).map (WC .i64))) (fun k=>d.length-k) (0) (⟨_,rfl,rfl,by omega,by simp[Uv],OSl.nil⟩) ?_;rintro k U h1 z a7 ⟨v1,C,rfl,hk,hI,ho⟩;subst C;obtain⟨aa,al,rfl⟩:=ho.valL;have hlk:(d.take k).length=k:=by rw[D8];omega
 have ba:(((d.take k).map Zr.addr).map (WC .i64)).length=k:=by simp;omega
 refine S6 ?_;refine Xb (cT fun aq=>?_) (cF fun aq=>?_)
 ·refine S10 ?_;intro b4;refine S6 ?_;refine Ya (l:=[0,1,2,3,4,5,6,7,8,9,10,11,12,13,14,15,16,17,18,19,20,21,22,23,24,25,26,27,28,29]) #[0,1,3,7,15,31,63,127,255,511,511,1535,4095,8191,16383,32767,65535,131071,262143,262143,786431,2097151,4194303,8388607,262143,17039359,67108863,134217727,268435455,536870911] _ rfl jI jI St.drawn (fun _ h=>h) ?_;refine S4 ?_;refine YE 24 (cT fun V=>?_) (cF fun V=>?_)
  ·refine S41 ?_;refine ZH fun w hw=>?_;refine⟨_,rfl,(hw.c),?_⟩;refine A9 Value.bool ?_;(have L:=Ph (l:=d) (k:=k) jD;have hp:=Kn (l:=d);grind [Xk])
  refine S5 ?_;refine YE 29 (cT fun ar=>?_) (cF fun ar=>?_)
  ·refine S36 ?_;refine ZH fun w hw=>?_;refine⟨_,rfl,(hw.c),?_⟩;refine A9 Value.bool ?_;(have L:=Ph (l:=d) (k:=k) jD;have hp:=Kn (l:=d);grind [Xk])
  refine S3 ?_;refine PG (QO _ h1 ⟨aa,al,(d.take k).map Zr.addr⟩ _ (ho.rd _) jU) ?_;rintro _ U _ ⟨C,rfl⟩;subst U;refine S2 ?_;refine YE 35 (cT fun aj=>?_) (cF fun aj=>?_)
  ·refine S30 ?_;refine ZH fun w hw=>?_;refine⟨_,rfl,(hw.c),?_⟩;refine A9 Value.bool ?_;(have L:=Ph (l:=d) (k:=k) jD;have hp:=Kn (l:=d);grind [Xk])
  refine S3 ?_;refine YE 38 (cT fun ab=>?_) (cF fun ab=>?_)
  ·refine S8 ?_;refine Vn (Ox _ _ _) ?_;rintro _ rfl;refine S5 ?_;refine Xb (eT fun Z=>?_) (eF fun Z=>?_)
   ·refine S12 ?_;refine ZH fun w hw=>?_;refine⟨_,rfl,(hw.c),?_⟩;refine A9 Value.bool ?_;(have L:=Ph (l:=d) (k:=k) jD;have hp:=Kn (l:=d);grind [Xk])
   refine S6 ?_;refine YK rfl rfl F.elem32 F.zero3 rfl rfl (.cons rfl jG .nil) rfl rfl jK rfl ?_;intro az g;refine Vc (m:=1000000) rfl rfl rfl rfl rfl F.elem32 F.zero3 zH rfl jE jA (Src.own g.lens (by(simp[ZV,Segs.cells,Seg.cells,Value.oneCell'];done)) rfl jB) jX jM rfl ?_;intro a8 D O;obtain⟨ak,ad,rfl⟩:=O.val;refine S8 ?_;refine YO (a':=[(16,_),(3,_)]) (k+1) (D) (.cons (k:=16) rfl (.cons (k:=3) rfl (.cons (k:=15) rfl (.cons (k:=14) rfl (.cons (k:=2) rfl (.cons (k:=0) rfl (.nil))))))) jO (fun w hw=>by first|exact hw|exact hw.c) ?_ ?_
   ·refine⟨_,rfl,rfl,by omega,?_,?_⟩
    ·have L:=Ph (l:=d) (k:=k) jD;grind
    have e9:(((d.take (k+1)).map Zr.addr).map (WC .i64))=(((d.take k).map Zr.addr).map (WC .i64))++[WC .i64 d[k].addr]:=by rw[NS _ jD,C6];rfl
    rw[e9];assumption
   omega
  refine S21 ?_;refine YK rfl rfl F.elem32 F.zero3 rfl rfl (.cons rfl jG .nil) rfl rfl jK rfl ?_;intro au j;refine Vc (m:=1000000) rfl rfl rfl rfl rfl F.elem32 F.zero3 zH rfl jE jA (Src.own j.lens (by(simp[ZV,Segs.cells,Seg.cells,Value.oneCell'];done)) rfl jB) jX jM rfl ?_;intro ay B R;obtain⟨an,ae,rfl⟩:=R.val;refine S8 ?_;refine YO (a':=[(16,_),(3,_)]) (k+1) (B) (.cons (k:=16) rfl (.cons (k:=3) rfl (.cons (k:=15) rfl (.cons (k:=14) rfl (.cons (k:=2) rfl (.cons (k:=0) rfl (.nil))))))) jO (fun w hw=>by first|exact hw|exact hw.c) ?_ ?_
  ·refine⟨_,rfl,rfl,by omega,?_,?_⟩
   ·have L:=Ph (l:=d) (k:=k) jD;grind
   have e9:(((d.take (k+1)).map Zr.addr).map (WC .i64))=(((d.take k).map Zr.addr).map (WC .i64))++[WC .i64 d[k].addr]:=by rw[NS _ jD,C6];rfl
   rw[e9];assumption
  omega
 refine S11 ?_;refine ZH fun w hw=>?_;refine⟨_,rfl,(hw.c),?_⟩;refine A9 Value.bool ?_;(have ai:k=d.length:=jD;subst ai;grind [Xk,G0])
theorem Zlk(M:Mem)(Hin:Hp)(g:FuncId)(caps:List Value)(p:Nat→Bool)(n:Nat)(hn:n≤1000000000)(D:Ta Tryz.prog g=true)(O:∀ i,i<n→Fo Tryz.prog g ([.int .i64 (i:Int)]++caps) M Hin (fun M' v=>M'=M∧v=.bool (p i)))(C:∀ i j,i≤j→j<n→p i=true→p j=true):Fo Tryz.prog 97 [.int .i64 (n:Int),.func (.func g) #[] caps.toArray] M Hin (fun M' v=>M'=M∧v=.int .i64 (Qj p n:Nat)):=by
 refine VT Tryz.func97 rfl Tryz.ntmps97 rfl ?_;intro H;refine S14 ?_;refine VG [5,6,4,1] ?_;refine Un (.succ (.succ .zero)) (fun(x:Nat×Nat) z=>z=[(5,.int .i64 (x.1:Int)),(6,.int .i64 (x.2:Int))]∧x.1≤x.2∧x.2≤n∧(∀ y,y<x.1→p y=false)∧(x.2<n→p x.2=true)) (fun x=>x.2-x.1) ((0,n)) (⟨rfl,C3 _,B9 _,fun y h=>(by cases h),fun h=>jD⟩) ?_;rintro⟨a,b⟩ z ⟨Z,h1,h2,h3,F⟩;subst Z;refine S8 ?_;refine Xb (fun d=>?_) (fun d=>?_)
 ·skip
  replace d:=dT d;refine S9 ?_;refine VK rfl rfl rfl rfl jM (Uw 1 jM) rfl rfl ?_;refine Stp ?_;have U:((a:Int)+(b:Int)) / 2 ^ 1=(((a+b) / 2:Nat):Int):=by omega
  rw[U];refine S7 ?_;refine GN rfl rfl rfl D rfl rfl (O ((a+b) / 2) jD) jA (XK rfl) ?_;rintro _ L _ ⟨V,rfl⟩;subst L;refine S3 ?_;refine Xb (fun B=>?_) (fun B=>?_)
  ·simp only[Bool.not_eq_true',Bool.not_eq_false']at B;have K:=B;refine S6 ?_;refine VX (a':=[(5,_),(6,_)]) (((a+b) / 2+1,b)) (.cons (k:=5) rfl (.cons (k:=6) rfl (.cons (k:=4) rfl (.cons (k:=1) rfl (.nil))))) (fun w hw=>by first|exact hw|exact hw.c) ?_ ?_
   ·refine⟨rfl,(by show(a+b) / 2+1≤b;omega),h2,fun y R=>?_,F⟩;have T:y<(a+b) / 2+1:=R;cases hpy:p y with
    |false=>rfl
    |true=>have:=C y ((a+b) / 2) jD jD hpy;simp_all
   show b-((a+b) / 2+1)<b-a;omega
  simp only[Bool.not_eq_true',Bool.not_eq_false']at B;have K:=B;refine S5 ?_;refine VX (a':=[(5,_),(6,_)]) ((a,(a+b) / 2)) (.cons (k:=5) rfl (.cons (k:=6) rfl (.cons (k:=4) rfl (.cons (k:=1) rfl (.nil))))) (fun w hw=>by first|exact hw|exact hw.c) ?_ ?_
  ·exact⟨rfl,(by show a≤(a+b) / 2;omega),(by show(a+b) / 2≤n;omega),h3,fun _=>by simpa using K⟩
  show(a+b) / 2-a<b-a;omega
 skip
 replace d:=dF d;refine S12 ?_;refine ZH fun w hw=>?_;refine⟨_,M,rfl,Mem.le.refl M,hw.c,rfl,?_⟩;refine A9 (Value.int .i64) ?_;have e:a=b:=by omega
 subst e;exact A9 Nat.cast (JD h2 h3 F).symm
theorem Zst(M:Mem)(g j:Nat)(l:Sl Zr)(x:Plc)(d:SlM M l.a (l.l.map Zr.segs) 21)(i:Nat)(hi:i<l.l.length):Fo Tryz.prog 98 ([.int .i64 (i:Int)]++[.pointer (some ⟨g,0,none⟩),.pointer (some ⟨j,0,none⟩)]) M [(j,Yp [ZU x] 36),(g,Yp [.one l.val] 39)] (fun M' v=>M'=M∧v=.bool (pO l.l x i)):=by
 obtain⟨C,B,y⟩:=l;simp only at d hi;refine VT Tryz.func98 rfl Tryz.ntmps98 rfl ?_;intro H;refine S6 ?_;refine Ya (l:=[0,1,2,3,4,5,6,7,8]) #[0,0,3,7,15,0,63,127,255] _ rfl jI jI St.drawn (fun _ h=>h) ?_;refine S6 ?_;refine Vn (Ox _ _ _) ?_;rintro _ rfl;refine S5 ?_;refine ZH fun w hw=>?_;exact⟨_,M,rfl,Mem.le.refl M,hw.c,rfl,A9 Value.bool (by rw[Zgk hi];simp)⟩
theorem owner_ok(M:Mem)(l:(Sl Zr))(x:Plc)(C:SlK M Zr.segs 21 l)(K:Xk l.l):Fs Tryz.prog 56 [Sl.val l,WX [ZU x]] M (fun v=>v=Value.int .i64 (((Ve l.l x:Nat):Int))):=by
 obtain⟨g,j,d⟩:=l;have D:SlK M Zr.segs 21 ⟨g,j,d⟩:=C;have y:SlM M g (d.map Zr.segs) 21:=D.h1;have B:=K.1;simp only at B;refine Xa Tryz.func56 rfl Tryz.ntmps56 rfl ?_;intro H;refine S3 ?_;intro R;refine Stp ?_;intro T;refine S4 ?_;refine Ya (l:=[0,1,2,3,4,5,6,7]) #[0,1,0,7,0,16,63,127] _ rfl jI jI St.drawn (fun _ h=>h) ?_;refine S3 ?_;refine PG (Zlk _ _ 98 [_,_] (pO d x) d.length jD F.ok98 (fun i hi=>Zst M _ _ ⟨g,j,d⟩ x y i hi) (Zss K.2)) ?_;rintro _ O _ ⟨L,rfl⟩;subst O;refine S7 ?_;refine ZH fun w hw=>?_;refine⟨_,rfl,(hw.c),?_⟩;exact A9 (Value.int .i64) (Int.natCast_emod _ _).symm
end Go.Proofs.YtglnjnacodgmaaaGreatDoor.K
namespace Go.Esp
def Ci(s:Zr)(id:Plc)(avoid:List Int)(p:Zr):Prop:=Uh s.id p.id id∧p.addr∉avoid
instance (s:Zr)(id:Plc)(avoid:List Int)(p:Zr):Decidable (Ci s id avoid p):=by unfold Ci;exact inferInstance
structure NearOk (s:Zr) (id:Plc) (avoid:List Int) (l:List Zr) (r:Zr×Bool):Prop where
  no:r.2=false→r.1=Yj∧∀ x∈l,¬Ci s id avoid x
  yes:r.2=true→r.1∈l∧Ci s id avoid r.1∧∀ x∈l,Ci s id avoid x→¬Uh r.1.id x.id id
theorem Zgw{s:Zr}{id:Plc}{avoid:List Int}{l:List Zr}{r:Zr×Bool}{p:Zr}(h:NearOk s id avoid l r):NearOk s id avoid (l++[p]) (Vb s id avoid r p):=by
 obtain⟨b,f⟩:=r;unfold Vb;by_cases hc:p.addr∈avoid∨¬Uh s.id p.id id
 ·rw[A6 hc];have B:¬Ci s id avoid p:=fun h9=>hc.elim h9.2 (fun y=>y h9.1);refine⟨fun h1=>⟨(h.no h1).1,fun x hx=>?_⟩,fun h1=>⟨C5 _ (h.yes h1).1,(h.yes h1).2.1,fun x hx d=>?_⟩⟩
  ·rcases B8.1 hx with hx|hx
   ·exact(h.no h1).2 x hx
   grind
  rcases B8.1 hx with hx|hx
  ·exact(h.yes h1).2.2 x hx d
  grind
 rw[A4 hc];have j:Ci s id avoid p:=⟨C2 fun h9=>hc (.inr h9),fun h9=>hc (.inl h9)⟩
 by_cases hd:f=false∨Uh b.id p.id id
 ·rw[A6 (show(b,f).2=false∨Uh (b,f).1.id p.id id from hd)];refine⟨fun h1=>(by cases h1),fun _=>⟨D0 _ (B0.2 rfl),j,fun x hx d v=>?_⟩⟩;rcases B8.1 hx with hx|hx
  ·cases f with
   | false=>exact(h.no rfl).2 x hx d
   | true =>
    have hb:=h.yes rfl;have g:Uh b.id p.id id:=hd.resolve_left jQ;have h1:=(KZ hb.2.1.1 j.1).1 g;have h2:=(KZ j.1 d.1).1 v;exact hb.2.2 x hx d ((KZ hb.2.1.1 d.1).2 (Nat.lt_trans h1 h2))
  rw[B0.1 hx]at v;exact v.1 rfl
 rw[A4 (show¬((b,f).2=false∨Uh (b,f).1.id p.id id)from hd)];refine⟨fun h1=>(hd (.inl h1)).elim,fun h1=>⟨C5 _ (h.yes h1).1,(h.yes h1).2.1,fun x hx d=>?_⟩⟩;rcases B8.1 hx with hx|hx
 ·exact(h.yes h1).2.2 x hx d
 grind
theorem EP{s:Zr}{id:Plc}{avoid:List Int}:∀{xs l:List Zr} {r:Zr×Bool},NearOk s id avoid l r→NearOk s id avoid (l++xs) (xs.foldl (Vb s id avoid) r)
 | [],l,r,h=>by rw[E0];exact h
 | p::xs,l,r,h=>by
  have:=EP (xs:=xs) (Zgw (p:=p) h);rw[B5]at this;exact this
theorem CP{t:Tb}{id:Plc}{avoid:List Int}:NearOk t.self id avoid (Wy t) (YJ t id avoid) :=
 EP (l:=[]) ⟨fun _=>⟨rfl,by simp⟩,fun h=>by cases h⟩
theorem KR{s p:Zr}{k:Nat}:∀{n j:Nat},∀ i,k<i→j≤i→i<WA s p k j n→Gh s p i=true
 | 0,j,i,_,h1,h2=>by unfold WA at h2;omega
 | n+1,j,i,h0,h1,h2=>by
  unfold WA at h2;split at h2
  ·omega
  rename_i d;rcases C7 j i with h|h
  ·exact KR i h0 h h2
  obtain rfl:i=j:=by omega
  cases ha:Gh s p i with
  | true=>rfl
  | false=>exact(d ⟨h0,ha⟩).elim
end Go.Esp
namespace Go.Proofs.YtglnjnacodgmaaaGreatDoor
open Go.Esp
theorem F.elem66:Na Tryz.prog 66=some (41,44,112):=by kernel_rfl
end Go.Proofs.YtglnjnacodgmaaaGreatDoor
namespace Go.Esp
def QE(l:List Zr)(p:Zr)(k:Nat):Int:=((Ve l (p.id+To k):Nat):Int)
def Rj(l:List Zr)(i:Int):List Int×Int:=if h:Xk l∧0≤i∧i<l.length then((List.range 160).map (QE l (l[i.toNat]'(by omega))),0)else([],1)
theorem Om{l:List Zr}{i:Nat}(h:Xk l)(hi:i<l.length):Rj l (i:Int)=((List.range 160).map (QE l l[i]),0):=by
 unfold Rj;rw[dif_pos ⟨h,by omega,by omega⟩];simp only[Int.toNat_natCast]
theorem NA{l:List Zr}{i:Int}(h:¬(Xk l∧0≤i∧i<l.length)):Rj l i=([],1):=dif_neg h
def PO(f:Nat→Int)(k:Nat):List Int:=(List.range 160).map fun j=>if j<k then f j else 0
theorem Zdb(f:Nat→Int):PO f 0=List.replicate 160 0:=by
 unfold PO;simp only[Nat.not_lt_zero,if_false];exact List.map_const' ..
theorem Zjm(f:Nat→Int):PO f 160=(List.range 160).map f:=by
 unfold PO;refine List.map_congr_left fun j hj=>?_;rw[A6 (G7.1 hj)]
theorem Zjl(f:Nat→Int)(k:Nat):(PO f k).length=160:=by unfold PO;simp
theorem Zjk(f:Nat→Int){k:Nat}(hk:k<160){v:Int}(d:v=f k):(PO f k).set k v=PO f (k+1):=by
 unfold PO;refine J4 jQ fun j h1 h2=>?_;rw[List.getElem_set];simp only[I7,List.getElem_range];split
 ·rename_i h;subst h;rw[A6 jD];exact d
 rename_i h;by_cases h3:j<k
 ·rw[A6 h3,A6 jD]
 rw[A4 h3,A4 jD]
def Zvm(M:Mem)(v:Value)(r:List Int×Int):Prop:=∃ s:Sl Int,v=.tuple #[s.val,.int .i64 r.2]∧s.l=r.1∧SlK M (WC .i64) 1 s
end Go.Esp
namespace Go.Proofs.YtglnjnacodgmaaaGreatDoor
open Go.Esp
theorem HC(M:Mem)(l:(Sl Zr))(i:Int)(ab:SlK M Zr.segs 21 l):Esp.Fn Tryz.prog 90 [Sl.val l,.int .i64 i] M (fun M' v=>Zvm M' v (Rj l.l i)):=by
 obtain⟨L,D,d⟩:=l;have B:SlK M Zr.segs 21 ⟨L,D,d⟩:=ab;have ah:SlM M L (d.map Zr.segs) 21:=B.h1;have ai:(d.map Zr.segs).length=d.length:=A8 ..;have ae:d.length≤9223372036854775807:=B.h2;have ag:d.length≤D:=B.h3;refine WE Tryz.func90 rfl Tryz.ntmps90 rfl ?_;intro H;refine S10 ?_;refine Vn (K.Circ_ok _ ⟨_,_,_⟩ jE) ?_;rintro _ rfl;refine S2 ?_;refine YE 13 (eT fun g=>?_) (eF fun g=>?_)
 ·simp only[Zr.eta,ZK.eta,ZM.eta,ZI.eta,YD.eta,YQ.eta,XM.eta,YT.eta,ZW.eta,XF.eta,Yk.eta]at g;refine S20 ?_;refine ZH fun w hw=>?_;refine⟨_,M,rfl,Mem.le.refl M,hw.c,?_⟩;rw[show Rj d i=([],1)from NA yE];exact⟨⟨none,0,[]⟩,rfl,rfl,SlK.nil⟩
 simp only[Zr.eta,ZK.eta,ZM.eta,ZI.eta,YD.eta,YQ.eta,XM.eta,YT.eta,ZW.eta,XF.eta,Yk.eta]at g;refine S4 ?_;refine YE 17 (cT fun U=>?_) (cF fun U=>?_)
 ·refine S16 ?_;refine ZH fun w hw=>?_;refine⟨_,M,rfl,Mem.le.refl M,hw.c,?_⟩;rw[show Rj d i=([],1)from NA yE];exact⟨⟨none,0,[]⟩,rfl,rfl,SlK.nil⟩
 refine S7 ?_;refine Xb (cT fun ad=>?_) (cF fun ad=>?_)
 ·refine S8 ?_;refine ZH fun w hw=>?_;refine⟨_,M,rfl,Mem.le.refl M,hw.c,?_⟩;rw[show Rj d i=([],1)from NA yE];exact⟨⟨none,0,[]⟩,rfl,rfl,SlK.nil⟩
 refine S4 ?_;obtain⟨n,rfl⟩:∃ n:Nat,i=n:=⟨i.toNat,by omega⟩
 have hc:Xk d:=by assumption
 have hn:n<d.length:=by omega
 have g:=hc.1;refine QI (k:=160) (zr:=WC .i64 0) rfl rfl rfl rfl F.elem32 F.zero3 rfl rfl rfl jM jM rfl ?_;intro b1 O Z;refine S12 ?_;refine VG [26,25,6,5,4,0,1] ?_;refine XV (Hin:=O) (.succ .zero) jA (fun(k:Nat) M1 h1 z=>M1=M∧z=[(26,.int .i64 (k:Int))]∧k≤160∧OSl 3 1 (.slice (some ⟨b1,0,none⟩) 160 160) h1 ((PO (QE d d[n]) (k)).map (WC .i64))) (fun k=>160-k) (0) (⟨rfl,rfl,by omega,by rw[Zdb,List.map_replicate];exact Z⟩) ?_;rintro k M1 h1 z aj ⟨R,rfl,hk,ho⟩;subst R;have T:=Zjl (QE d d[n]) k;have aa:((PO (QE d d[n]) (k)).map (WC .i64)).length=160:=by rw[A8];exact T
 refine S6 ?_;refine Xb (cT fun V=>?_) (cF fun V=>?_)
 ·refine S13 ?_;refine Vn (PJ _ k jD) ?_;rintro _ rfl;refine S4 ?_;intro b5;refine S4 ?_;refine Ya (l:=[0,1,2,3,4,5,6,7,8,9,10,11,12]) #[0,0,0,0,0,24,56,120,0,504,1020,2047,4095] _ rfl jI jI St.drawn (fun _ h=>h) ?_;refine S9 ?_;refine Vn (GU _ _ _) ?_;rintro _ rfl;refine Vn (K.owner_ok _ ⟨_,_,_⟩ _ jE jE) ?_;rintro _ rfl;refine Stp ?_;refine Tw (b:=b1) (j:=k) rfl rfl rfl rfl jG (Yi rfl YS) F.lay3 rfl rfl ho jA jD ?_;intro C y;replace y:OSl 3 1 (.slice (some ⟨b1,0,none⟩) 160 160) C ((PO (QE d d[n]) (k+1)).map (WC .i64)):=by rw[← Zjk (QE d d[n]) jD rfl,List.map_set];exact y.aZ (by simp[aa])
  refine S7 ?_;refine YO (a':=[(26,_)]) (k+1) (C) (.cons (k:=26) rfl (.cons (k:=25) rfl (.cons (k:=6) rfl (.cons (k:=5) rfl (.cons (k:=4) rfl (.cons (k:=0) rfl (.cons (k:=1) rfl (.nil)))))))) jO (fun w hw=>by first|exact hw|exact hw.c) ?_ ?_
  ·exact⟨rfl,rfl,by omega,y⟩
  omega
 refine S13 ?_;refine ZH fun w hw=>?_;obtain rfl:k=160:=by omega
 obtain⟨M9,s1,g1,g2,g3,g4,g5⟩:=OSl.freezeK (f:=WC .i64) (H:=H) (l:=(List.range 160).map (QE d d[n])) (by rw[← Zjm];exact ho) (hw.c);refine⟨_,M9,rfl,g1,g2,?_⟩;rw[show Rj d ((n:Nat):Int)=_ from Om hc hn];exact⟨s1,by rw[← g3];rfl,g4,g5⟩
end Go.Proofs.YtglnjnacodgmaaaGreatDoor
namespace Go.Esp
theorem AV{rows:List (Sl Zr)}{i:Nat}{a:Option Addr}{c:Nat}{l:List Zr}(hi:i<rows.length)(d:rows[i]=⟨a,c,l⟩):((rows.take i).map Sl.l).flatten.length+l.length≤(rows.map Sl.l).flatten.length:=by
 have h:=Mw hi d;have h2:(rows.map Sl.l).flatten=((rows.take (i+1)).map Sl.l).flatten++((rows.drop (i+1)).map Sl.l).flatten:=by
  rw[← List.flatten_append,← C6,F0]
 grind
def Wf(l:List Zr)(i:Nat):List Zr:=l.drop (i+1)++l.take i
theorem QW{l:List Zr}{i:Nat}(hi:i<l.length):(Wf l i).length=l.length-1:=by
 unfold Wf;simp;omega
theorem Ex{l:List Zr}{i k:Nat}(hi:i<l.length)(hk:k+1<l.length):(Wf l i)[k]?=l[(i+(k+1)) % l.length]?:=by
 unfold Wf;rcases C7 (i+(k+1)) l.length with h|h
 ·rw[F5 jU,List.getElem?_drop,E3 h];grind
 rw[G2 jU,Nat.mod_eq_sub_mod h,E3 jD,List.getElem?_take_of_lt jU];grind
theorem Ge{l:List Zr}{d:Zr}(h:0<l.length):l.getLastD d=l[l.length-1]'(by omega):=by
 grind
def Qm(f:Nat→Zr)(d:Zr)(k:Nat):List Zr:=(List.range 160).map fun j=>if j<k then f j else d
theorem Hj(f:Nat→Zr)(d:Zr):Qm f d 0=List.replicate 160 d:=by
 rfl
theorem DA(f:Nat→Zr)(d:Zr):Qm f d 160=(List.range 160).map f:=by
 rfl
theorem Dz(f:Nat→Zr)(d:Zr)(k:Nat):(Qm f d k).length=160:=by unfold Qm;simp
theorem Zjj(f:Nat→Zr)(d:Zr){k:Nat}(hk:k<160){v:Zr}(g:v=f k):(Qm f d k).set k v=Qm f d (k+1):=by
 unfold Qm;refine J4 jQ fun j h1 h2=>?_;grind
theorem Hk(f:Nat→Zr)(d:Zr){k:Nat}(g:d=f k):Qm f d k=Qm f d (k+1):=by
 unfold Qm;grind
def MN(l:List Zr)(i:Nat)(p:Zr)(k:Nat):Zr:=if Ve l (p.id+To k)=i then Yj else l[Ve l (p.id+To k)]?.getD Yj
def RH(l:List Zr)(r:Nat)(i:Nat)(p:Zr):Tb :=
 ⟨p,(Wf l i).getLastD Yj,(Wf l i).take r,(List.range 160).map (MN l i p)⟩
def Nb(l:List Zr)(r:Nat):List Tb:=l.mapIdx (RH l r)
def Re(l:List Zr)(r:Int):List Tb×Int:=if Xk l∧1≤r∧r≤8 then(Nb l r.toNat,0)else([],1)
theorem LB{l:List Zr}{r:Nat}(h:Xk l)(h1:1≤r)(h2:r≤8):Re l (r:Int)=(Nb l r,0):=by
 unfold Re;grind
theorem Ns{l:List Zr}{r:Int}(h:¬(Xk l∧1≤r∧r≤8)):Re l r=([],1):=A4 h
theorem Es{l:List Zr}{r k:Nat}(hk:k<l.length):(Nb l r).take (k+1)=(Nb l r).take k++[RH l r k l[k]]:=by
 rw[C9];unfold Nb;grind
theorem Tp{l:List Zr}{r:Nat}:(Nb l r).length=l.length:=by unfold Nb;simp
def Zzw(M:Mem)(v:Value)(l:List Tb):Prop:=∃ s:Sl ZK,v=s.val∧s.l.map ZK.tb=l∧SlK M ZK.segs 44 s∧∀ t∈s.l,ZK.ok M t
def Yaj(M:Mem)(v:Value)(r:List Tb×Int):Prop:=∃ u,v=.tuple #[u,.int .i64 r.2]∧Zzw M u r.1
end Go.Esp
namespace Go.Proofs.YtglnjnacodgmaaaGreatDoor
open Go.Esp
theorem F.ok146:Ta Tryz.prog 146=true:=by kernel_rfl
theorem Zvk(M:Mem)(p:Zr)(h:Yf p.addr):Fh Tryz.prog 87 [p.enc] M [] (fun M' v d=>M'=M∧∃ v2,v=.tuple #[WX [.one (.int .i64 p.addr),ZU p.id,.one (.int .i64 (-1)),ZU 0,.one (.slice none 0 0),.one v2],.int .i64 0]∧OSl 38 21 v2 d (List.replicate 160 Yj.segs)):=by
 obtain⟨U,B⟩:=p;refine Uu Tryz.func87 rfl Tryz.ntmps87 rfl ?_;intro H;refine S3 ?_;intro V;refine Stp ?_;intro Z;refine S8 ?_;refine Vn (Zoo _ _) ?_;rintro _ rfl;refine S3 ?_;refine Xb (eT fun y=>?_) (eF fun y=>?_)
 ·contradiction
 refine S3 ?_;refine Ya (l:=[0,1,2,3,4,5,6,7]) #[0,0,2,6,14,31,63,127] _ rfl jI jI St.drawn (fun _ h=>h) ?_;refine Stp ?_;refine Vn (VD _) ?_;rintro _ rfl;refine Xs 10 rfl (show _=WX [.one (.int .i64 (-1)),ZU 0]from rfl) ?_;refine Vn (VD _) ?_;rintro _ rfl;refine Xs 11 rfl (show _=WX [.one (.int .i64 (-1)),ZU 0]from rfl) ?_;refine YK rfl rfl F.elem39 F.zero38 rfl rfl (.cons rfl jG .nil) rfl rfl jK rfl ?_;intro T g;refine We (Cb M _ _ g) ?_;rintro v9 L R K ⟨D,j⟩;subst L;obtain⟨O,C,rfl⟩:=j.val;refine XN rfl rfl F.bld41 (.cons rfl jG (.cons rfl jG (.cons rfl jG .nil))) rfl rfl ?_;refine S5 ?_;refine ZH fun w hw=>?_;exact⟨_,M,_,rfl,Mem.le.refl M,hw.c,rfl,_,rfl,j⟩
theorem Zls(M:Mem)(n:Nat)(K:n≤1000000):Fh Tryz.prog 146 [.slice none 0 0,.int .i64 (n:Int)] M [] (fun M' v d=>M'=M∧OSl 38 21 v d []):=by
 refine Uu Tryz.func146 rfl Tryz.ntmps146 rfl ?_;intro H;refine S12 ?_;refine Xb (cT fun g=>?_) (cF fun g=>?_)
 ·(exfalso;omega)
 refine S7 ?_;refine X_cap_sl rfl rfl rfl rfl F.elem39 rfl ?_;refine S4 ?_;rw[show((n:Int)-(((0:Nat):Int)-((0:Nat):Int)))=(n:Int)by omega];refine S9 ?_;refine Xb (cT fun y=>?_) (cF fun y=>?_)
 ·refine S3 ?_;refine X_cap_sl rfl rfl rfl rfl F.elem39 rfl ?_;refine WL rfl rfl rfl .none (.some (k:=0) rfl rfl) .none F.elem39 jQ jQ jQ jQ (show WK none 21 0 0 0=.slice none 0 0 from rfl) rfl ?_;refine Stp ?_;refine Zle (k:=n) rfl rfl rfl rfl F.elem39 Tryz.underlying3 F.zero38 (VV rfl) rfl jD jD jD rfl ?_;intro D C j g B;refine S2 ?_;refine WL rfl rfl rfl .none (.some (k:=0) rfl rfl) .none F.elem39 jQ jQ jQ jQ (show WK (some ⟨D,0,none⟩) 21 0 0 C=.slice (some ⟨D,0,none⟩) 0 C from SV) rfl ?_;refine S10 ?_;refine ZH fun w hw=>?_;exact⟨_,M,j,rfl,Mem.le.refl M,hw.c,rfl,B⟩
 refine S9 ?_;refine ZH fun w hw=>?_;exact⟨_,M,[],rfl,Mem.le.refl M,hw.c,rfl,OSl.nil⟩
theorem Zlv(M:Mem)(Hin:Hp)(ad:Option Addr)(c:Nat)(rs:List (Sl Zr))(hl:RdS M Hin ad (rs.map (fun s=>[.one s.val])) 1)(O:∀ s∈rs,SlK M Zr.segs 21 s)(hn:rs.length≤1000000)(hb:((rs.map Sl.l).flatten).length≤1000000):Fh Tryz.prog 88 [.slice ad rs.length c] M Hin (fun M' v L=>M'=M∧∃ hs,L=hs++Hin∧OSl 38 21 v hs (((rs.map Sl.l).flatten).map Zr.segs)):=by
 refine Uu Tryz.func88 rfl Tryz.ntmps88 rfl ?_;intro H;have T:=hl.app H;have ao:(rs.map (fun s:Sl Zr=>[Seg.one s.val])).length=rs.length:=A8 ..;refine S19 ?_;refine VG [11,3,10,9,2,0] ?_;refine Un (.succ (.succ .zero)) (fun(k:Nat) z=>z=[(11,.int .i64 (k:Int)),(3,.int .i64 ((((rs.take k).map Sl.l).flatten.length:Nat):Int))]∧k≤rs.length) (fun k=>rs.length-k) (0) (⟨rfl,by omega⟩) ?_;rintro k _ ⟨rfl,hk⟩;refine S6 ?_;refine Xb (cT fun V=>?_) (cF fun V=>?_)
 ·refine S5 ?_;have d:k<rs.length:=by omega
  obtain⟨⟨B,C,g⟩,j⟩:∃ s,rs[k]=s:=⟨_,rfl⟩
  have R:SlK M Zr.segs 21 ⟨B,C,g⟩:=j ▸ O rs[k] (C1 d);have Z:=AV d j;have ag:(g.map Zr.segs).length=g.length:=A8 ..;refine S3 ?_;rw[j];refine S18 ?_;refine Xb (cT fun ab=>?_) (cF fun ab=>?_)
  ·(exfalso;omega)
  refine S7 ?_;refine VX (a':=[(11,_),(3,_)]) (k+1) (.cons (k:=11) rfl (.cons (k:=3) rfl (.cons (k:=10) rfl (.cons (k:=9) rfl (.cons (k:=2) rfl (.cons (k:=0) rfl (.nil))))))) (fun w hw=>by first|exact hw|exact hw.c) ?_ ?_
  ·exact⟨by rw[Mw d j,B3];rfl,by omega⟩
  omega
 refine S8 ?_;refine Zxy rfl rfl F.ok146 rfl (Zls M _ (by have h9:k=rs.length:=jD;rw[h9,G0];exact hb)) jA (fun _ _ _ hm hw=>(hw.lower (by exact hm)).c) (XK rfl) ?_;rintro v6 y aa ah ⟨D,ae⟩;subst y;refine S12 ?_;refine VG [27,6,26,25,2] ?_;refine XV (Hin:=aa) (.succ (.succ .zero)) jA (fun(k:Nat) y h1 z=>∃ v,y=M∧z=[(27,.int .i64 (k:Int)),(6,v)]∧k≤rs.length∧OSl 38 21 v h1 (((rs.take k).map Sl.l).flatten.map Zr.segs)) (fun k=>rs.length-k) (0) (⟨_,rfl,rfl,by omega,ae⟩) ?_;rintro k y h1 z ah ⟨v0,D,rfl,hk,ho⟩;subst D;obtain⟨aq,an,rfl⟩:=ho.valL;have ar:(((rs.take k).map Sl.l).flatten.map Zr.segs).length=((rs.take k).map Sl.l).flatten.length:=A8 ..;have al:RdS y (h1++(Hin++H)) ad (rs.map (fun s=>[.one s.val])) 1:=T.cnt (by intro zz;simp only[WG];omega);refine S6 ?_;refine Xb (cT fun ai=>?_) (cF fun ai=>?_)
 ·refine S5 ?_;have d:k<rs.length:=by omega
  obtain⟨⟨B,C,g⟩,j⟩:∃ s,rs[k]=s:=⟨_,rfl⟩
  have R:SlK y Zr.segs 21 ⟨B,C,g⟩:=j ▸ O rs[k] (C1 d);have Z:=AV d j;have ag:(g.map Zr.segs).length=g.length:=A8 ..;refine S3 ?_;rw[j];refine S6 ?_;refine Zlf (m:=1000000) rfl rfl rfl rfl rfl F.elem39 F.zero38 zI rfl jE jA (R.h1) Zr.flat jD jM rfl ?_;intro v6 U K;obtain⟨ak,aj,rfl⟩:=K.val;refine S8 ?_;refine YO (a':=[(27,_),(6,_)]) (k+1) (U) (.cons (k:=27) rfl (.cons (k:=6) rfl (.cons (k:=26) rfl (.cons (k:=25) rfl (.cons (k:=2) rfl (.nil)))))) jO (fun w hw=>by first|exact hw|exact hw.c) ?_ ?_
  ·refine⟨_,rfl,rfl,by omega,?_⟩;rw[Mw d j,C6];exact K
  omega
 refine S12 ?_;refine ZH fun w hw=>?_;obtain rfl:k=rs.length:=by omega
 rw[G0]at ho ⊢;exact⟨_,y,h1++Hin,rfl,Mem.le.refl _,hw.c,rfl,h1,rfl,ho⟩
end Go.Proofs.YtglnjnacodgmaaaGreatDoor
