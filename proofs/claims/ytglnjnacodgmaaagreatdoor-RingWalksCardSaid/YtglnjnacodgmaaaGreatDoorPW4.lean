/-
  Texts of this claim, one behind the other: W1, WireN, W2, W3, W4, W5, DeferN, W6, BagN, Bag1, Bag2, Bag3, ReqN, RingM, RingH, MapsI, RingI, R1, R2, R3, SortN, SortIL, R4, KT1, KT2, KT3, TableN, WalkM, V1, V2, CircleN, V6, SetM, V7.
-/
import Derived.Test.YtglnjnacodgmaaaGreatDoorPW3
import Derived.Defers
import Derived.Recover
import Derived.Test.YtglnjnacodgmaaaGreatDoorRows
import Derived.Maps.RangeRun
import Derived.Shelf.Sort.Plain
import Derived.Shelf.Slices.In.SortNone
import Derived.Ground.NamesProg
set_option linter.unusedSimpArgs false
set_option linter.unusedVariables false
set_option linter.unnecessarySimpa false
set_option maxRecDepth 8000
set_option maxHeartbeats 1000000
open Array renaming getElem?_eq_some_iff → E4,getElem?_eq_getElem → E8
open BitVec renaming toNat_ofNat → H4
open Decidable renaming byContradiction → C2
open List renaming getElem?_eq_getElem → A7,length_map → A8,mem_singleton → B0,mem_cons_self → B1,mem_cons_of_mem → B2,length_append → B3,cons_append → B4,append_assoc → B5,nil_append → B6,mem_cons → B7,mem_append → B8,mem_map → C0,getElem_mem → C1,getElem?_eq_some_iff → C4,mem_append_left → C5,map_append → C6,length_cons → C8,take_add_one → C9,mem_append_right → D0,map_cons → D3,eq_nil_of_length_eq_zero → D4,length_nil → D5,pairwise_cons → D6,length_take → D8,nodup_cons → D9,append_nil → E0,pairwise_iff_getElem → E1,getElem_of_mem → E2,getElem?_map → E6,all_eq_true → E7,take_append_drop → F0,getElem?_append_left → F5,mem_filter → F6,take_length → G0,getElem?_append_right → G2,foldl_cons → G6,mem_range → G7,mem_map_of_mem → G8,findIdx_cons → G9,nodup_append → H3,mem_of_getElem? → H8,get_eq_getElem → H9,getElem?_take → I1,map_map → I2,foldl_append → I4,length_singleton → I6,getElem_map → I7,nodup_nil → J1,ext_getElem → J4
open List.Mem renaming head → J3,tail → J6
open List.Pairwise renaming nil → J8
open List.cons renaming injEq → J9
open Nat renaming le_refl → B9,zero_le → C3,lt_or_ge → C7,le_of_ble_eq_true → D1,mod_eq_of_lt → E3,zero_add → F2,eq_of_beq_eq_true → F8,le_trans → H7
open Option renaming map_some → E9,getD_some → F7
open Option.some renaming inj → A5,injEq → G1
open Prod.mk renaming injEq → I8
namespace Go.Proofs.YtglnjnacodgmaaaGreatDoor
open Go.Esp
theorem F.elem202:Na Tryz.prog 202=some (5,1,1):=by kernel_rfl
theorem F.zero5:XP Tryz.prog 5=some ((.int .u8 0)):=by kernel_rfl
def Gd:ByteArray:=⟨#[0,1,2,2,3,3,3,3,4,4,4,4,4,4,4,4,5,5,5,5,5,5,5,5,5,5,5,5,5,5,5,5,6,6,6,6,6,6,6,6,6,6,6,6,6,6,6,6,6,6,6,6,6,6,6,6,6,6,6,6,6,6,6,6,7,7,7,7,7,7,7,7,7,7,7,7,7,7,7,7,7,7,7,7,7,7,7,7,7,7,7,7,7,7,7,7,7,7,7,7,7,7,7,7,7,7,7,7,7,7,7,7,7,7,7,7,7,7,7,7,7,7,7,7,7,7,7,7,8,8,8,8,8,8,8,8,8,8,8,8,8,8,8,8,8,8,8,8,8,8,8,8,8,8,8,8,8,8,8,8,8,8,8,8,8,8,8,8,8,8,8,8,8,8,8,8,8,8,8,8,8,8,8,8,8,8,8,8,8,8,8,8,8,8,8,8,8,8,8,8,8,8,8,8,8,8,8,8,8,8,8,8,8,8,8,8,8,8,8,8,8,8,8,8,8,8,8,8,8,8,8,8,8,8,8,8,8,8,8,8,8,8,8,8,8,8,8,8,8,8,8,8,8,8,8,8]⟩
theorem QD:∀ k<256,(XR Gd).getD k 0=JY k:=by decide +kernel
theorem Zqk (M:Mem) (v:Nat) (hv:v<18446744073709551616):Fs Tryz.prog 135 [.int .u64 (v:Int)] M (fun r=>r=.int .i64 ((JY v:Nat):Int)):=by
 refine Xa Tryz.func135 rfl Tryz.ntmps135 rfl ?_;intro H;refine S12 ?_;refine Xb (cT fun hc1=>?_) (cF fun hc1=>?_)
 ·refine S3 ?_;refine VK rfl rfl rfl rfl jM (Uw 32 jM) rfl rfl ?_;refine Stp ?_;refine Xs 0 rfl (show _=Value.int .u64 ((((v / 4294967296):Nat):Int)) from congrArg _ jD) ?_;refine S13 ?_;refine Xb (cT fun hc2=>?_) (cF fun hc2=>?_)
  ·refine S3 ?_;refine VK rfl rfl rfl rfl jM (Uw 16 jM) rfl rfl ?_;refine Stp ?_;refine Xs 0 rfl (show _=Value.int .u64 (((((v / 4294967296) / 65536):Nat):Int)) from congrArg _ jD) ?_;refine S15 ?_;refine Xb (cT fun hc3=>?_) (cF fun hc3=>?_)
   ·refine S3 ?_;refine VK rfl rfl rfl rfl jM (Uw 8 jM) rfl rfl ?_;refine Stp ?_;refine Xs 0 rfl (show _=Value.int .u64 ((((((v / 4294967296) / 65536) / 256):Nat):Int)) from congrArg _ jD) ?_;refine S12 ?_;have hb9:=QR (n:=(((v / 4294967296) / 65536) / 256)) (k:=8) jY;refine Stp ?_;refine Xs 21 rfl (show _=Value.int .u8 ((((((v / 4294967296) / 65536) / 256):Nat):Int)) from congrArg _ zH) ?_;refine VH (k:=(((v / 4294967296) / 65536) / 256)) (s:=Gd) rfl rfl rfl rfl Tryz.underlying9 zH jY (show _=Value.int .u8 ((JY (((v / 4294967296) / 65536) / 256):Nat):Int) from by rw [QD _ jD]) rfl ?_;refine S6 ?_;refine ZH fun w hw=>?_;refine ⟨_,rfl,hw.c,congrArg (Value.int .i64) ?_⟩;have e32:=Tv (n:=v) (k:=32) (by show 4294967296≤_;omega);rw [show (2:Nat) ^ 32=4294967296 from rfl] at e32;have e16:=Tv (n:=(v / 4294967296)) (k:=16) (by show 65536≤_;omega);rw [show (2:Nat) ^ 16=65536 from rfl] at e16;have e8:=Tv (n:=((v / 4294967296) / 65536)) (k:=8) (by show 256≤_;omega);rw [show (2:Nat) ^ 8=256 from rfl] at e8;omega
   ·refine S6 ?_;have hb9:=QR (n:=((v / 4294967296) / 65536)) (k:=8) jY;refine Stp ?_;refine Xs 21 rfl (show _=Value.int .u8 (((((v / 4294967296) / 65536):Nat):Int)) from congrArg _ zH) ?_;refine VH (k:=((v / 4294967296) / 65536)) (s:=Gd) rfl rfl rfl rfl Tryz.underlying9 zH jY (show _=Value.int .u8 ((JY ((v / 4294967296) / 65536):Nat):Int) from by rw [QD _ jD]) rfl ?_;refine S6 ?_;refine ZH fun w hw=>?_;refine ⟨_,rfl,hw.c,congrArg (Value.int .i64) ?_⟩;have e32:=Tv (n:=v) (k:=32) (by show 4294967296≤_;omega);rw [show (2:Nat) ^ 32=4294967296 from rfl] at e32;have e16:=Tv (n:=(v / 4294967296)) (k:=16) (by show 65536≤_;omega);rw [show (2:Nat) ^ 16=65536 from rfl] at e16;omega
  ·refine S9 ?_;refine Xb (cT fun hc4=>?_) (cF fun hc4=>?_)
   ·refine S3 ?_;refine VK rfl rfl rfl rfl jM (Uw 8 jM) rfl rfl ?_;refine Stp ?_;refine Xs 0 rfl (show _=Value.int .u64 (((((v / 4294967296) / 256):Nat):Int)) from congrArg _ jD) ?_;refine S12 ?_;have hb9:=QR (n:=((v / 4294967296) / 256)) (k:=8) jY;refine Stp ?_;refine Xs 21 rfl (show _=Value.int .u8 (((((v / 4294967296) / 256):Nat):Int)) from congrArg _ zH) ?_;refine VH (k:=((v / 4294967296) / 256)) (s:=Gd) rfl rfl rfl rfl Tryz.underlying9 zH jY (show _=Value.int .u8 ((JY ((v / 4294967296) / 256):Nat):Int) from by rw [QD _ jD]) rfl ?_;refine S6 ?_;refine ZH fun w hw=>?_;refine ⟨_,rfl,hw.c,congrArg (Value.int .i64) ?_⟩;have e32:=Tv (n:=v) (k:=32) (by show 4294967296≤_;omega);rw [show (2:Nat) ^ 32=4294967296 from rfl] at e32;have e8:=Tv (n:=(v / 4294967296)) (k:=8) (by show 256≤_;omega);rw [show (2:Nat) ^ 8=256 from rfl] at e8;omega
   ·refine S6 ?_;have hb9:=QR (n:=(v / 4294967296)) (k:=8) jY;refine Stp ?_;refine Xs 21 rfl (show _=Value.int .u8 ((((v / 4294967296):Nat):Int)) from congrArg _ zH) ?_;refine VH (k:=(v / 4294967296)) (s:=Gd) rfl rfl rfl rfl Tryz.underlying9 zH jY (show _=Value.int .u8 ((JY (v / 4294967296):Nat):Int) from by rw [QD _ jD]) rfl ?_;refine S6 ?_;refine ZH fun w hw=>?_;refine ⟨_,rfl,hw.c,congrArg (Value.int .i64) ?_⟩;have e32:=Tv (n:=v) (k:=32) (by show 4294967296≤_;omega);rw [show (2:Nat) ^ 32=4294967296 from rfl] at e32;omega
 ·refine S9 ?_;refine Xb (cT fun hc5=>?_) (cF fun hc5=>?_)
  ·refine S3 ?_;refine VK rfl rfl rfl rfl jM (Uw 16 jM) rfl rfl ?_;refine Stp ?_;refine Xs 0 rfl (show _=Value.int .u64 ((((v / 65536):Nat):Int)) from congrArg _ jD) ?_;refine S15 ?_;refine Xb (cT fun hc6=>?_) (cF fun hc6=>?_)
   ·refine S3 ?_;refine VK rfl rfl rfl rfl jM (Uw 8 jM) rfl rfl ?_;refine Stp ?_;refine Xs 0 rfl (show _=Value.int .u64 (((((v / 65536) / 256):Nat):Int)) from congrArg _ jD) ?_;refine S12 ?_;have hb9:=QR (n:=((v / 65536) / 256)) (k:=8) jY;refine Stp ?_;refine Xs 21 rfl (show _=Value.int .u8 (((((v / 65536) / 256):Nat):Int)) from congrArg _ zH) ?_;refine VH (k:=((v / 65536) / 256)) (s:=Gd) rfl rfl rfl rfl Tryz.underlying9 zH jY (show _=Value.int .u8 ((JY ((v / 65536) / 256):Nat):Int) from by rw [QD _ jD]) rfl ?_;refine S6 ?_;refine ZH fun w hw=>?_;refine ⟨_,rfl,hw.c,congrArg (Value.int .i64) ?_⟩;have e16:=Tv (n:=v) (k:=16) (by show 65536≤_;omega);rw [show (2:Nat) ^ 16=65536 from rfl] at e16;have e8:=Tv (n:=(v / 65536)) (k:=8) (by show 256≤_;omega);rw [show (2:Nat) ^ 8=256 from rfl] at e8;omega
   ·refine S6 ?_;have hb9:=QR (n:=(v / 65536)) (k:=8) jY;refine Stp ?_;refine Xs 21 rfl (show _=Value.int .u8 ((((v / 65536):Nat):Int)) from congrArg _ zH) ?_;refine VH (k:=(v / 65536)) (s:=Gd) rfl rfl rfl rfl Tryz.underlying9 zH jY (show _=Value.int .u8 ((JY (v / 65536):Nat):Int) from by rw [QD _ jD]) rfl ?_;refine S6 ?_;refine ZH fun w hw=>?_;refine ⟨_,rfl,hw.c,congrArg (Value.int .i64) ?_⟩;have e16:=Tv (n:=v) (k:=16) (by show 65536≤_;omega);rw [show (2:Nat) ^ 16=65536 from rfl] at e16;omega
  ·refine S9 ?_;refine Xb (cT fun hc7=>?_) (cF fun hc7=>?_)
   ·refine S3 ?_;refine VK rfl rfl rfl rfl jM (Uw 8 jM) rfl rfl ?_;refine Stp ?_;refine Xs 0 rfl (show _=Value.int .u64 ((((v / 256):Nat):Int)) from congrArg _ jD) ?_;refine S12 ?_;have hb9:=QR (n:=(v / 256)) (k:=8) jY;refine Stp ?_;refine Xs 21 rfl (show _=Value.int .u8 ((((v / 256):Nat):Int)) from congrArg _ zH) ?_;refine VH (k:=(v / 256)) (s:=Gd) rfl rfl rfl rfl Tryz.underlying9 zH jY (show _=Value.int .u8 ((JY (v / 256):Nat):Int) from by rw [QD _ jD]) rfl ?_;refine S6 ?_;refine ZH fun w hw=>?_;refine ⟨_,rfl,hw.c,congrArg (Value.int .i64) ?_⟩;have e8:=Tv (n:=v) (k:=8) (by show 256≤_;omega);rw [show (2:Nat) ^ 8=256 from rfl] at e8;omega
   ·refine S6 ?_;have hb9:=QR (n:=v) (k:=8) jY;refine Stp ?_;refine Xs 21 rfl (show _=Value.int .u8 (((v:Nat):Int)) from congrArg _ zH) ?_;refine VH (k:=v) (s:=Gd) rfl rfl rfl rfl Tryz.underlying9 zH jY (show _=Value.int .u8 ((JY v:Nat):Int) from by rw [QD _ jD]) rfl ?_;refine S6 ?_;refine ZH fun w hw=>?_;refine ⟨_,rfl,hw.c,congrArg (Value.int .i64) ?_⟩;omega
theorem Zub (v k:Nat):w8 ((v:Int) / 2 ^ (8 * k))=((v / 256 ^ k % 256:Nat):Int):=by
 rw [show (256:Nat) ^ k=2 ^ (8 * k) by rw [show (256:Nat)=2 ^ 8 from rfl,← Nat.pow_mul]];unfold w8;rw [Int.natCast_emod,Int.natCast_ediv,Int.natCast_pow];rfl
theorem Zgs (M:Mem) (v:Nat) (hv:v<18446744073709551616):Esp.Fn Tryz.prog 222 [.int .u64 (v:Int)] M (fun M' r=>∃ ad c,r=.slice (some ad) (Sa v+1) c∧SlM M' (some ad) ((SL v).map u8R) 1):=by
 have hl8:=Jh hv;have hb8:=QR (n:=v) (k:=64) hv;refine WE Tryz.func222 rfl Tryz.ntmps222 rfl ?_;intro H;refine S8 ?_;refine Vn (Zqk _ _ jE) ?_;rintro _ rfl;refine S4 ?_;refine Xs 3 rfl (show _=Value.int .i64 (((Sa v:Nat):Int)) from congrArg _ (by unfold Sa;omega)) ?_;refine S6 ?_;refine YK rfl rfl F.elem202 F.zero5 rfl rfl (.cons rfl jG .nil) rfl rfl jK rfl ?_;intro b1 hob2;refine S12 ?_;refine VG [5,4,3,2,0] ?_;refine XV (Hin:=_) (.succ (.succ .zero)) jA (fun (k:Nat) M1 h1 z=>∃ v1,M1=M∧z=[(5,.int .i64 ((Sa v:Int)-1-k)),(4,v1)]∧k≤Sa v∧OSl 5 1 v1 h1 ((Sa v::(beL (Sa v) v).take k).map u8R)) (fun k=>Sa v-k) (0) (⟨_,rfl,(by rw [show ((Sa v:Int)-1-((0:Nat):Int))=(Sa v:Int)-1 from Int.sub_zero _]),by omega,hob2⟩) ?_;rintro k M1 h1 z hm1 ⟨v1,hM1,rfl,hk,ho⟩;obtain rfl:=hM1.symm;obtain ⟨ad1,cp1,rfl⟩:=ho.valL;have hlr:(Sa v::(beL (Sa v) v).take k).length=k+1:=by rw [List.length_cons,List.length_take,SI];omega
 have hlm:((Sa v::(beL (Sa v) v).take k).map u8R).length=k+1:=by rw [List.length_map,hlr]
 refine S7 ?_;refine Xb (cT fun hc3=>?_) (cF fun hc3=>?_)
 ·refine S9 ?_;refine Xs 23 rfl (show _=Value.int .i64 (((8 * (Sa v-1-k):Nat):Int)) from congrArg _ jD) ?_;refine VK rfl rfl rfl rfl jD (Uw (8 * (Sa v-1-k)) (by show 8 * _≤64;omega)) rfl rfl ?_;refine Stp ?_;refine Xs 25 rfl (show _=Value.int .u8 (((v / 256 ^ (Sa v-1-k) % 256:Nat):Int)) from congrArg _ (Zub v _)) ?_;refine YK rfl rfl F.elem202 F.zero5 rfl rfl (.cons rfl jG .nil) rfl rfl jK rfl ?_;intro b4 hob5;refine Vc (m:=1000000) rfl rfl rfl rfl rfl F.elem202 F.zero5 zH rfl jE jA (Src.own hob5.lens jN rfl jB) jX jM rfl ?_;intro v8 hs7 ho6;obtain ⟨adv8,cpv8,rfl⟩:=ho6.val;refine S7 ?_;refine Xs 19 rfl (show _=Value.int .i64 ((Sa v:Int)-1-((k+1:Nat):Int)) from congrArg _ jD) ?_;refine S2 ?_;refine YO (a':=[(5,_),(4,_)]) (k+1) (hs7) (.cons (k:=5) rfl (.cons (k:=4) rfl (.cons (k:=3) rfl (.cons (k:=2) rfl (.cons (k:=0) rfl (.nil)))))) jO (fun w hw=>by first|exact hw|exact hw.c) ?_ ?_
  ·refine ⟨_,rfl,rfl,by omega,?_⟩;refine ho6.as9 ?_;rw [Zpn jD,← List.cons_append,List.map_append];rfl
  ·omega
 ·refine S7 ?_;have hcp:=ho.caps;obtain ⟨bq,rfl⟩:=ho.someB jD;refine S3 ?_;refine Xs 30 rfl (show _=Value.int .i64 (((1+Sa v:Nat):Int)) from congrArg _ jD) ?_;refine S2 ?_;refine Xs 32 rfl (show _=Value.int .i64 (((1+Sa v:Nat):Int)) from congrArg _ jD) ?_;refine WL (olo:=none) (ohi:=some (1+Sa v)) (omx:=some (1+Sa v)) rfl rfl rfl .none (.some rfl rfl) (.some rfl rfl) F.elem202 (by show 1+Sa v≤_;omega) (Nat.le_refl _) (Nat.zero_le _) (fun _=>rfl) (show WK _ 1 0 (1+Sa v) (1+Sa v)=.slice (some ⟨bq,0,none⟩) (1+Sa v) (1+Sa v) from by rw [KY jD];rfl) rfl ?_;refine S4 ?_;refine ZH fun w hw=>?_;obtain rfl:k=Sa v:=by omega
  have hw2:=hw.cnt (H':=h1++H) jF;obtain ⟨M2,g1,g2,g3⟩:=ho.frz hw2;have g4:=g3.h1;rw [List.take_of_length_le (by rw [SI];omega)] at g4;exact ⟨_,M2,rfl,g1,g2,⟨bq,0,none⟩,1+Sa v,(by rw [Nat.add_comm 1];rfl),g4⟩
end Go.Proofs.YtglnjnacodgmaaaGreatDoor
namespace Go.Esp
section
variable {P:Program} {n:Sh} {Q:Exit→Act→World→Prop} {M M':Mem} {H H' H0:Hp} {e:Env} {S:World→Prop}
theorem RD {α:Type} {c rest:Code} (pre:α→Env) (F:α→Prop) (S2:α→World→Prop) {e0:Env} (hp:Pick e e0)
 (h1:C P n c (Exit.then (fun a w=>∃ x,F x∧Sat n (pre x++e0) a∧S2 x w) Q) S e) (h2:∀ x,F x→C P n rest Q (S2 x) (pre x++e0)) :
 C P n c (Exit.then (rest.wpIn (Fr n.ro) 0 P Q) Q) S e:=by
 intro a w ha hw;refine wpIn_mono (h1 a w ha hw) fun x a' w' hx=>?_;cases x with
 | normal =>
  obtain ⟨x,hF,hs,hw2⟩:=hx;exact h2 x hF a' w' hs hw2
 | _=>exact hx
theorem Ul {α:Type} {S':World→Prop} {pre:α→Env} {F:α→Prop} {S2:α→World→Prop} {e0 e1:Env} (x:α) (hF:F x) (hp:Pick e1 (pre x++e0)) (hS:∀ w,S' w→S2 x w) :
 K n (Exit.then (fun a w=>∃ x,F x∧Sat n (pre x++e0) a∧S2 x w) Q) .normal S' e1:=fun a w ha hw=>⟨x,hF,ha.pick hp,hS w hw⟩
section
variable {ops:Array Oper}
theorem Zdd {f : FuncId} {g : Operand} {xs : Array Operand} {ats : Array TypeId} {dst : Option Tmp} {ty : TypeId} {pos : String} {af : Array Edge} {gd : Option (Nat × Bool)} {a : Act} {w : World} {vs bs caps : List Value} {fn : Func} {K : Value → World → Prop} (hf : P.funcs[f]? = some fn) (hb : fn.body.isSome = true) (hn : (fn.name == "runtime.NumGoroutine") = false)
 (hg:a.eval g=.func (.func f) bs.toArray caps.toArray) (hv:xs.toList.map a.eval=vs) (h:Calls P f (bs++vs++caps).toArray w fun e w'=>∃ v,e=.returned v∧K v w') :
 Oper.does P ⟨dst,.call ⟨.value g,xs,ats⟩,ty,pos,af,gd⟩ a w K:=by
 unfold Oper.does;have:(execOp a.eval ⟨dst,.call ⟨.value g,xs,ats⟩,ty,pos,af,gd⟩).run P w=.ok (.enter f (bs++vs++caps).toArray) w:=by
  simp only [execOp,resolve,hg,Deferred.ofValue,pure_bind,invoke];have e:bs.toArray++xs.map a.eval++caps.toArray=(bs++vs++caps).toArray:=by
   simp [hv]
  rw [e];unfold callFunc;rw [Sem.run_bind];show (Result.ok P w).andThen _=_;rw [Result.andThen_ok];simp only [hf,hn];have:fn.body.isNone=false:=by cases h':fn.body <;> simp_all
  simp only [this];rfl
 grind
theorem Zrq {n:Sh} {rest:List Nat} {J:World→Prop} {i:Nat} {dst:Option Tmp} {ty:TypeId} {pos:String} {af:Array Edge} {gd:Option (Nat×Bool)} {f:FuncId} {g:Operand} {xs:List Operand} {ats:Array TypeId} {vs bs caps:List Value} {Hin Hr:Hp} {R:Mem→Value→Hp→Prop} (hi:ops[i]?=some ⟨dst,.call ⟨.value g,xs.toArray,ats⟩,ty,pos,af,gd⟩) (hcl:NE P (.call ⟨.value g,xs.toArray,ats⟩)=.eff) (hws:n.wrs.contains i=true) (hg:want ops e gd=some true)
 (hf:Ta P f=true) (hgv:ev e g=some (.func (.func f) bs.toArray caps.toArray)) (hx:evs e xs=some vs) (hc:Fh P f (bs++vs++caps) M Hin R) (hH:Rem Hin H Hr)
 (hd:∀ a v,Sat n e a→Sat n (NN dst v e) (a.put dst v))
 (hk:∀ v M' Hout,M.le M'→R M' v Hout→XD P n ops Q rest (St M' (Hout++Hr)) ⟨M',Hout++Hr⟩ (NN dst v e)):XD P n ops Q (i::rest) J ⟨M,H⟩ e:=by
 obtain ⟨fn,h1,h2,h3⟩:=Ub hf;refine DU hi hcl hws hg (fun a w ha hw=>Zdd h1 h2 h3 (ha.ev hgv) zB ?_);exact (hc Hr w (hw.perm hH.perm)).mono fun e' w' ⟨v,M',Hout,he,hm,hs,hr⟩=>⟨v,he,⟨M',Hout++Hr⟩,_,hs,hd a v ha,hk v M' Hout hm hr⟩
end
theorem KV (x:Plc):Segs.cells [ZU x]=ZV ((Nc x).map u8R):=by
 show Segs.cells [.arr 20 (idV x)]=_;rw [Ry,Kl];rfl
theorem Yan {b:Nat} {x:Plc} {T:TypeId} (hm:(b,Yp [ZU x] T)∈H):Src M H 1 (.slice (some ⟨b,0,none⟩) 20 20) ((Nc x).map u8R):=by
 refine Src.own (E:=T) ?_ ?_ (by rw [A8,Py]) ?_
 ·intro r hr;obtain ⟨y,_,rfl⟩:=C0.1 hr;rfl
 ·intro u hu;rw [Qv] at hu;obtain ⟨z,-,rfl⟩:=C0.1 hu;rfl
 ·rw [← KV];exact hm
end
theorem Zgu {p:Zr}:(!decide (p=⟨-1,0⟩))=decide (p≠Yj):=by
 show (!decide (p=Yj))=_;simp
theorem Zsu {x b:Nat} (hx:x<72057594037927936) (hb:b<256):IntKind.u64.wrap ((BitVec.ofInt IntKind.u64.bits ((x * 256:Nat):Int) ||| BitVec.ofInt IntKind.u64.bits ((b:Nat):Int)).toNat:Int)=((x * 256+b:Nat):Int):=by
 show IntKind.u64.wrap ((BitVec.ofInt 64 ((x * 256:Nat):Int) ||| BitVec.ofInt 64 ((b:Nat):Int)).toNat:Int)=_;rw [BitVec.ofInt_natCast,BitVec.ofInt_natCast,BitVec.toNat_or,H4,H4,E3 jD,E3 jD];have h:=Nat.two_pow_add_eq_or_of_lt (i:=8) (b:=b) hb x;rw [show x * 256=2 ^ 8 * x by omega,← h];exact RX rfl jD
theorem Zsd {l:List Nat} (h:¬WJ l=⟨#[]⟩):0<l.length:=by
 rcases l with _|⟨a,l⟩
 ·exact absurd rfl h
 ·simp
theorem Zui {v n k:Nat} (h:k<n):v / 256 ^ (n-k) * 256+v / 256 ^ (n-1-k) % 256=v / 256 ^ (n-(k+1)):=by
 have e1:n-k=(n-1-k)+1:=by omega
 rw [e1,Nat.pow_succ,← Nat.div_div_eq_div_mul,show n-(k+1)=n-1-k by omega];omega
theorem Zxl {v n k:Nat} (h:k<n) (hn:n≤8) (hv:v<18446744073709551616):v / 256 ^ (n-k)<72057594037927936:=by
 have h1:256 ^ 1≤256 ^ (n-k):=Nat.pow_le_pow_right jM jD;refine Nat.div_lt_of_lt_mul ?_;grind
theorem Zbq (x:Plc):Segs.cells [ZU x]=Tm (WJ (Nc x)):=by
 rw [KV,NF,Qe (Zsq x),Qv,I2];rfl
theorem Up {k:Int} (h:1≤k∧k≤8):∀ b:Int×Bool,b∈[((1:Int),decide (Ue k)),(2,decide (k=1)),(4,decide (k=1)),(8,decide (k=2)),(16,decide (Vm k)),(32,decide (Wn k))] →
 (!decide (IntKind.i64.wrap ((BitVec.ofInt IntKind.i64.bits (VR k).1 &&& BitVec.ofInt IntKind.i64.bits b.1).toNat:Int)=0))=b.2:=by
 have h9:k=1∨k=2∨k=3∨k=4∨k=5∨k=6∨k=7∨k=8:=by omega
 rcases h9 with rfl|rfl|rfl|rfl|rfl|rfl|rfl|rfl <;> decide
end Go.Esp
namespace Go.Proofs.YtglnjnacodgmaaaGreatDoor
open Go.Esp
theorem F.foff219_0:Zjb Tryz.prog 219 0=some 0:=by kernel_rfl
theorem F.lay9:lay Tryz.prog 9=some (false,1):=by kernel_rfl
theorem F.ok157:Ta Tryz.prog 157=true:=by kernel_rfl
theorem F.ok159:Ta Tryz.prog 159=true:=by kernel_rfl
theorem F.ok200:Ta Tryz.prog 200=true:=by kernel_rfl
theorem Cc (M:Mem) (l:List Nat) (v:Nat) (hl:l.length≤1000000) (hv:v<18446744073709551616):Fs Tryz.prog 200 [.string (WJ l),.int .u64 (v:Int)] M (fun r=>r=.string (WJ (l++SL v))):=by
 refine Xa Tryz.func200 rfl Tryz.ntmps200 rfl ?_;intro H;refine S6 ?_;refine Yq (l:=[0,1,2,3,4,5]) [3] rfl ?_;refine S2 ?_;refine PH (Zgs _ v hv) ?_;rintro _ M1 hm1 ⟨ad1,c1,rfl,hs1⟩;refine Zpx (l:=SL v) rfl rfl rfl rfl (SlM.src hs1 (fun u hu=>by rw [Qv] at hu;obtain ⟨z,-,rfl⟩:=C0.1 hu;rfl) (by rw [A8,PB])) F.elem202 Tryz.underlying5 Tryz.underlying9 rfl rfl ?_;refine Zdy rfl rfl rfl rfl (by show (WJ l).size+(WJ (SL v)).size≤_;rw [VE,VE,PB];have:=Jh hv;omega) (show WJ l++WJ (SL v)=_ from Aa _ _) rfl ?_;refine S2 ?_;refine Xj ?_;refine S2 ?_;refine ZH fun w hw=>?_;exact ⟨_,rfl,(hw.c).lower hm1,rfl⟩
theorem JT (M:Mem) (l:List Nat) (x:Plc) (hl:l.length≤1000000):Fs Tryz.prog 159 [.string (WJ l),WX [ZU x]] M (fun r=>r=.string (WJ (l++Nc x))):=by
 refine Xa Tryz.func159 rfl Tryz.ntmps159 rfl ?_;intro H;refine S3 ?_;intro b1;refine S7 ?_;refine Zld (l:=Nc x) rfl rfl rfl (Yan jB) F.elem202 Tryz.underlying5 Tryz.underlying9 rfl rfl ?_;refine Zdy rfl rfl rfl rfl (by show (WJ l).size+(WJ (Nc x)).size≤_;rw [VE,VE,Py];omega) (show WJ l++WJ (Nc x)=_ from Aa _ _) rfl ?_;refine S4 ?_;refine ZH fun w hw=>?_;exact ⟨_,rfl,hw.c,rfl⟩
theorem Ss (M:Mem) (wb:Nat) (l:List Nat) (v:Nat) (hl:l.length≤100000) (hv:v<18446744073709551616):Fh Tryz.prog 157 [.pointer (some ⟨wb,0,none⟩),.int .u64 (v:Int)] M [(wb,Yp [.one (.string (WJ (l)))] 219)] (fun M' r Hout=>M'=M∧r=.tuple #[]∧Hout=[(wb,Yp [.one (.string (WJ (l++SL v)))] 219)]):=by
 refine YI (fun H=>(wb,Yp [.one (.string (WJ (l)))] 219)::H) (fun _=>by simp only [B5,B4,B6]) Tryz.func157 rfl Tryz.ntmps157 rfl ?_;intro H;refine S7 ?_;refine Zur rfl rfl F.ok200 rfl (Cc _ _ _ jD hv) rfl ?_;rintro _ rfl;refine S4 ?_;refine ZH fun w hw=>?_;refine ⟨_,M,[(wb,Yp [.one (.string (WJ (l++SL v)))] 219)],rfl,Mem.le.refl M,hw.c,rfl,rfl,rfl⟩
theorem BR (M:Mem) (wb:Nat) (l:List Nat) (c:Bool) (hl:l.length≤100000):Fh Tryz.prog 160 [.pointer (some ⟨wb,0,none⟩),.bool c] M [(wb,Yp [.one (.string (WJ (l)))] 219)] (fun M' r Hout=>M'=M∧r=.tuple #[]∧Hout=[(wb,Yp [.one (.string (WJ (l++Qi c)))] 219)]):=by
 refine YI (fun H=>(wb,Yp [.one (.string (WJ (l)))] 219)::H) (fun _=>by simp only [B5,B4,B6]) Tryz.func160 rfl Tryz.ntmps160 rfl ?_;intro H;refine S5 ?_;refine Xb (fun hc1=>?_) (fun hc1=>?_)
 ·skip
  refine Yq (l:=[0,1]) [1] rfl ?_;refine Stp ?_;refine Xx (Ss M wb _ (1) jD jD) ?_;rintro _ M1 _ hm1 ⟨hM1,rfl,rfl⟩;obtain rfl:=hM1.symm;simp only [B5,B4,B6];refine Stp ?_;refine Xj ?_;refine ZH fun w hw=>?_;refine ⟨_,M,[(wb,Yp [.one (.string (WJ (l++SL 1)))] 219)],rfl,Mem.le.refl M,hw.c,rfl,rfl,?_⟩;unfold Qi;rw [A6 jE]
 ·skip
  refine Yq (l:=[0,1]) [1] rfl ?_;refine Stp ?_;refine Xx (Ss M wb _ (0) jD jD) ?_;rintro _ M1 _ hm1 ⟨hM1,rfl,rfl⟩;obtain rfl:=hM1.symm;simp only [B5,B4,B6];refine Stp ?_;refine Xj ?_;refine ZH fun w hw=>?_;refine ⟨_,M,[(wb,Yp [.one (.string (WJ (l++SL 0)))] 219)],rfl,Mem.le.refl M,hw.c,rfl,rfl,?_⟩;unfold Qi;rw [A4 (by (simp_all;done))]
theorem HF (M:Mem) (wb:Nat) (l:List Nat) (p:Zr) (hl:l.length≤100000) (hp:Yf p.addr):Fh Tryz.prog 158 [.pointer (some ⟨wb,0,none⟩),p.enc] M [(wb,Yp [.one (.string (WJ (l)))] 219)] (fun M' r Hout=>M'=M∧r=.tuple #[]∧Hout=[(wb,Yp [.one (.string (WJ (l++WB p)))] 219)]):=by
 obtain ⟨YB,p_id⟩:=p;replace hp:0≤YB∧YB≤999:=hp;have hp8:=Jh (v:=YB.toNat) jD;refine YI (fun H=>(wb,Yp [.one (.string (WJ (l)))] 219)::H) (fun _=>by simp only [B5,B4,B6]) Tryz.func158 rfl Tryz.ntmps158 rfl ?_;intro H;refine Zvp (Zap (l:=[0]) rfl ?_);refine Zzq ?_;intro b1;refine Zaj (Zlq (VG [3,0] ?_));refine Zvp (Yq (l:=[0,1,2,3,4]) [4] rfl ?_);refine Zrn ?_;refine Rd F.foff38_0 ?_;refine DS F.lay3 ?_;refine Zrr rfl rfl rfl Tryz.underlying3 Tryz.underlying42 (by exact RX jM jD) rfl ?_;refine Xs 7 rfl (show _=Value.int .u64 (((YB.toNat:Nat):Int)) from A9 _ jD) ?_;refine Zut rfl rfl rfl F.ok157 rfl (Ss M wb _ (YB.toNat) jD jD) jA (XK rfl) ?_;rintro _ M1 _ hm1 ⟨hM1,rfl,rfl⟩;obtain rfl:=hM1.symm;simp only [B5,B4,B6];refine Zaj (Xj ?_);refine Zlq (VG [3,0] ?_);refine Ya (l:=[0,1,2,3,4,5,6,7,8,9,10]) #[0,0,2,6,14,0,32,126,255,511,1023] _ rfl jI jI St.drawn (fun _ h=>h) ?_;iterate 2 refine Zrn ?_
 refine Hx ?_;refine Rd F.foff219_0 ?_;refine DS F.lay9 ?_;refine Rd F.foff38_1 ?_;refine DS F.lay36 ?_;refine Zur rfl rfl F.ok159 rfl (JT _ _ _ (by (simp only [B3,PB] at *;omega))) rfl ?_;rintro _ rfl;refine Hx ?_;refine Rd F.foff219_0 ?_;refine BB F.lay9 ?_;refine Zaj ?_;refine Zec (.inl rfl) (.nil) (fun w hw=>?_);have h9:l++SL YB.toNat++Nc p_id=l++WB ⟨YB,p_id⟩:=by unfold WB;rw [B5]
 rw [h9] at hw;refine ⟨_,M,[(wb,Yp [.one (.string (WJ (l++WB ⟨YB,p_id⟩)))] 219)],rfl,Mem.le.refl M,hw.c,rfl,rfl,rfl⟩
theorem Put_ok (M:Mem) (l:ZI) (hl0:ZI.ok M l) (hI:SP l.lt) (hr:SB l.req):Fs Tryz.prog 104 [l.enc] M (fun v=>v=Value.tuple (#[.string (body l.lt),.int .i64 0])):=by
 obtain ⟨ZF,⟨ZE,ZT⟩,ZX,l_id,⟨ZP,ZQ,ZD⟩,ZS,⟨Zy,ZG⟩,⟨ZO,ZN,ZC⟩⟩:=l;have WU:SlK M (WC .i64) 1 ⟨ZP,ZQ,ZD⟩:=hl0.h0;have s_l_avoid:SlM M ZP (ZD.map (WC .i64)) 1:=WU.h1;have n_l_avoid:(ZD.map (WC .i64)).length=ZD.length:=List.length_map ..;have m_l_avoid:ZD.length≤9223372036854775807:=WU.h2;have c_l_avoid:ZD.length≤ZQ:=WU.h3;have Xf:SlK M Zr.segs 21 ⟨ZO,ZN,ZC⟩:=hl0.h1;have Vv:SlM M ZO (ZC.map Zr.segs) 21:=Xf.h1;have n_l_peers:(ZC.map Zr.segs).length=ZC.length:=List.length_map ..;have m_l_peers:ZC.length≤9223372036854775807:=Xf.h2;have c_l_peers:ZC.length≤ZN:=Xf.h3;obtain ⟨g1,g2,g3,g4,g5,g6,g7,g8,g9,g10,g11,g12,g13,g14⟩:=hI;simp only [ZI.lt] at g1 g2 g3 g4 g5 g6 g7 g8 g9 g10 g11 g12 g13 g14;have hI:SP (ZI.lt ⟨ZF,⟨ZE,ZT⟩,ZX,l_id,⟨ZP,ZQ,ZD⟩,ZS,⟨Zy,ZG⟩,⟨ZO,ZN,ZC⟩⟩):=⟨g1,g2,g3,g4,g5,g6,g7,g8,g9,g10,g11,g12,g13,g14⟩
 obtain ⟨z0,z1,z2,z3,z4,z5,z6⟩:=Zkk hI hr;obtain ⟨r1,r2⟩:=hr;simp only at r1 r2;have hk9:=SC (v:=ZF.toNat) jD;have hf9:=Gq (decide ((⟨Zy,ZG⟩:Zr)≠Yj));refine Xa Tryz.func104 rfl Tryz.ntmps104 rfl ?_;intro H;refine S3 ?_;intro b1;refine S8 ?_;refine Vn (Zao _ ⟨_,⟨_,_⟩,_,_,⟨_,_,_⟩,_,⟨_,_⟩,⟨_,_,_⟩⟩ jE) ?_;rintro _ rfl;refine Xs 12 rfl (show _=Value.bool true from congrArg Value.bool (decide_eq_true hI)) ?_;refine S3 ?_;refine Xb (fun hc2=>?_) (fun hc2=>?_)
 ·skip
  (exfalso;simp [eqX] at hc2;done)
 ·skip
  refine S6 ?_;refine Vn (HV _ _) ?_;rintro _ rfl;refine S11 ?_;intro b3;refine S4 ?_;refine Yq (l:=[0,1,2,3,4]) [4] rfl ?_;refine S4 ?_;refine Xs 25 rfl (show _=Value.int .u64 (((ZF.toNat:Nat):Int)) from congrArg _ jD) ?_;refine Xx (Ss M _ [] (ZF.toNat) jQ jD) ?_;rintro _ M1 _ hm1 ⟨hM1,rfl,rfl⟩;obtain rfl:=hM1.symm;simp only [List.cons_append];rw [List.nil_append];refine Stp ?_;refine Xj ?_;refine S2 ?_;refine Yq (l:=[0,1,2,3]) [3] rfl ?_;refine S3 ?_;refine Xx (HF M _ (SL ZF.toNat) ⟨ZE,ZT⟩ jD g2) ?_;rintro _ M1 _ hm1 ⟨hM1,rfl,rfl⟩;obtain rfl:=hM1.symm;simp only [List.cons_append];rw [List.nil_append];refine Stp ?_;refine Xj ?_;refine S7 ?_;refine Xs 33 rfl (show _=Value.bool (decide (Ue ZF)) from congrArg Value.bool (Up g1 (1,decide (Ue ZF)) jP)) ?_;refine S2 ?_;refine VG [33,6,4,3,2,1] ?_;refine RD (α:=Unit) (fun _=>[]) (fun _=>True) (fun _=>St M ((b3,Yp [.one (.string (WJ (bA1 (ZI.lt ⟨ZF,⟨ZE,ZT⟩,ZX,l_id,⟨ZP,ZQ,ZD⟩,ZS,⟨Zy,ZG⟩,⟨ZO,ZN,ZC⟩⟩))))] 219)::(b1,Yp (ZI.segs ⟨ZF,⟨ZE,ZT⟩,ZX,l_id,⟨ZP,ZQ,ZD⟩,ZS,⟨Zy,ZG⟩,⟨ZO,ZN,ZC⟩⟩) 128)::H)) (.cons (k:=6) rfl (.cons (k:=4) rfl (.cons (k:=3) rfl (.cons (k:=2) rfl (.cons (k:=1) rfl .nil))))) ?_ ?_
  ·skip
   refine Xb (cT fun hc4=>?_) (cF fun hc4=>?_)
   ·refine Yq (l:=[0,1,2,3]) [3] rfl ?_;refine S3 ?_;refine Xs 36 rfl (show _=Value.int .u64 (((ZX.toNat:Nat):Int)) from congrArg _ jD) ?_;refine Xx (Ss M _ (bA0 (ZI.lt ⟨ZF,⟨ZE,ZT⟩,ZX,l_id,⟨ZP,ZQ,ZD⟩,ZS,⟨Zy,ZG⟩,⟨ZO,ZN,ZC⟩⟩)) (ZX.toNat) jD jD) ?_;rintro _ M1 _ hm1 ⟨hM1,rfl,rfl⟩;obtain rfl:=hM1.symm;simp only [List.cons_append];rw [List.nil_append];refine Stp ?_;refine Xj ?_;have he9:bA1 (ZI.lt ⟨ZF,⟨ZE,ZT⟩,ZX,l_id,⟨ZP,ZQ,ZD⟩,ZS,⟨Zy,ZG⟩,⟨ZO,ZN,ZC⟩⟩)=bA0 (ZI.lt ⟨ZF,⟨ZE,ZT⟩,ZX,l_id,⟨ZP,ZQ,ZD⟩,ZS,⟨Zy,ZG⟩,⟨ZO,ZN,ZC⟩⟩)++SL ZX.toNat:=by unfold bA1;rw [if_pos jE] <;> rfl
    exact Ul (α:=Unit) (pre:=fun _=>[]) (F:=fun _=>True) (S2:=fun _=>St M ((b3,Yp [.one (.string (WJ (bA1 (ZI.lt ⟨ZF,⟨ZE,ZT⟩,ZX,l_id,⟨ZP,ZQ,ZD⟩,ZS,⟨Zy,ZG⟩,⟨ZO,ZN,ZC⟩⟩))))] 219)::(b1,Yp (ZI.segs ⟨ZF,⟨ZE,ZT⟩,ZX,l_id,⟨ZP,ZQ,ZD⟩,ZS,⟨Zy,ZG⟩,⟨ZO,ZN,ZC⟩⟩) 128)::H)) (()) (trivial) (.cons (k:=6) rfl (.cons (k:=4) rfl (.cons (k:=3) rfl (.cons (k:=2) rfl (.cons (k:=1) rfl .nil))))) (fun w hw=>by show St _ _ w;rw [he9];first|exact hw|exact hw.c)
   ·refine Stp ?_;have he9:bA1 (ZI.lt ⟨ZF,⟨ZE,ZT⟩,ZX,l_id,⟨ZP,ZQ,ZD⟩,ZS,⟨Zy,ZG⟩,⟨ZO,ZN,ZC⟩⟩)=bA0 (ZI.lt ⟨ZF,⟨ZE,ZT⟩,ZX,l_id,⟨ZP,ZQ,ZD⟩,ZS,⟨Zy,ZG⟩,⟨ZO,ZN,ZC⟩⟩):=by unfold bA1;rw [if_neg jE,List.append_nil]
    exact Ul (α:=Unit) (pre:=fun _=>[]) (F:=fun _=>True) (S2:=fun _=>St M ((b3,Yp [.one (.string (WJ (bA1 (ZI.lt ⟨ZF,⟨ZE,ZT⟩,ZX,l_id,⟨ZP,ZQ,ZD⟩,ZS,⟨Zy,ZG⟩,⟨ZO,ZN,ZC⟩⟩))))] 219)::(b1,Yp (ZI.segs ⟨ZF,⟨ZE,ZT⟩,ZX,l_id,⟨ZP,ZQ,ZD⟩,ZS,⟨Zy,ZG⟩,⟨ZO,ZN,ZC⟩⟩) 128)::H)) (()) (trivial) (.cons (k:=6) rfl (.cons (k:=4) rfl (.cons (k:=3) rfl (.cons (k:=2) rfl (.cons (k:=1) rfl .nil))))) (fun w hw=>by show St _ _ w;rw [he9];first|exact hw|exact hw.c)
  ·rintro _ -;refine S6 ?_;refine Xs 40 rfl (show _=Value.bool (decide (ZF=1)) from congrArg Value.bool (Up g1 (2,decide (ZF=1)) jP)) ?_;refine S2 ?_;refine VG [40,6,4,3,2,1] ?_;refine RD (α:=Unit) (fun _=>[]) (fun _=>True) (fun _=>St M ((b3,Yp [.one (.string (WJ (bA2 (ZI.lt ⟨ZF,⟨ZE,ZT⟩,ZX,l_id,⟨ZP,ZQ,ZD⟩,ZS,⟨Zy,ZG⟩,⟨ZO,ZN,ZC⟩⟩))))] 219)::(b1,Yp (ZI.segs ⟨ZF,⟨ZE,ZT⟩,ZX,l_id,⟨ZP,ZQ,ZD⟩,ZS,⟨Zy,ZG⟩,⟨ZO,ZN,ZC⟩⟩) 128)::H)) (.cons (k:=6) rfl (.cons (k:=4) rfl (.cons (k:=3) rfl (.cons (k:=2) rfl (.cons (k:=1) rfl .nil))))) ?_ ?_
   ·skip
    refine Xb (cT fun hc5=>?_) (cF fun hc5=>?_)
    ·refine Ya (l:=[0,1,2,3,4,5,6,7,8,9,10]) #[0,0,2,6,14,0,32,126,255,511,1023] _ rfl jI jI St.drawn (fun _ h=>h) ?_;refine S7 ?_;refine Zur rfl rfl F.ok159 rfl (JT _ _ _ jD) rfl ?_;rintro _ rfl;refine S4 ?_;have he9:bA2 (ZI.lt ⟨ZF,⟨ZE,ZT⟩,ZX,l_id,⟨ZP,ZQ,ZD⟩,ZS,⟨Zy,ZG⟩,⟨ZO,ZN,ZC⟩⟩)=bA1 (ZI.lt ⟨ZF,⟨ZE,ZT⟩,ZX,l_id,⟨ZP,ZQ,ZD⟩,ZS,⟨Zy,ZG⟩,⟨ZO,ZN,ZC⟩⟩)++Nc l_id:=by unfold bA2;rw [if_pos jE] <;> rfl
     exact Ul (α:=Unit) (pre:=fun _=>[]) (F:=fun _=>True) (S2:=fun _=>St M ((b3,Yp [.one (.string (WJ (bA2 (ZI.lt ⟨ZF,⟨ZE,ZT⟩,ZX,l_id,⟨ZP,ZQ,ZD⟩,ZS,⟨Zy,ZG⟩,⟨ZO,ZN,ZC⟩⟩))))] 219)::(b1,Yp (ZI.segs ⟨ZF,⟨ZE,ZT⟩,ZX,l_id,⟨ZP,ZQ,ZD⟩,ZS,⟨Zy,ZG⟩,⟨ZO,ZN,ZC⟩⟩) 128)::H)) (()) (trivial) (.cons (k:=6) rfl (.cons (k:=4) rfl (.cons (k:=3) rfl (.cons (k:=2) rfl (.cons (k:=1) rfl .nil))))) (fun w hw=>by show St _ _ w;rw [he9];first|exact hw|exact hw.c)
    ·refine Stp ?_;have he9:bA2 (ZI.lt ⟨ZF,⟨ZE,ZT⟩,ZX,l_id,⟨ZP,ZQ,ZD⟩,ZS,⟨Zy,ZG⟩,⟨ZO,ZN,ZC⟩⟩)=bA1 (ZI.lt ⟨ZF,⟨ZE,ZT⟩,ZX,l_id,⟨ZP,ZQ,ZD⟩,ZS,⟨Zy,ZG⟩,⟨ZO,ZN,ZC⟩⟩):=by unfold bA2;rw [if_neg jE,List.append_nil]
     exact Ul (α:=Unit) (pre:=fun _=>[]) (F:=fun _=>True) (S2:=fun _=>St M ((b3,Yp [.one (.string (WJ (bA2 (ZI.lt ⟨ZF,⟨ZE,ZT⟩,ZX,l_id,⟨ZP,ZQ,ZD⟩,ZS,⟨Zy,ZG⟩,⟨ZO,ZN,ZC⟩⟩))))] 219)::(b1,Yp (ZI.segs ⟨ZF,⟨ZE,ZT⟩,ZX,l_id,⟨ZP,ZQ,ZD⟩,ZS,⟨Zy,ZG⟩,⟨ZO,ZN,ZC⟩⟩) 128)::H)) (()) (trivial) (.cons (k:=6) rfl (.cons (k:=4) rfl (.cons (k:=3) rfl (.cons (k:=2) rfl (.cons (k:=1) rfl .nil))))) (fun w hw=>by show St _ _ w;rw [he9];first|exact hw|exact hw.c)
   ·rintro _ -;refine S6 ?_;refine Xs 53 rfl (show _=Value.bool (decide (ZF=1)) from congrArg Value.bool (Up g1 (4,decide (ZF=1)) jP)) ?_;refine S2 ?_;refine VG [53,6,4,3,2,1] ?_;refine RD (α:=Unit) (fun _=>[]) (fun _=>True) (fun _=>St M ((b3,Yp [.one (.string (WJ (bA3 (ZI.lt ⟨ZF,⟨ZE,ZT⟩,ZX,l_id,⟨ZP,ZQ,ZD⟩,ZS,⟨Zy,ZG⟩,⟨ZO,ZN,ZC⟩⟩))))] 219)::(b1,Yp (ZI.segs ⟨ZF,⟨ZE,ZT⟩,ZX,l_id,⟨ZP,ZQ,ZD⟩,ZS,⟨Zy,ZG⟩,⟨ZO,ZN,ZC⟩⟩) 128)::H)) (.cons (k:=6) rfl (.cons (k:=4) rfl (.cons (k:=3) rfl (.cons (k:=2) rfl (.cons (k:=1) rfl .nil))))) ?_ ?_
    ·skip
     refine Xb (cT fun hc6=>?_) (cF fun hc6=>?_)
     ·refine Stp ?_;refine Yq (l:=[0,1,2,3,4,5]) [5] rfl ?_;refine S5 ?_;refine Xx (Ss M _ (bA2 (ZI.lt ⟨ZF,⟨ZE,ZT⟩,ZX,l_id,⟨ZP,ZQ,ZD⟩,ZS,⟨Zy,ZG⟩,⟨ZO,ZN,ZC⟩⟩)) (ZD.length) jD jD) ?_;rintro _ M1 _ hm1 ⟨hM1,rfl,rfl⟩;obtain rfl:=hM1.symm;simp only [List.cons_append];rw [List.nil_append];refine Stp ?_;refine Xj ?_;refine S10 ?_;refine VG [63,62,61,6,4,3,2,1] ?_;refine XV (Hin:=[(b3,Yp [.one (.string (WJ (bA2 (ZI.lt ⟨ZF,⟨ZE,ZT⟩,ZX,l_id,⟨ZP,ZQ,ZD⟩,ZS,⟨Zy,ZG⟩,⟨ZO,ZN,ZC⟩⟩)++SL ZD.length)))] 219)]) (.succ .zero) jA (fun (k:Nat) M1 h1 z=>M1=M∧z=[(63,.int .i64 (k:Int))]∧k≤ZD.length∧h1=[(b3,Yp [.one (.string (WJ (bA2 (ZI.lt ⟨ZF,⟨ZE,ZT⟩,ZX,l_id,⟨ZP,ZQ,ZD⟩,ZS,⟨Zy,ZG⟩,⟨ZO,ZN,ZC⟩⟩)++SL ZD.length++(ZD.take k).flatMap Sw)))] 219)]) (fun k=>ZD.length-k) (0) (⟨rfl,rfl,by omega,by rw [List.take_zero,List.flatMap_nil,List.append_nil]⟩) ?_;rintro k M1 h1 z hm1 ⟨hM1,rfl,hk,rfl⟩;obtain rfl:=hM1.symm;have hfl:=LL (f:=Sw) (l:=ZD) (m:=9) (fun x hx=>Zaf (g13 x hx)) k;have hnl:=SC (v:=ZD.length) jD;refine S6 ?_;refine Xb (cT fun hc7=>?_) (cF fun hc7=>?_)
      ·refine S11 ?_;refine Yq (l:=[0,1,2,3]) [3] rfl ?_;refine S2 ?_;have hak:=g13 _ (List.getElem_mem (l:=ZD) (n:=k) jD);replace hak:0≤ZD[k]∧ZD[k]≤999:=hak;refine Stp ?_;refine Xs 69 rfl (show _=Value.int .u64 (((ZD[k].toNat:Nat):Int)) from congrArg _ jD) ?_;refine Xx (Ss M _ ((bA2 (ZI.lt ⟨ZF,⟨ZE,ZT⟩,ZX,l_id,⟨ZP,ZQ,ZD⟩,ZS,⟨Zy,ZG⟩,⟨ZO,ZN,ZC⟩⟩))++SL ZD.length++(ZD.take k).flatMap Sw) (ZD[k].toNat) jZ jD) ?_;rintro _ M1 _ hm1 ⟨hM1,rfl,rfl⟩;obtain rfl:=hM1.symm;simp only [List.cons_append];rw [List.nil_append];refine Stp ?_;refine Xj ?_;refine S6 ?_;rw [List.append_assoc,show (ZD.take k).flatMap Sw++SL ZD[k].toNat=(ZD.take (k+1)).flatMap Sw from (Du jD).symm];refine YO (a':=[(63,_)]) (k+1) ([(b3,Yp [.one (.string (WJ (bA2 (ZI.lt ⟨ZF,⟨ZE,ZT⟩,ZX,l_id,⟨ZP,ZQ,ZD⟩,ZS,⟨Zy,ZG⟩,⟨ZO,ZN,ZC⟩⟩)++SL ZD.length++(ZD.take (k+1)).flatMap Sw)))] 219)]) (.cons (k:=63) rfl (.cons (k:=62) rfl (.cons (k:=61) rfl (.cons (k:=6) rfl (.cons (k:=4) rfl (.cons (k:=3) rfl (.cons (k:=2) rfl (.cons (k:=1) rfl (.nil))))))))) jO (fun w hw=>by first|exact hw|exact hw.c) ?_ ?_
       ·exact ⟨rfl,rfl,by omega,rfl⟩
       ·omega
      ·refine S4 ?_;obtain rfl:k=ZD.length:=by omega
       have he9:bA3 (ZI.lt ⟨ZF,⟨ZE,ZT⟩,ZX,l_id,⟨ZP,ZQ,ZD⟩,ZS,⟨Zy,ZG⟩,⟨ZO,ZN,ZC⟩⟩)=bA2 (ZI.lt ⟨ZF,⟨ZE,ZT⟩,ZX,l_id,⟨ZP,ZQ,ZD⟩,ZS,⟨Zy,ZG⟩,⟨ZO,ZN,ZC⟩⟩)++SL ZD.length++(ZD.take ZD.length).flatMap Sw:=by unfold bA3;rw [if_pos jE,List.append_assoc,List.take_length] <;> rfl
       exact Ul (α:=Unit) (pre:=fun _=>[]) (F:=fun _=>True) (S2:=fun _=>St M ((b3,Yp [.one (.string (WJ (bA3 (ZI.lt ⟨ZF,⟨ZE,ZT⟩,ZX,l_id,⟨ZP,ZQ,ZD⟩,ZS,⟨Zy,ZG⟩,⟨ZO,ZN,ZC⟩⟩))))] 219)::(b1,Yp (ZI.segs ⟨ZF,⟨ZE,ZT⟩,ZX,l_id,⟨ZP,ZQ,ZD⟩,ZS,⟨Zy,ZG⟩,⟨ZO,ZN,ZC⟩⟩) 128)::H)) (()) (trivial) (.cons (k:=6) rfl (.cons (k:=4) rfl (.cons (k:=3) rfl (.cons (k:=2) rfl (.cons (k:=1) rfl .nil))))) (fun w hw=>by show St _ _ w;rw [he9];first|exact hw|exact hw.c)
     ·refine Stp ?_;have he9:bA3 (ZI.lt ⟨ZF,⟨ZE,ZT⟩,ZX,l_id,⟨ZP,ZQ,ZD⟩,ZS,⟨Zy,ZG⟩,⟨ZO,ZN,ZC⟩⟩)=bA2 (ZI.lt ⟨ZF,⟨ZE,ZT⟩,ZX,l_id,⟨ZP,ZQ,ZD⟩,ZS,⟨Zy,ZG⟩,⟨ZO,ZN,ZC⟩⟩):=by unfold bA3;rw [if_neg jE,List.append_nil]
      exact Ul (α:=Unit) (pre:=fun _=>[]) (F:=fun _=>True) (S2:=fun _=>St M ((b3,Yp [.one (.string (WJ (bA3 (ZI.lt ⟨ZF,⟨ZE,ZT⟩,ZX,l_id,⟨ZP,ZQ,ZD⟩,ZS,⟨Zy,ZG⟩,⟨ZO,ZN,ZC⟩⟩))))] 219)::(b1,Yp (ZI.segs ⟨ZF,⟨ZE,ZT⟩,ZX,l_id,⟨ZP,ZQ,ZD⟩,ZS,⟨Zy,ZG⟩,⟨ZO,ZN,ZC⟩⟩) 128)::H)) (()) (trivial) (.cons (k:=6) rfl (.cons (k:=4) rfl (.cons (k:=3) rfl (.cons (k:=2) rfl (.cons (k:=1) rfl .nil))))) (fun w hw=>by show St _ _ w;rw [he9];first|exact hw|exact hw.c)
    ·rintro _ -;refine S6 ?_;refine Xs 74 rfl (show _=Value.bool (decide (ZF=2)) from congrArg Value.bool (Up g1 (8,decide (ZF=2)) jP)) ?_;refine S2 ?_;refine VG [74,6,4,3,2,1] ?_;refine RD (α:=Unit) (fun _=>[]) (fun _=>True) (fun _=>St M ((b3,Yp [.one (.string (WJ (bA4 (ZI.lt ⟨ZF,⟨ZE,ZT⟩,ZX,l_id,⟨ZP,ZQ,ZD⟩,ZS,⟨Zy,ZG⟩,⟨ZO,ZN,ZC⟩⟩))))] 219)::(b1,Yp (ZI.segs ⟨ZF,⟨ZE,ZT⟩,ZX,l_id,⟨ZP,ZQ,ZD⟩,ZS,⟨Zy,ZG⟩,⟨ZO,ZN,ZC⟩⟩) 128)::H)) (.cons (k:=6) rfl (.cons (k:=4) rfl (.cons (k:=3) rfl (.cons (k:=2) rfl (.cons (k:=1) rfl .nil))))) ?_ ?_
     ·skip
      refine Xb (cT fun hc8=>?_) (cF fun hc8=>?_)
      ·refine Yq (l:=[0,1,2,3]) [3] rfl ?_;refine S3 ?_;refine Xx (BR M _ (bA3 (ZI.lt ⟨ZF,⟨ZE,ZT⟩,ZX,l_id,⟨ZP,ZQ,ZD⟩,ZS,⟨Zy,ZG⟩,⟨ZO,ZN,ZC⟩⟩)) (ZS) jD) ?_;rintro _ M1 _ hm1 ⟨hM1,rfl,rfl⟩;obtain rfl:=hM1.symm;simp only [List.cons_append];rw [List.nil_append];refine Stp ?_;refine Xj ?_;have he9:bA4 (ZI.lt ⟨ZF,⟨ZE,ZT⟩,ZX,l_id,⟨ZP,ZQ,ZD⟩,ZS,⟨Zy,ZG⟩,⟨ZO,ZN,ZC⟩⟩)=bA3 (ZI.lt ⟨ZF,⟨ZE,ZT⟩,ZX,l_id,⟨ZP,ZQ,ZD⟩,ZS,⟨Zy,ZG⟩,⟨ZO,ZN,ZC⟩⟩)++Qi ZS:=by unfold bA4;rw [if_pos jE] <;> rfl
       exact Ul (α:=Unit) (pre:=fun _=>[]) (F:=fun _=>True) (S2:=fun _=>St M ((b3,Yp [.one (.string (WJ (bA4 (ZI.lt ⟨ZF,⟨ZE,ZT⟩,ZX,l_id,⟨ZP,ZQ,ZD⟩,ZS,⟨Zy,ZG⟩,⟨ZO,ZN,ZC⟩⟩))))] 219)::(b1,Yp (ZI.segs ⟨ZF,⟨ZE,ZT⟩,ZX,l_id,⟨ZP,ZQ,ZD⟩,ZS,⟨Zy,ZG⟩,⟨ZO,ZN,ZC⟩⟩) 128)::H)) (()) (trivial) (.cons (k:=6) rfl (.cons (k:=4) rfl (.cons (k:=3) rfl (.cons (k:=2) rfl (.cons (k:=1) rfl .nil))))) (fun w hw=>by show St _ _ w;rw [he9];first|exact hw|exact hw.c)
      ·refine Stp ?_;have he9:bA4 (ZI.lt ⟨ZF,⟨ZE,ZT⟩,ZX,l_id,⟨ZP,ZQ,ZD⟩,ZS,⟨Zy,ZG⟩,⟨ZO,ZN,ZC⟩⟩)=bA3 (ZI.lt ⟨ZF,⟨ZE,ZT⟩,ZX,l_id,⟨ZP,ZQ,ZD⟩,ZS,⟨Zy,ZG⟩,⟨ZO,ZN,ZC⟩⟩):=by unfold bA4;rw [if_neg jE,List.append_nil]
       exact Ul (α:=Unit) (pre:=fun _=>[]) (F:=fun _=>True) (S2:=fun _=>St M ((b3,Yp [.one (.string (WJ (bA4 (ZI.lt ⟨ZF,⟨ZE,ZT⟩,ZX,l_id,⟨ZP,ZQ,ZD⟩,ZS,⟨Zy,ZG⟩,⟨ZO,ZN,ZC⟩⟩))))] 219)::(b1,Yp (ZI.segs ⟨ZF,⟨ZE,ZT⟩,ZX,l_id,⟨ZP,ZQ,ZD⟩,ZS,⟨Zy,ZG⟩,⟨ZO,ZN,ZC⟩⟩) 128)::H)) (()) (trivial) (.cons (k:=6) rfl (.cons (k:=4) rfl (.cons (k:=3) rfl (.cons (k:=2) rfl (.cons (k:=1) rfl .nil))))) (fun w hw=>by show St _ _ w;rw [he9];first|exact hw|exact hw.c)
     ·rintro _ -;refine S6 ?_;refine Xs 81 rfl (show _=Value.bool (decide (Vm ZF)) from congrArg Value.bool (Up g1 (16,decide (Vm ZF)) jP)) ?_;refine S2 ?_;refine VG [81,6,4,3,2,1] ?_;refine RD (α:=Unit) (fun _=>[]) (fun _=>True) (fun _=>St M ((b3,Yp [.one (.string (WJ (bA5 (ZI.lt ⟨ZF,⟨ZE,ZT⟩,ZX,l_id,⟨ZP,ZQ,ZD⟩,ZS,⟨Zy,ZG⟩,⟨ZO,ZN,ZC⟩⟩))))] 219)::(b1,Yp (ZI.segs ⟨ZF,⟨ZE,ZT⟩,ZX,l_id,⟨ZP,ZQ,ZD⟩,ZS,⟨Zy,ZG⟩,⟨ZO,ZN,ZC⟩⟩) 128)::H)) (.cons (k:=6) rfl (.cons (k:=4) rfl (.cons (k:=3) rfl (.cons (k:=2) rfl (.cons (k:=1) rfl .nil))))) ?_ ?_
      ·skip
       refine Xb (cT fun hc9=>?_) (cF fun hc9=>?_)
       ·refine Stp ?_;refine UF (l:=[0,1,2,3,4,5]) [5] #[0,0,2,0,14,31] (_) rfl jI jI St.drawn (fun _ h=>h) ?_;refine S3 ?_;refine Vn (VD _) ?_;rintro _ rfl;refine Xs 85 rfl (show _=WX [.one (.int .i64 (-1)),ZU 0] from rfl) ?_;refine VW (m:=20) rfl rfl rfl rfl rfl jG jG F.lay38 F.kinds38 rfl F.guard38 jR jR rfl rfl rfl ?_;intro c10 he11;replace he11:c10=true↔¬(Segs.cells _=Segs.cells _):=he11;obtain rfl:=neD he11 (Zr.inj (x:=⟨_,_⟩) (y:=⟨_,_⟩));clear he11;refine Xs 86 rfl (show _=Value.bool (decide ((⟨Zy,ZG⟩:Zr)≠Yj)) from congrArg Value.bool Zgu) ?_;refine Xx (BR M _ (bA4 (ZI.lt ⟨ZF,⟨ZE,ZT⟩,ZX,l_id,⟨ZP,ZQ,ZD⟩,ZS,⟨Zy,ZG⟩,⟨ZO,ZN,ZC⟩⟩)) (decide ((⟨Zy,ZG⟩:Zr)≠Yj)) jD) ?_;rintro _ M1 _ hm1 ⟨hM1,rfl,rfl⟩;obtain rfl:=hM1.symm;simp only [List.cons_append];rw [List.nil_append];refine Stp ?_;refine Xj ?_;refine S2 ?_;refine Ya (l:=[0,1,2,3]) #[0,1,0,7] _ rfl jI jI St.drawn (fun _ h=>h) ?_;refine S2 ?_;refine Vn (VD _) ?_;rintro _ rfl;refine Xs 90 rfl (show _=WX [.one (.int .i64 (-1)),ZU 0] from rfl) ?_;refine VW (m:=20) rfl rfl rfl rfl rfl jG jG F.lay38 F.kinds38 rfl F.guard38 jR jR rfl rfl rfl ?_;intro c12 he13;replace he13:c12=true↔¬(Segs.cells _=Segs.cells _):=he13;obtain rfl:=neD he13 (Zr.inj (x:=⟨_,_⟩) (y:=⟨_,_⟩));clear he13;refine Xs 91 rfl (show _=Value.bool (decide ((⟨Zy,ZG⟩:Zr)≠Yj)) from congrArg Value.bool Zgu) ?_;refine S2 ?_;refine Xb (cT fun hc14=>?_) (cF fun hc14=>?_)
        ·refine Yq (l:=[0,1,2,3]) [3] rfl ?_;refine S3 ?_;refine Xx (HF M _ ((bA4 (ZI.lt ⟨ZF,⟨ZE,ZT⟩,ZX,l_id,⟨ZP,ZQ,ZD⟩,ZS,⟨Zy,ZG⟩,⟨ZO,ZN,ZC⟩⟩))++Qi (decide ((⟨Zy,ZG⟩:Zr)≠Yj))) ⟨Zy,ZG⟩ jZ (g5.resolve_left jE)) ?_;rintro _ M1 _ hm1 ⟨hM1,rfl,rfl⟩;obtain rfl:=hM1.symm;simp only [List.cons_append];rw [List.nil_append];refine Stp ?_;refine Xj ?_;have he9:bA5 (ZI.lt ⟨ZF,⟨ZE,ZT⟩,ZX,l_id,⟨ZP,ZQ,ZD⟩,ZS,⟨Zy,ZG⟩,⟨ZO,ZN,ZC⟩⟩)=bA4 (ZI.lt ⟨ZF,⟨ZE,ZT⟩,ZX,l_id,⟨ZP,ZQ,ZD⟩,ZS,⟨Zy,ZG⟩,⟨ZO,ZN,ZC⟩⟩)++Qi (decide ((⟨Zy,ZG⟩:Zr)≠Yj))++WB (⟨Zy,ZG⟩:Zr):=by unfold bA5;rw [if_pos jE,if_pos jE,List.append_assoc] <;> rfl
         exact Ul (α:=Unit) (pre:=fun _=>[]) (F:=fun _=>True) (S2:=fun _=>St M ((b3,Yp [.one (.string (WJ (bA5 (ZI.lt ⟨ZF,⟨ZE,ZT⟩,ZX,l_id,⟨ZP,ZQ,ZD⟩,ZS,⟨Zy,ZG⟩,⟨ZO,ZN,ZC⟩⟩))))] 219)::(b1,Yp (ZI.segs ⟨ZF,⟨ZE,ZT⟩,ZX,l_id,⟨ZP,ZQ,ZD⟩,ZS,⟨Zy,ZG⟩,⟨ZO,ZN,ZC⟩⟩) 128)::H)) (()) (trivial) (.cons (k:=6) rfl (.cons (k:=4) rfl (.cons (k:=3) rfl (.cons (k:=2) rfl (.cons (k:=1) rfl .nil))))) (fun w hw=>by show St _ _ w;rw [he9];first|exact hw|exact hw.c)
        ·refine Stp ?_;have he9:bA5 (ZI.lt ⟨ZF,⟨ZE,ZT⟩,ZX,l_id,⟨ZP,ZQ,ZD⟩,ZS,⟨Zy,ZG⟩,⟨ZO,ZN,ZC⟩⟩)=bA4 (ZI.lt ⟨ZF,⟨ZE,ZT⟩,ZX,l_id,⟨ZP,ZQ,ZD⟩,ZS,⟨Zy,ZG⟩,⟨ZO,ZN,ZC⟩⟩)++Qi (decide ((⟨Zy,ZG⟩:Zr)≠Yj)):=by unfold bA5;rw [if_pos jE,if_neg jE,List.append_nil] <;> rfl
         exact Ul (α:=Unit) (pre:=fun _=>[]) (F:=fun _=>True) (S2:=fun _=>St M ((b3,Yp [.one (.string (WJ (bA5 (ZI.lt ⟨ZF,⟨ZE,ZT⟩,ZX,l_id,⟨ZP,ZQ,ZD⟩,ZS,⟨Zy,ZG⟩,⟨ZO,ZN,ZC⟩⟩))))] 219)::(b1,Yp (ZI.segs ⟨ZF,⟨ZE,ZT⟩,ZX,l_id,⟨ZP,ZQ,ZD⟩,ZS,⟨Zy,ZG⟩,⟨ZO,ZN,ZC⟩⟩) 128)::H)) (()) (trivial) (.cons (k:=6) rfl (.cons (k:=4) rfl (.cons (k:=3) rfl (.cons (k:=2) rfl (.cons (k:=1) rfl .nil))))) (fun w hw=>by show St _ _ w;rw [he9];first|exact hw|exact hw.c)
       ·refine Stp ?_;have he9:bA5 (ZI.lt ⟨ZF,⟨ZE,ZT⟩,ZX,l_id,⟨ZP,ZQ,ZD⟩,ZS,⟨Zy,ZG⟩,⟨ZO,ZN,ZC⟩⟩)=bA4 (ZI.lt ⟨ZF,⟨ZE,ZT⟩,ZX,l_id,⟨ZP,ZQ,ZD⟩,ZS,⟨Zy,ZG⟩,⟨ZO,ZN,ZC⟩⟩):=by unfold bA5;rw [if_neg jE,List.append_nil]
        exact Ul (α:=Unit) (pre:=fun _=>[]) (F:=fun _=>True) (S2:=fun _=>St M ((b3,Yp [.one (.string (WJ (bA5 (ZI.lt ⟨ZF,⟨ZE,ZT⟩,ZX,l_id,⟨ZP,ZQ,ZD⟩,ZS,⟨Zy,ZG⟩,⟨ZO,ZN,ZC⟩⟩))))] 219)::(b1,Yp (ZI.segs ⟨ZF,⟨ZE,ZT⟩,ZX,l_id,⟨ZP,ZQ,ZD⟩,ZS,⟨Zy,ZG⟩,⟨ZO,ZN,ZC⟩⟩) 128)::H)) (()) (trivial) (.cons (k:=6) rfl (.cons (k:=4) rfl (.cons (k:=3) rfl (.cons (k:=2) rfl (.cons (k:=1) rfl .nil))))) (fun w hw=>by show St _ _ w;rw [he9];first|exact hw|exact hw.c)
      ·rintro _ -;refine S6 ?_;refine Xs 98 rfl (show _=Value.bool (decide (Wn ZF)) from congrArg Value.bool (Up g1 (32,decide (Wn ZF)) jP)) ?_;refine S2 ?_;refine VG [98,6,3,2,1] ?_;refine RD (α:=Unit) (fun _=>[]) (fun _=>True) (fun _=>St M ((b3,Yp [.one (.string (WJ (bA6 (ZI.lt ⟨ZF,⟨ZE,ZT⟩,ZX,l_id,⟨ZP,ZQ,ZD⟩,ZS,⟨Zy,ZG⟩,⟨ZO,ZN,ZC⟩⟩))))] 219)::(b1,Yp (ZI.segs ⟨ZF,⟨ZE,ZT⟩,ZX,l_id,⟨ZP,ZQ,ZD⟩,ZS,⟨Zy,ZG⟩,⟨ZO,ZN,ZC⟩⟩) 128)::H)) (.cons (k:=6) rfl (.cons (k:=3) rfl (.cons (k:=2) rfl .nil))) ?_ ?_
       ·skip
        refine Xb (cT fun hc15=>?_) (cF fun hc15=>?_)
        ·refine Stp ?_;refine Yq (l:=[0,1,2,3,4,5]) [5] rfl ?_;refine S5 ?_;refine Xx (Ss M _ (bA5 (ZI.lt ⟨ZF,⟨ZE,ZT⟩,ZX,l_id,⟨ZP,ZQ,ZD⟩,ZS,⟨Zy,ZG⟩,⟨ZO,ZN,ZC⟩⟩)) (ZC.length) jD jD) ?_;rintro _ M1 _ hm1 ⟨hM1,rfl,rfl⟩;obtain rfl:=hM1.symm;simp only [List.cons_append];rw [List.nil_append];refine Stp ?_;refine Xj ?_;refine S10 ?_;refine VG [108,107,106,6,3,2] ?_;refine XV (Hin:=[(b3,Yp [.one (.string (WJ (bA5 (ZI.lt ⟨ZF,⟨ZE,ZT⟩,ZX,l_id,⟨ZP,ZQ,ZD⟩,ZS,⟨Zy,ZG⟩,⟨ZO,ZN,ZC⟩⟩)++SL ZC.length)))] 219)]) (.succ .zero) jA (fun (k:Nat) M1 h1 z=>M1=M∧z=[(108,.int .i64 (k:Int))]∧k≤ZC.length∧h1=[(b3,Yp [.one (.string (WJ (bA5 (ZI.lt ⟨ZF,⟨ZE,ZT⟩,ZX,l_id,⟨ZP,ZQ,ZD⟩,ZS,⟨Zy,ZG⟩,⟨ZO,ZN,ZC⟩⟩)++SL ZC.length++(ZC.take k).flatMap WB)))] 219)]) (fun k=>ZC.length-k) (0) (⟨rfl,rfl,by omega,by rw [List.take_zero,List.flatMap_nil,List.append_nil]⟩) ?_;rintro k M1 h1 z hm1 ⟨hM1,rfl,hk,rfl⟩;obtain rfl:=hM1.symm;have hfl:=LL (f:=WB) (l:=ZC) (m:=29) (fun x hx=>OC (g14 x hx)) k;have hnl:=SC (v:=ZC.length) jD;refine S6 ?_;refine Xb (cT fun hc16=>?_) (cF fun hc16=>?_)
         ·refine S9 ?_;intro b17;refine S3 ?_;refine Yq (l:=[0,1,2]) [2] rfl ?_;refine S2 ?_;refine Xx (HF M _ ((bA5 (ZI.lt ⟨ZF,⟨ZE,ZT⟩,ZX,l_id,⟨ZP,ZQ,ZD⟩,ZS,⟨Zy,ZG⟩,⟨ZO,ZN,ZC⟩⟩))++SL ZC.length++(ZC.take k).flatMap WB) ZC[k] jZ (g14 _ (List.getElem_mem _))) ?_;rintro _ M1 _ hm1 ⟨hM1,rfl,rfl⟩;obtain rfl:=hM1.symm;simp only [List.cons_append];rw [List.nil_append];refine Stp ?_;refine Xj ?_;refine S6 ?_;rw [List.append_assoc,show (ZC.take k).flatMap WB++WB ZC[k]=(ZC.take (k+1)).flatMap WB from (Du jD).symm];refine YO (a':=[(108,_)]) (k+1) ([(b3,Yp [.one (.string (WJ (bA5 (ZI.lt ⟨ZF,⟨ZE,ZT⟩,ZX,l_id,⟨ZP,ZQ,ZD⟩,ZS,⟨Zy,ZG⟩,⟨ZO,ZN,ZC⟩⟩)++SL ZC.length++(ZC.take (k+1)).flatMap WB)))] 219)]) (.cons (k:=108) rfl (.cons (k:=107) rfl (.cons (k:=106) rfl (.cons (k:=6) rfl (.cons (k:=3) rfl (.cons (k:=2) rfl (.nil))))))) jO (fun w hw=>by first|exact hw|exact hw.c) ?_ ?_
          ·exact ⟨rfl,rfl,by omega,rfl⟩
          ·omega
         ·refine S4 ?_;obtain rfl:k=ZC.length:=by omega
          have he9:bA6 (ZI.lt ⟨ZF,⟨ZE,ZT⟩,ZX,l_id,⟨ZP,ZQ,ZD⟩,ZS,⟨Zy,ZG⟩,⟨ZO,ZN,ZC⟩⟩)=bA5 (ZI.lt ⟨ZF,⟨ZE,ZT⟩,ZX,l_id,⟨ZP,ZQ,ZD⟩,ZS,⟨Zy,ZG⟩,⟨ZO,ZN,ZC⟩⟩)++SL ZC.length++(ZC.take ZC.length).flatMap WB:=by unfold bA6;rw [if_pos jE,List.append_assoc,List.take_length] <;> rfl
          exact Ul (α:=Unit) (pre:=fun _=>[]) (F:=fun _=>True) (S2:=fun _=>St M ((b3,Yp [.one (.string (WJ (bA6 (ZI.lt ⟨ZF,⟨ZE,ZT⟩,ZX,l_id,⟨ZP,ZQ,ZD⟩,ZS,⟨Zy,ZG⟩,⟨ZO,ZN,ZC⟩⟩))))] 219)::(b1,Yp (ZI.segs ⟨ZF,⟨ZE,ZT⟩,ZX,l_id,⟨ZP,ZQ,ZD⟩,ZS,⟨Zy,ZG⟩,⟨ZO,ZN,ZC⟩⟩) 128)::H)) (()) (trivial) (.cons (k:=6) rfl (.cons (k:=3) rfl (.cons (k:=2) rfl .nil))) (fun w hw=>by show St _ _ w;rw [he9];first|exact hw|exact hw.c)
        ·refine Stp ?_;have he9:bA6 (ZI.lt ⟨ZF,⟨ZE,ZT⟩,ZX,l_id,⟨ZP,ZQ,ZD⟩,ZS,⟨Zy,ZG⟩,⟨ZO,ZN,ZC⟩⟩)=bA5 (ZI.lt ⟨ZF,⟨ZE,ZT⟩,ZX,l_id,⟨ZP,ZQ,ZD⟩,ZS,⟨Zy,ZG⟩,⟨ZO,ZN,ZC⟩⟩):=by unfold bA6;rw [if_neg jE,List.append_nil]
         exact Ul (α:=Unit) (pre:=fun _=>[]) (F:=fun _=>True) (S2:=fun _=>St M ((b3,Yp [.one (.string (WJ (bA6 (ZI.lt ⟨ZF,⟨ZE,ZT⟩,ZX,l_id,⟨ZP,ZQ,ZD⟩,ZS,⟨Zy,ZG⟩,⟨ZO,ZN,ZC⟩⟩))))] 219)::(b1,Yp (ZI.segs ⟨ZF,⟨ZE,ZT⟩,ZX,l_id,⟨ZP,ZQ,ZD⟩,ZS,⟨Zy,ZG⟩,⟨ZO,ZN,ZC⟩⟩) 128)::H)) (()) (trivial) (.cons (k:=6) rfl (.cons (k:=3) rfl (.cons (k:=2) rfl .nil))) (fun w hw=>by show St _ _ w;rw [he9];first|exact hw|exact hw.c)
       ·rintro _ -;refine S11 ?_;refine ZH fun w hw=>?_;refine ⟨_,rfl,(hw.c),?_⟩;rfl
theorem Zye (M:Mem) (l:ZI) (hl0:ZI.ok M l) (hI:¬SP l.lt):Fs Tryz.prog 104 [l.enc] M (fun v=>v=Value.tuple (#[.string ⟨#[]⟩,.int .i64 1])):=by
 obtain ⟨ZF,⟨ZE,ZT⟩,ZX,l_id,⟨ZP,ZQ,ZD⟩,ZS,⟨Zy,ZG⟩,⟨ZO,ZN,ZC⟩⟩:=l;have WU:SlK M (WC .i64) 1 ⟨ZP,ZQ,ZD⟩:=hl0.h0;have Xf:SlK M Zr.segs 21 ⟨ZO,ZN,ZC⟩:=hl0.h1;refine Xa Tryz.func104 rfl Tryz.ntmps104 rfl ?_;intro H;refine S3 ?_;intro b1;refine S8 ?_;refine Vn (Zao _ ⟨_,⟨_,_⟩,_,_,⟨_,_,_⟩,_,⟨_,_⟩,⟨_,_,_⟩⟩ jE) ?_;rintro _ rfl;refine Xs 12 rfl (show _=Value.bool false from congrArg Value.bool (decide_eq_false hI)) ?_;refine S3 ?_;refine Xb (fun hc2=>?_) (fun hc2=>?_)
 ·skip
  refine S8 ?_;refine ZH fun w hw=>?_;refine ⟨_,rfl,(hw.c),?_⟩;rfl
 ·skip
  (exfalso;simp [eqX] at hc2;done)
theorem F.ok204:Ta Tryz.prog 204=true:=by kernel_rfl
theorem Cq (M:Mem) (rb:Nat) (a b:List Nat) (hz:(a++b).length≤100000) (n:Int) (hn:n=(a.length:Int)):Fh Tryz.prog 224 [.pointer (some ⟨rb,0,none⟩),.int .i64 n] M [(rb,Yp [.one (.string (WJ (a++b)))] 230)] (fun M' r Hout=>M'=M∧r=.tuple #[.string (WJ a),.int .i64 0]∧Hout=[(rb,Yp [.one (.string (WJ (b)))] 230)]):=by
 rw [List.length_append] at hz;subst hn;refine YI (fun H=>(rb,Yp [.one (.string (WJ (a++b)))] 230)::H) (fun _=>by simp only [List.append_assoc,List.cons_append,List.nil_append]) Tryz.func224 rfl Tryz.ntmps224 rfl ?_;intro H;refine S13 ?_;refine Rz Tryz.underlying9 ?_;refine S4 ?_;refine Xb (cT fun hc1=>?_) (cF fun hc1=>?_)
 ·(exfalso;simp only [VE,List.length_append] at *;omega)
 ·refine S9 ?_;refine PF (olo:=none) (ohi:=some a.length) rfl rfl rfl .none (.some rfl rfl) Tryz.underlying9 (by show a.length≤_;rw [VE,List.length_append];omega) (Nat.zero_le _) (show _=WJ a from Zmr a b) rfl ?_;refine S11 ?_;refine PF (olo:=some a.length) (ohi:=none) rfl rfl rfl (.some rfl rfl) .none Tryz.underlying9 (Nat.le_refl _) (by show a.length≤(WJ (a++b)).size;rw [VE,List.length_append];omega) (show _=WJ b from Zez a b) rfl ?_;refine S13 ?_;refine ZH fun w hw=>?_;refine ⟨_,M,[(rb,Yp [.one (.string (WJ (b)))] 230)],rfl,Mem.le.refl M,hw.c,rfl,rfl,rfl⟩
theorem Yao {x:Nat} (hx:x<72057594037927936):LA .shl .u64 ((x:Nat):Int) 8=some ((x * 256:Nat):Int):=by
 show some (IntKind.u64.wrap ((x:Int) * 2 ^ 8))=_;rw [show (x:Int) * 2 ^ 8=((x * 256:Nat):Int) by omega];exact congrArg some (RX rfl jD)
theorem Zji {v:Nat} (hv:v<18446744073709551616) (h:0<Sa v):¬((v / 256 ^ (Sa v-1) % 256:Nat):Int)=0:=by
 have h0:v≠0:=by rintro rfl;exact absurd h jM
 obtain ⟨_,h2⟩:=Ztg h0;have h3:=Zhj v;have e:Sa v=(Sa v-1)+1:=by omega
 rw [e,Nat.pow_succ] at h3;have h4:1≤v / 256 ^ (Sa v-1):=(Nat.le_div_iff_mul_le (Nat.pow_pos jM)).2 jD;have h5:v / 256 ^ (Sa v-1)<256:=Nat.div_lt_of_lt_mul jD;omega
theorem Znm (M:Mem) (rb:Nat) (v:Nat) (b:List Nat) (hv:v<18446744073709551616) (hz:(SL v++b).length≤100000):Fh Tryz.prog 204 [.pointer (some ⟨rb,0,none⟩)] M [(rb,Yp [.one (.string (WJ (SL v++b)))] 230)] (fun M' r Hout=>M'=M∧r=.tuple #[.int .u64 (v:Int),.int .i64 0]∧Hout=[(rb,Yp [.one (.string (WJ (b)))] 230)]):=by
 rw [List.length_append,PB] at hz;have hl8:=Jh hv;refine YI (fun H=>(rb,Yp [.one (.string (WJ (SL v++b)))] 230)::H) (fun _=>by simp only [List.append_assoc,List.cons_append,List.nil_append]) Tryz.func204 rfl Tryz.ntmps204 rfl ?_;intro H;refine S7 ?_;refine Yq (l:=[0,1,2,3,4,5,6]) [1] rfl ?_;refine Stp ?_
 skip
 refine Xx (Cq M rb [Sa v] (beL (Sa v) v++b) (by simp only [List.length_append,List.length_cons,List.length_nil,SI];omega) _ rfl) ?_;rintro _ M1 _ hm1 ⟨hM1,rfl,rfl⟩;obtain rfl:=hM1.symm;simp only [List.cons_append];rw [List.nil_append];refine S6 ?_;refine Xj ?_;refine Stp ?_;refine VG [5,4,3,2,0] ?_;refine S7 ?_;refine VG [14,5,4,3,2,0] ?_;refine Xb (eT fun hc1=>?_) (eF fun hc1=>?_)
 ·(exfalso;simp [eqX] at hc1;done)
 ·refine S2 ?_;refine VG [5,4,3,2,0] ?_;refine S4 ?_;refine VH (k:=0) (s:=WJ [Sa v]) rfl rfl rfl rfl Tryz.underlying9 rfl (by rw [VE];exact Nat.one_pos) (show _=Value.int .u8 ((Sa v:Nat):Int) from by rw [Qe (l:=[Sa v]) (fun x hx=>by obtain rfl:=List.mem_singleton.1 hx;omega)];rfl) rfl ?_;refine S3 ?_;refine VG [18,5,4,3,2,0] ?_;refine Xb (cT fun hc2=>?_) (cF fun hc2=>?_)
  ·(exfalso;omega)
  ·refine S2 ?_;refine VG [5,4,3,2,0] ?_;refine S2 ?_;refine Yq (l:=[0,1,2,3,4,5,6,7,8,9]) [4] rfl ?_;refine S2 ?_;refine VH (k:=0) (s:=WJ [Sa v]) rfl rfl rfl rfl Tryz.underlying9 rfl (by rw [VE];exact Nat.one_pos) (show _=Value.int .u8 ((Sa v:Nat):Int) from by rw [Qe (l:=[Sa v]) (fun x hx=>by obtain rfl:=List.mem_singleton.1 hx;omega)];rfl) rfl ?_;refine Stp ?_;refine Xs 23 rfl (show _=Value.int .i64 (((beL (Sa v) v).length:Nat):Int) from congrArg _ (by rw [SI])) ?_;refine Xx (Cq M rb (beL (Sa v) v) b (by simp only [List.length_append,List.length_cons,List.length_nil,SI];omega) _ rfl) ?_;rintro _ M1 _ hm1 ⟨hM1,rfl,rfl⟩;obtain rfl:=hM1.symm;simp only [List.cons_append];rw [List.nil_append];refine S6 ?_;refine Xj ?_;refine Stp ?_;refine VG [5,4,3,2] ?_;refine S6 ?_;refine VG [28,5,4,3,2] ?_;refine Xb (eT fun hc3=>?_) (eF fun hc3=>?_)
   ·(exfalso;simp [eqX] at hc3;done)
   ·refine S2 ?_;refine VG [4,3,2] ?_;refine S9 ?_;refine Rz Tryz.underlying9 ?_;refine Xs 31 rfl (show _=Value.int .i64 ((Sa v:Nat):Int) from congrArg _ (by rw [VE,SI])) ?_;refine S3 ?_;refine VG [32,31,6,4,3,2] ?_;refine Stp ?_;refine VG [32,6,31,4,3,2] ?_;refine Un (.succ (.succ .zero)) (fun (k:Nat) z=>z=[(32,.int .i64 (k:Int)),(6,.int .u64 ((v / 256 ^ (Sa v-k):Nat):Int))]∧k≤Sa v) (fun k=>Sa v-k) (0) (⟨by rw [Nat.sub_zero,Nat.div_eq_of_lt (Zhj v)];rfl,by omega⟩) ?_;rintro k _ ⟨rfl,hk⟩;refine S6 ?_;refine Xb (cT fun hc4=>?_) (cF fun hc4=>?_)
    ·refine S12 ?_;refine VK rfl rfl rfl rfl jM (show _=some ((v / 256 ^ (Sa v-k) * 256:Nat):Int) from Yao (Zxl jD hl8 hv)) rfl rfl ?_;refine S2 ?_;refine VH (k:=k) (s:=WJ (beL (Sa v) v)) rfl rfl rfl rfl Tryz.underlying9 rfl (by rw [VE,SI];omega) (show _=Value.int .u8 ((v / 256 ^ (Sa v-1-k) % 256:Nat):Int) from by rw [Qe (Zrk _ _),By jD]) rfl ?_;refine Stp ?_;refine TB rfl rfl rfl rfl rfl (show _=((v / 256 ^ (Sa v-(k+1)):Nat):Int) from by rw [← Zui jD];exact Zsu (Zxl jD hl8 hv) (Nat.mod_lt _ jM)) rfl ?_;refine S5 ?_;refine DZ rfl rfl rfl rfl rfl yN rfl ?_;refine S2 ?_;refine VX (a':=[(32,_),(6,_)]) (k+1) (.cons (k:=32) rfl (.cons (k:=6) rfl (.cons (k:=31) rfl (.cons (k:=4) rfl (.cons (k:=3) rfl (.cons (k:=2) rfl (.nil))))))) (fun w hw=>by first|exact hw|exact hw.c) ?_ ?_
     ·exact ⟨rfl,by omega⟩
     ·omega
    ·refine S9 ?_;refine Zxr ?_;refine Stp ?_;refine YE 45 (eT fun hc5=>?_) (eF fun hc5=>?_)
     ·refine Stp ?_;have hp9:0<Sa v:=by have h9:=Zsd (l:=beL (Sa v) v) jE;rwa [SI] at h9
      refine VH (k:=0) (s:=WJ (beL (Sa v) v)) rfl rfl rfl rfl Tryz.underlying9 rfl (by rw [VE,SI];exact hp9) (show _=Value.int .u8 ((v / 256 ^ (Sa v-1) % 256:Nat):Int) from by rw [Qe (Zrk _ _),By hp9,Nat.sub_zero]) rfl ?_;refine Stp ?_;refine Xs 48 rfl (show _=Value.bool false from congrArg Value.bool (decide_eq_false (Zji hv hp9))) ?_;refine S3 ?_;refine Xb (fun hc6=>?_) (fun hc6=>?_)
      ·skip
       (exfalso;simp [eqX] at hc6;done)
      ·skip
       refine S10 ?_;refine ZH fun w hw=>?_;obtain rfl:k=Sa v:=by omega
       refine ⟨_,M,[(rb,Yp [.one (.string (WJ (b)))] 230)],rfl,Mem.le.refl M,hw.c,rfl,?_,rfl⟩;rw [Nat.sub_self,Nat.pow_zero,Nat.div_one];rfl
     ·refine S17 ?_;refine ZH fun w hw=>?_;obtain rfl:k=Sa v:=by omega
      refine ⟨_,M,[(rb,Yp [.one (.string (WJ (b)))] 230)],rfl,Mem.le.refl M,hw.c,rfl,?_,rfl⟩;rw [Nat.sub_self,Nat.pow_zero,Nat.div_one];rfl
theorem Znj (M:Mem) (rb:Nat) (v:Nat) (b:List Nat) (hv:v<18446744073709551616) (hz:(SL v++b).length≤100000):Fh Tryz.prog 203 [.pointer (some ⟨rb,0,none⟩),.func (.func 204) #[.pointer (some ⟨rb,0,none⟩)] #[]] M [(rb,Yp [.one (.string (WJ (SL v++b)))] 230)] (fun M' r Hout=>M'=M∧r=.tuple #[.int .u64 (v:Int),.int .i64 0]∧Hout=[(rb,Yp [.one (.string (WJ (b)))] 230)]):=by
 rw [List.length_append,PB] at hz;refine YI (fun H=>(rb,Yp [.one (.string (WJ (SL v++b)))] 230)::H) (fun _=>by simp only [List.append_assoc,List.cons_append,List.nil_append]) Tryz.func203 rfl Tryz.ntmps203 rfl ?_;intro H;refine S18 ?_;refine Xb (fun hc1=>?_) (fun hc1=>?_)
 ·skip
  (exfalso;simp [eqX] at hc1;done)
 ·skip
  refine S12 ?_;refine Yq (l:=[0,1,2,3,4,5,6]) [1] rfl ?_;refine Stp ?_;refine Zrq (bs:=[.pointer (some ⟨rb,0,none⟩)]) (vs:=[]) (caps:=[]) rfl rfl rfl rfl F.ok204 rfl rfl (Znm M rb v b hv (by rw [List.length_append,PB];omega)) jA (XK rfl) ?_;rintro _ M1 _ hm1 ⟨hM1,rfl,rfl⟩;obtain rfl:=hM1.symm;simp only [List.cons_append];rw [List.nil_append];refine S6 ?_;refine Xj ?_;refine S8 ?_;refine Xb (eT fun hc2=>?_) (eF fun hc2=>?_)
  ·(exfalso;simp [eqX] at hc2;done)
  ·refine S10 ?_;refine ZH fun w hw=>?_;refine ⟨_,M,[(rb,Yp [.one (.string (WJ (b)))] 230)],rfl,Mem.le.refl M,hw.c,rfl,rfl,rfl⟩
theorem Zlo (M:Mem) (rb:Nat) (v:Nat) (b:List Nat) (hv:v<18446744073709551616) (hz:(SL v++b).length≤100000):Fh Tryz.prog 168 [.pointer (some ⟨rb,0,none⟩)] M [(rb,Yp [.one (.string (WJ (SL v++b)))] 230)] (fun M' r Hout=>M'=M∧r=.tuple #[.int .u64 (v:Int),.int .i64 0]∧Hout=[(rb,Yp [.one (.string (WJ (b)))] 230)]):=by
 refine YI (fun H=>(rb,Yp [.one (.string (WJ (SL v++b)))] 230)::H) (fun _=>by simp only [List.append_assoc,List.cons_append,List.nil_append]) Tryz.func168 rfl Tryz.ntmps168 rfl ?_;intro H;refine S7 ?_;refine Yq (l:=[0,1,2,3,4,5,6,7]) [3] rfl ?_;refine S3 ?_;refine Xx (Znj M rb v b hv hz) ?_;rintro _ M1 _ hm1 ⟨hM1,rfl,rfl⟩;obtain rfl:=hM1.symm;simp only [List.cons_append];rw [List.nil_append];refine S5 ?_;refine Xj ?_;refine S2 ?_;refine ZH fun w hw=>?_;refine ⟨_,M,[(rb,Yp [.one (.string (WJ (b)))] 230)],rfl,Mem.le.refl M,hw.c,rfl,rfl,rfl⟩
theorem Sc (M:Mem) (rb:Nat) (v:Nat) (b:List Nat) (hv:v<18446744073709551616) (hz:(SL v++b).length≤100000) (lo hi:Int) (hlo:lo≤(v:Int)) (hhi:(v:Int)≤hi):Fh Tryz.prog 110 [WX [.one (.pointer (some ⟨rb,0,none⟩))],.int .u64 lo,.int .u64 hi] M [(rb,Yp [.one (.string (WJ (SL v++b)))] 230)] (fun M' r Hout=>M'=M∧r=.int .u64 (v:Int)∧Hout=[(rb,Yp [.one (.string (WJ (b)))] 230)]):=by
 refine YI (fun H=>(rb,Yp [.one (.string (WJ (SL v++b)))] 230)::H) (fun _=>by simp only [List.append_assoc,List.cons_append,List.nil_append]) Tryz.func110 rfl Tryz.ntmps110 rfl ?_;intro H;refine S3 ?_;intro b1;refine S4 ?_;refine Yq (l:=[0,1,2,3,4,5,6,7]) [2] rfl ?_;refine S2 ?_;refine Xx (Zlo M rb v b hv hz) ?_;rintro _ M1 _ hm1 ⟨hM1,rfl,rfl⟩;obtain rfl:=hM1.symm;simp only [List.cons_append];rw [List.nil_append];refine S6 ?_;refine Xj ?_;refine S7 ?_;refine YE 17 (cT fun hc2=>?_) (cF fun hc2=>?_)
 ·refine S4 ?_;refine YE 21 (cT fun hc3=>?_) (cF fun hc3=>?_)
  ·(exfalso;omega)
  ·refine S7 ?_;refine Xb (cT fun hc5=>?_) (cF fun hc5=>?_)
   ·(exfalso;omega)
   ·refine S9 ?_;refine Xb (eT fun hc6=>?_) (eF fun hc6=>?_)
    ·(exfalso;simp [eqX] at hc6;done)
    ·refine S9 ?_;refine ZH fun w hw=>?_;refine ⟨_,M,[(rb,Yp [.one (.string (WJ (b)))] 230)],rfl,Mem.le.refl M,hw.c,rfl,rfl,rfl⟩
 ·(exfalso;simp [eqX] at hc2;done)
theorem F.ok110:Ta Tryz.prog 110=true:=by kernel_rfl
theorem F.ok206:Ta Tryz.prog 206=true:=by kernel_rfl
theorem Zsp (x:Plc):(Segs.cells [ZU x]).length=20:=by rw [KV,Qv,List.length_map,List.length_map,Py]
theorem Znl (M:Mem) (rb:Nat) (x:Plc) (b:List Nat) (hz:(Nc x++b).length≤100000):Fh Tryz.prog 206 [.pointer (some ⟨rb,0,none⟩)] M [(rb,Yp [.one (.string (WJ (Nc x++b)))] 230)] (fun M' r Hout=>M'=M∧r=.tuple #[WX [ZU x],.int .i64 0]∧Hout=[(rb,Yp [.one (.string (WJ (b)))] 230)]):=by
 refine YI (fun H=>(rb,Yp [.one (.string (WJ (Nc x++b)))] 230)::H) (fun _=>by simp only [List.append_assoc,List.cons_append,List.nil_append]) Tryz.func206 rfl Tryz.ntmps206 rfl ?_;intro H;refine S3 ?_;intro b1;refine S6 ?_;intro b2;refine S3 ?_;refine Yq (l:=[0,1,2,3,4,5,6]) [1] rfl ?_;refine Stp ?_;refine Xx (Cq M rb (Nc x) b hz 20 (by rw [Py];rfl)) ?_;rintro _ M1 _ hm1 ⟨hM1,rfl,rfl⟩;obtain rfl:=hM1.symm;simp only [List.cons_append];rw [List.nil_append];refine S6 ?_;refine Xj ?_;refine S5 ?_;refine Zlb (u:=[ZU x]) rfl rfl rfl rfl rfl F.elem202 (by rw [VE,Py]) jH (Zsp _) (Zbq x) rfl ?_;refine S11 ?_;refine ZH fun w hw=>?_;refine ⟨_,M,[(rb,Yp [.one (.string (WJ (b)))] 230)],rfl,Mem.le.refl M,hw.c,rfl,rfl,rfl⟩
theorem Znk (M:Mem) (rb:Nat) (x:Plc) (b:List Nat) (hz:(Nc x++b).length≤100000):Fh Tryz.prog 205 [.pointer (some ⟨rb,0,none⟩),.func (.func 206) #[.pointer (some ⟨rb,0,none⟩)] #[]] M [(rb,Yp [.one (.string (WJ (Nc x++b)))] 230)] (fun M' r Hout=>M'=M∧r=.tuple #[WX [ZU x],.int .i64 0]∧Hout=[(rb,Yp [.one (.string (WJ (b)))] 230)]):=by
 refine YI (fun H=>(rb,Yp [.one (.string (WJ (Nc x++b)))] 230)::H) (fun _=>by simp only [List.append_assoc,List.cons_append,List.nil_append]) Tryz.func205 rfl Tryz.ntmps205 rfl ?_;intro H;refine S3 ?_;intro b1;refine S6 ?_;intro b2;refine S9 ?_;refine Xb (fun hc3=>?_) (fun hc3=>?_)
 ·skip
  (exfalso;simp [eqX] at hc3;done)
 ·skip
  refine S12 ?_;refine Yq (l:=[0,1,2,3,4,5,6,7]) [1] rfl ?_;refine Stp ?_;refine Zrq (bs:=[.pointer (some ⟨rb,0,none⟩)]) (vs:=[]) (caps:=[]) rfl rfl rfl rfl F.ok206 rfl rfl (Znl M rb x b hz) jA (XK rfl) ?_;rintro _ M1 _ hm1 ⟨hM1,rfl,rfl⟩;obtain rfl:=hM1.symm;simp only [List.cons_append];rw [List.nil_append];refine S4 ?_;intro b4;refine S3 ?_;refine Xj ?_;refine S8 ?_;refine Xb (eT fun hc5=>?_) (eF fun hc5=>?_)
  ·(exfalso;simp [eqX] at hc5;done)
  ·refine S10 ?_;refine ZH fun w hw=>?_;refine ⟨_,M,[(rb,Yp [.one (.string (WJ (b)))] 230)],rfl,Mem.le.refl M,hw.c,rfl,rfl,rfl⟩
theorem Zqh (M:Mem) (rb:Nat) (x:Plc) (b:List Nat) (hz:(Nc x++b).length≤100000):Fh Tryz.prog 169 [.pointer (some ⟨rb,0,none⟩)] M [(rb,Yp [.one (.string (WJ (Nc x++b)))] 230)] (fun M' r Hout=>M'=M∧r=.tuple #[WX [ZU x],.int .i64 0]∧Hout=[(rb,Yp [.one (.string (WJ (b)))] 230)]):=by
 refine YI (fun H=>(rb,Yp [.one (.string (WJ (Nc x++b)))] 230)::H) (fun _=>by simp only [List.append_assoc,List.cons_append,List.nil_append]) Tryz.func169 rfl Tryz.ntmps169 rfl ?_;intro H;refine S3 ?_;intro b1;refine S4 ?_;refine Yq (l:=[0,1,2,3,4,5,6,7]) [3] rfl ?_;refine S3 ?_;refine Xx (Znk M rb x b hz) ?_;rintro _ M1 _ hm1 ⟨hM1,rfl,rfl⟩;obtain rfl:=hM1.symm;simp only [List.cons_append];rw [List.nil_append];refine S5 ?_;refine Xj ?_;refine S2 ?_;refine ZH fun w hw=>?_;refine ⟨_,M,[(rb,Yp [.one (.string (WJ (b)))] 230)],rfl,Mem.le.refl M,hw.c,rfl,rfl,rfl⟩
theorem Eu (M:Mem) (rb:Nat) (x:Plc) (b:List Nat) (hz:(Nc x++b).length≤100000):Fh Tryz.prog 113 [WX [.one (.pointer (some ⟨rb,0,none⟩))]] M [(rb,Yp [.one (.string (WJ (Nc x++b)))] 230)] (fun M' r Hout=>M'=M∧r=WX [ZU x]∧Hout=[(rb,Yp [.one (.string (WJ (b)))] 230)]):=by
 refine YI (fun H=>(rb,Yp [.one (.string (WJ (Nc x++b)))] 230)::H) (fun _=>by simp only [List.append_assoc,List.cons_append,List.nil_append]) Tryz.func113 rfl Tryz.ntmps113 rfl ?_;intro H;refine S3 ?_;intro b1;refine Stp ?_;intro b2;refine S3 ?_;refine Yq (l:=[0,1,2,3,4,5,6,7,8]) [2] rfl ?_;refine S2 ?_;refine Xx (Zqh M rb x b hz) ?_;rintro _ M1 _ hm1 ⟨hM1,rfl,rfl⟩;obtain rfl:=hM1.symm;simp only [List.cons_append];rw [List.nil_append];refine S4 ?_;intro b3;refine S3 ?_;refine Xj ?_;refine S8 ?_;refine Xb (eT fun hc4=>?_) (eF fun hc4=>?_)
 ·(exfalso;simp [eqX] at hc4;done)
 ·refine S9 ?_;refine ZH fun w hw=>?_;refine ⟨_,M,[(rb,Yp [.one (.string (WJ (b)))] 230)],rfl,Mem.le.refl M,hw.c,rfl,rfl,rfl⟩
theorem Kc (M:Mem) (rb:Nat) (p:Zr) (b:List Nat) (hp:Yf p.addr) (hz:(WB p++b).length≤100000):Fh Tryz.prog 111 [WX [.one (.pointer (some ⟨rb,0,none⟩))]] M [(rb,Yp [.one (.string (WJ (WB p++b)))] 230)] (fun M' r Hout=>M'=M∧r=p.enc∧Hout=[(rb,Yp [.one (.string (WJ (b)))] 230)]):=by
 obtain ⟨YB,p_id⟩:=p;replace hp:0≤YB∧YB≤999:=hp;have hz0:(SL YB.toNat++(Nc p_id++b)).length≤100000:=by rw [← List.append_assoc];exact hz
 rw [show WB ⟨YB,p_id⟩++b=SL YB.toNat++(Nc p_id++b) from List.append_assoc ..];refine YI (fun H=>(rb,Yp [.one (.string (WJ (SL YB.toNat++(Nc p_id++b))))] 230)::H) (fun _=>by simp only [List.append_assoc,List.cons_append,List.nil_append]) Tryz.func111 rfl Tryz.ntmps111 rfl ?_;intro H;refine S3 ?_;intro b1;refine Stp ?_;intro b2;refine S3 ?_;refine Yq (l:=[0,1,2]) [1] rfl ?_;refine Stp ?_;refine Xx (Sc M rb YB.toNat (Nc p_id++b) jD hz0 0 999 jD jD) ?_;rintro _ M1 _ hm1 ⟨hM1,rfl,rfl⟩;obtain rfl:=hM1.symm;simp only [List.cons_append];rw [List.nil_append];refine S2 ?_;refine Xj ?_;refine S2 ?_;refine Yq (l:=[0,1,2,3,4,5]) [3] rfl ?_;refine S2 ?_;refine Xs 7 rfl (show _=Value.int .i64 (YB) from congrArg _ jD) ?_;refine Stp ?_;refine Xx (Eu M rb p_id b (by rw [List.length_append] at hz0;omega)) ?_;rintro _ M1 _ hm1 ⟨hM1,rfl,rfl⟩;obtain rfl:=hM1.symm;simp only [List.cons_append];rw [List.nil_append];refine XN rfl rfl F.bld38 (.cons rfl jG (.cons rfl jG .nil)) rfl rfl ?_;refine S2 ?_;refine Xj ?_;refine S2 ?_;refine ZH fun w hw=>?_;refine ⟨_,M,[(rb,Yp [.one (.string (WJ (b)))] 230)],rfl,Mem.le.refl M,hw.c,rfl,rfl,rfl⟩
theorem GV (M:Mem) (rb:Nat) (b:List Nat):Fh Tryz.prog 114 [.pointer (some ⟨rb,0,none⟩)] M [(rb,Yp [.one (.string (WJ (b)))] 230)] (fun M' r Hout=>M'=M∧r=.int .i64 (b.length:Int)∧Hout=[(rb,Yp [.one (.string (WJ (b)))] 230)]):=by
 refine YI (fun H=>(rb,Yp [.one (.string (WJ (b)))] 230)::H) (fun _=>by simp only [List.append_assoc,List.cons_append,List.nil_append]) Tryz.func114 rfl Tryz.ntmps114 rfl ?_;intro H;refine S12 ?_;refine Xb (fun hc1=>?_) (fun hc1=>?_)
 ·skip
  (exfalso;simp [eqX] at hc1;done)
 ·skip
  refine S8 ?_;refine Rz Tryz.underlying9 ?_;refine S4 ?_;refine ZH fun w hw=>?_;refine ⟨_,M,[(rb,Yp [.one (.string (WJ (b)))] 230)],rfl,Mem.le.refl M,hw.c,rfl,?_,rfl⟩;rw [VE];rfl
end Go.Proofs.YtglnjnacodgmaaaGreatDoor
namespace Go.Esp
section
variable {P:Program} {Q:Exit→Act→World→Prop} {M M':Mem} {H H':Hp} {e:Env} {S:World→Prop}
theorem wanted_none {o:Oper} {ys:Nat→Option Bool} (h:o.guard=none):Region.wanted o ys=true:=by
 unfold Region.wanted;rw [h]
theorem GZ {m:Nat} {id:Nat} {ops:Array Oper} {d:Tmp} {f:FuncId} {ys:List Operand} {us:List Value} {ats:Array TypeId} {ty0 ty1:TypeId} {pos0 pos1:String} {af0 af1:Array Edge}
 (h0:ops[0]?=some ⟨some d,.makeFunc (.func f) #[] ys.toArray,ty0,pos0,af0,none⟩) (h1:ops[1]?=some ⟨none,.defer ⟨.value (.tmp d),#[],ats⟩,ty1,pos1,af1,none⟩) (hs:ops.size=2)
 (hy:evs e ys=some us) (hd:Nat.ble (d+1) m=true) (hk:K ⟨m,[⟨.fn (.func f) us.toArray,#[]⟩],none,[]⟩ Q .normal S ((d,.func (.func f) #[] us.toArray)::e)):C P ⟨m,[],none,[]⟩ (.region id ops false) Q S e:=by
 intro a w ha hw;refine wpIn_region ?_;rw [hs];show wpOpsIn _ _ _ _ _ [0,1] _ _;rw [wpOpsIn_cons];unfold wpOpIn;simp only [h0];refine Runs.wpIn (v:=.func (.func f) #[] us.toArray) (.inl (by
  simp only [execOp];rw [show ys.toArray.map a.eval=us.toArray from by rw [← ha.evs hy];simp,show (#[]:Array Operand).map a.eval=#[] from by simp];rfl)) ?_
 rw [wpOpsIn_cons];unfold wpOpIn;simp only [h1];have ha1:=ha.put hd (.func (.func f) #[] us.toArray);refine ⟨fun _ _=>trivial,?_⟩;have hv:(a.put (some d) (.func (.func f) #[] us.toArray)).eval (.tmp d)=.func (.func f) #[] us.toArray:=ha1.ev (by unfold ev Esp.get;simp);have hr:(Oper.semAt (Fr none).round (a.put (some d) (.func (.func f) #[] us.toArray)).eval ⟨none,.defer ⟨.value (.tmp d),#[],ats⟩,ty1,pos1,af1,none⟩).run P w=.ok (.defer ⟨.fn (.func f) us.toArray,#[]⟩) w:=by
  rw [show (Fr none).round=none from rfl,Oper.semAt_none];simp only [execOp,resolve,hv,Deferred.ofValue];rw [show ∀ g:Operand→Value,(#[]:Array Value)++Array.map g #[]=#[] from fun g=>by simp];rfl
 rw [hr];exact hk _ w ⟨ha1.size,A9 (_::·) ha1.defers,ha1.slot⟩ hw
theorem Zfw {n:Sh} {fn:Func} {vs:List Value} {a:Act} {w:World} (hr:Res P e H fn.results.toList vs) (ha:Sat n e a) (hw:St M H w):(results fn a.tmps).run P w=.ok (Zmb vs) w:=by
 have h1:=Res.run (P:=P) ha hw hr;have h2:results fn a.tmps=(do let vs ← fn.results.mapM (IF a.tmps);pure (if h:vs.size=1 then vs[0] else .tuple vs)):=by
  congr 1
 rw [h2,Array.mapM_eq_mapM_toList,Sem.run_bind];rw [Sem.run_map,h1];cases vs with
 | nil=>rfl
 | cons v vs=>cases vs <;> rfl
theorem Zam {n:Nat} {fn:Func} {R:Ending→World→Prop} {x:Exit} {vs us:List Value} {f:FuncId} (hx:x=.normal∨x=.ret) (hr:Res P e H fn.results.toList vs)
 (hc:Ta P f=true) (hD:∀ w,St M H w→CallsD P f us.toArray .returning w fun en u' w'=>u'=.returning∧(∃ v,en=.returned v)∧St M H w') (h:∀ w,St M H w→R (.returned (Zmb vs)) w) :
 K ⟨n,[⟨.fn (.func f) us.toArray,#[]⟩],none,[]⟩ (bodyPostD P fn R) x (St M H) e:=by
 intro a w ha hw;obtain ⟨fn',g1,g2,g3⟩:=Ub hc;have hi:(invoke (.fn (.func f) us.toArray) #[]).run P w=.ok (.enter f us.toArray) w:=by
  simp only [invoke];unfold callFunc;rw [Sem.run_bind];show (Result.ok P w).andThen _=_;rw [Result.andThen_ok];simp only [g1,g3];have:fn'.body.isNone=false:=by rw [← Option.not_isSome,g2];rfl
  simp only [this];rw [show (#[]++us.toArray)=us.toArray from by simp];rfl
 have L:Leaves P fn a.tmps R a.defers .returning w:=by
  rw [ha.defers];refine leaves_cons (by intro h9;cases h9) hi ((hD w hw).mono ?_);rintro en u' w' ⟨rfl,⟨v,rfl⟩,hs⟩;exact ⟨Zmb vs,Zfw hr ha hs,h w' hs⟩
 rcases hx with rfl|rfl <;> exact L
theorem Zxc {f:FuncId} {fn:Func} {c:Code} {vs:List Value} {w:World} {R:Ending→World→Prop} {m:Nat} (hf:P.funcs[f]?=some fn) (hb:fn.body=some c) (hm:fn.ntmps=m) (hle:Nat.ble vs.length m=true)
 (hw:S w) (h:C P ⟨m,[],none,[]⟩ c (bodyPostD P fn R) S (RJ 0 vs)):Calls P f vs.toArray w R:=by
 have hle':vs.length≤m:=D1 hle;refine calls_of_wp_defers hf hb (wpIn_wide.1 (h _ w ⟨?_,rfl,fun k v hk=>?_⟩ hw))
 ·grind
 ·rw [hm];obtain ⟨_,h2⟩:=Or vs 0 k v hk;exact HD k v (by simpa using h2)
theorem Zjc {f:FuncId} {fn:Func} {c:Code} {vs:List Value} {R:Mem→Value→Prop} {m:Nat} (hf:P.funcs[f]?=some fn) (hb:fn.body=some c) (hm:fn.ntmps=m) (hle:Nat.ble vs.length m=true)
 (h:∀ H,C P ⟨m,[],none,[]⟩ c (bodyPostD P fn fun e w'=>∃ v M',e=.returned v∧M.le M'∧St M' H w'∧R M' v) (St M H) (RJ 0 vs)):Fn P f vs M R :=
 fun H _ hw=>Zxc (S:=St M H) hf hb hm hle hw (h H)
theorem Ez {f:FuncId} {fn:Func} {vs:List Value} {m id:Nat} {ops:Array Oper} {rest:Code} {d d2:Tmp} {ats:Array TypeId} {ty0 ty1:TypeId} {pos0 pos1:String} {af0 af1:Array Edge} (hf:P.funcs[f]?=some fn) (hb:fn.body=some (.seq (.region id ops false) rest)) (hm:fn.ntmps=m) (hle:Nat.ble vs.length m=true)
 (h0:ops[0]?=some ⟨some d,.call ⟨.builtin .recover,#[],ats⟩,ty0,pos0,af0,none⟩) (h1:ops[1]?=some ⟨some d2,.assign (.tmp d),ty1,pos1,af1,none⟩) (hs:ops.size=2) (hd:Nat.ble (d+1) m=true) (hd2:Nat.ble (d2+1) m=true)
 (hk:∀ c0:Frame,∀ cs:List Frame,c0.mode=.returning→C P ⟨m,[],none,[]⟩ rest (fun e a w'=>bodyPostS P fn c0 cs (fun en u' w'=>u'=.returning∧(∃ v,en=.returned v)∧St M H w') e a (c0::cs) w') (St M H) ((d2,.nilIface)::(d,.nilIface)::RJ 0 vs)) :
 ∀ w,St M H w→CallsD P f vs.toArray .returning w fun en u' w'=>u'=.returning∧(∃ v,en=.returned v)∧St M H w':=by
 intro w hw;have hle':vs.length≤m:=D1 hle;refine callsD_of_wpS hf hb fun c0 cs hmode=>?_;refine wpS_seq (wpS_region ?_);rw [hs];show wpOpsS _ _ _ [0,1] _ _ _;have ha:Sat ⟨m,[],none,[]⟩ (RJ 0 vs) { tmps:=vs.toArray++Array.replicate (fn.ntmps-vs.toArray.size) undef,defers:=[] }:=by
  refine ⟨?_,rfl,fun k v hk=>?_⟩
  ·simp [hm];omega
  ·rw [hm];obtain ⟨_,h2⟩:=Or vs 0 k v hk;exact HD k v (by simpa using h2)
 have ha1:=ha.put hd .nilIface;have ha2:=ha1.put hd2 .nilIface;unfold wpOpsS;simp only [h0];have r0:(execOp ({ tmps:=vs.toArray++Array.replicate (fn.ntmps-vs.toArray.size) undef,defers:=[] }:Act).eval ⟨some d,.call ⟨.builtin .recover,#[],ats⟩,ty0,pos0,af0,none⟩).run P w=.ok .recover w:=by
  rfl
 rw [r0];have hrd:recoverD (c0::cs)=none:=by unfold recoverD;simp only [hmode]
 simp only [hrd];unfold wpOpsS;simp only [h1];have r1:(execOp (Act.put { tmps:=vs.toArray++Array.replicate (fn.ntmps-vs.toArray.size) undef,defers:=[] } (some d) .nilIface).eval ⟨some d2,.assign (.tmp d),ty1,pos1,af1,none⟩).run P w=.ok (.value .nilIface) w:=by
  have hv:(Act.put { tmps:=vs.toArray++Array.replicate (fn.ntmps-vs.toArray.size) undef,defers:=[] } (some d) .nilIface).eval (.tmp d)=.nilIface:=ha1.ev (by unfold ev Esp.get;simp);simp only [execOp,hv];rfl
 rw [r1];exact wpS_of_wp (wpIn_wide.1 (hk c0 cs hmode _ w ha2 hw))
theorem Zyk {n:Nat} {fn:Func} {x:Exit} {vs:List Value} {c0:Frame} {cs:List Frame} (hm:c0.mode=.returning) (hx:x=.normal∨x=.ret) (hr:Res P e H fn.results.toList vs) :
 K ⟨n,[],none,[]⟩ (fun en a w'=>bodyPostS P fn c0 cs (fun en u' w'=>u'=.returning∧(∃ v,en=.returned v)∧St M H w') en a (c0::cs) w') x (St M H) e:=by
 intro a w ha hw;have h9:c0::cs={ c0 with mode:=.returning }::cs:=by rw [← hm]
 rcases hx with rfl|rfl <;> exact ⟨ha.defers,.returning,h9,Zmb vs,Zfw hr ha hw,rfl,⟨_,rfl⟩,hw⟩
end
end Go.Esp
namespace Go.Proofs.YtglnjnacodgmaaaGreatDoor
open Go.Esp
theorem F.bld176:Bld Tryz.prog 176 [[.one (.pointer none)]]:=⟨by kernel_rfl,by kernel_rfl⟩
theorem F.bld230:Bld Tryz.prog 230 [[.one (.string ⟨#[]⟩)]]:=⟨by kernel_rfl,by kernel_rfl⟩
theorem F.ok108:Ta Tryz.prog 108=true:=by kernel_rfl
theorem Zuw (M:Mem) (l:List Nat):Fh Tryz.prog 109 [.string (WJ l)] M [] (fun M' r Hout=>M'=M∧∃ rb,r=.pointer (some ⟨rb,0,none⟩)∧Hout=[(rb,Yp [.one (.string (WJ (l)))] 230)]):=by
 refine YI (fun H=>H) (fun _=>rfl) Tryz.func109 rfl Tryz.ntmps109 rfl ?_;intro H;refine S8 ?_;refine XN rfl rfl F.bld230 (.cons rfl jG .nil) rfl rfl ?_;refine Stp ?_;intro b1;refine S4 ?_;refine ZH fun w hw=>?_;refine ⟨_,M,[(b1,Yp [.one (.string (WJ (l)))] 230)],rfl,Mem.le.refl M,hw.c,rfl,_,rfl,rfl⟩
theorem Gm (M:Mem) (H:Hp) (p q:Value):∀ w,St M H w→CallsD Tryz.prog 108 #[p,q] .returning w fun en u' w'=>u'=.returning∧(∃ v,en=.returned v)∧St M H w':=by
 refine Ez (vs:=[p,q]) Tryz.func108 rfl Tryz.ntmps108 rfl rfl rfl rfl rfl rfl (fun c0 cs hm0=>?_);refine S6 ?_;refine Xb (fun hc1=>?_) (fun hc1=>?_)
 ·skip
  (exfalso;simp [eqX] at hc1;done)
 ·skip
  refine Stp ?_;exact Zyk hm0 (.inl rfl) (.nil)
theorem Zyl (M:Mem) (l:Lt) (hI:SP l) (hr:SB l.req):Esp.Fn Tryz.prog 69 [.string (body l)] M (fun M' v=>∃ x:ZI,v=.tuple #[x.enc,.int .i64 0]∧ZI.ok M' x∧x.lt=l):=by
 obtain ⟨ZF,⟨l_fa,l_fi⟩,ZX,l_id,Yt,ZS,⟨l_pa,l_pi⟩,Yu⟩:=l;have hb9:=Zxm hI hr;simp only at hb9;obtain ⟨g1,g2,g3,g4,g5,g6,g7,g8,g9,g10,g11,g12,g13,g14⟩:=hI;simp only at g1 g2 g3 g4 g5 g6 g7 g8 g9 g10 g11 g12 g13 g14;obtain ⟨z0,z1,z2,z3,z4,z5,z6,z7⟩:=hb9;obtain ⟨r1,r2⟩:=hr;simp only at r1 r2;have hn1:=SC (v:=ZX.toNat) jD;have hn2:(if (⟨l_pa,l_pi⟩:Zr)≠Yj then WB ⟨l_pa,l_pi⟩ else []).length≤29:=by
  split
  ·rename_i h8;exact OC (g5.resolve_left h8)
  ·exact C3 _
 rw [show body ⟨ZF,⟨l_fa,l_fi⟩,ZX,l_id,Yt,ZS,⟨l_pa,l_pi⟩,Yu⟩=WJ (SL ZF.toNat++(WB ⟨l_fa,l_fi⟩++bS0 ⟨ZF,⟨l_fa,l_fi⟩,ZX,l_id,Yt,ZS,⟨l_pa,l_pi⟩,Yu⟩)) from A9 WJ (Zxn _)];refine Zjc Tryz.func69 rfl Tryz.ntmps69 rfl ?_;intro H;refine S3 ?_;intro b1;refine Stp ?_;intro b2;refine S3 ?_;refine GZ (ys:=[.tmp 2,.tmp 3]) rfl rfl rfl rfl rfl ?_;refine S2 ?_;refine Yq (l:=[0,1,2,3,4]) [1] rfl ?_;refine Stp ?_;refine Xx (Zuw M _) ?_;rintro _ M1 _ hm1 ⟨hM1,rb,rfl,rfl⟩;obtain rfl:=hM1.symm;simp only [B4];rw [B6];refine XN rfl rfl F.bld176 (.cons rfl jG .nil) rfl rfl ?_;refine Stp ?_;intro b3;refine S2 ?_;refine Xj ?_;refine S2 ?_;refine Yq (l:=[0,1,2,3,4]) [1] rfl ?_;refine Stp ?_;refine Xx (Sc _ rb (ZF.toNat) (WB ⟨l_fa,l_fi⟩++(bS0 ⟨ZF,⟨l_fa,l_fi⟩,ZX,l_id,Yt,ZS,⟨l_pa,l_pi⟩,Yu⟩)) jD jD 1 8 jD jD) ?_;rintro _ M9 _ hm9 ⟨hM9,rfl,rfl⟩;obtain rfl:=hM9.symm;simp only [B4];rw [B6];refine Stp ?_;refine Xs 14 rfl (show _=Value.int .i64 (ZF) from A9 _ jD) ?_;refine S3 ?_;refine Xj ?_;refine S2 ?_;refine Yq (l:=[0,1,2,3,4,5,6]) [1] rfl ?_;refine Stp ?_;refine Xx (Kc _ rb ⟨l_fa,l_fi⟩ (bS0 ⟨ZF,⟨l_fa,l_fi⟩,ZX,l_id,Yt,ZS,⟨l_pa,l_pi⟩,Yu⟩) g2 jD) ?_;rintro _ M9 _ hm9 ⟨hM9,rfl,rfl⟩;obtain rfl:=hM9.symm;simp only [B4];rw [B6];refine Vn (VD _) ?_;rintro _ rfl;refine Xs 18 rfl (show _=WX [.one (.int .i64 (-1)),ZU 0] from rfl) ?_;refine S5 ?_;refine Xj ?_;refine S5 ?_;refine Vn (HV _ _) ?_;rintro _ rfl;refine S13 ?_;refine Xs 29 rfl (show _=Value.bool (decide (Ue ZF)) from A9 Value.bool (Up g1 (1,decide (Ue ZF)) jP)) ?_;refine S2 ?_;refine VG [29,5,4,3,2] ?_;refine RD (α:=Unit) (fun _=>[]) (fun _=>True) (fun _=>St M ((rb,Yp [.one (.string (WJ (bS1 ⟨ZF,⟨l_fa,l_fi⟩,ZX,l_id,Yt,ZS,⟨l_pa,l_pi⟩,Yu⟩)))] 230)::(b3,Yp [.one (.pointer (some ⟨rb,0,none⟩))] 176)::(b2,Yp [.one (.int .i64 0)] 25)::(b1,Yp (ZI.segs ⟨ZF,⟨l_fa,l_fi⟩,ZX,0,⟨none,0,[]⟩,false,⟨-1,0⟩,⟨none,0,[]⟩⟩) 128)::H)) (.cons (k:=5) rfl (.cons (k:=4) rfl (.cons (k:=3) rfl (.cons (k:=2) rfl .nil)))) ?_ ?_
 ·skip
  refine Xb (cT fun hc4=>?_) (cF fun hc4=>?_)
  ·have e9:(bS0 ⟨ZF,⟨l_fa,l_fi⟩,ZX,l_id,Yt,ZS,⟨l_pa,l_pi⟩,Yu⟩)=SL ZX.toNat++(bS1 ⟨ZF,⟨l_fa,l_fi⟩,ZX,l_id,Yt,ZS,⟨l_pa,l_pi⟩,Yu⟩):=by unfold bS0 pt1;rw [A6 jE]
   have e9L:=A9 List.length e9;rw [e9];refine Yq (l:=[0,1,2,3]) [1] rfl ?_;refine Stp ?_;refine Xx (Sc _ rb (ZX.toNat) (bS1 ⟨ZF,⟨l_fa,l_fi⟩,ZX,l_id,Yt,ZS,⟨l_pa,l_pi⟩,Yu⟩) jD jD 0 18446744073709551615 jD jD) ?_;rintro _ M9 _ hm9 ⟨hM9,rfl,rfl⟩;obtain rfl:=hM9.symm;simp only [B4];rw [B6];refine Xs 31 rfl (show _=Value.int .u64 (ZX) from A9 _ jD) ?_;refine S3 ?_;refine Xj ?_;exact Ul (α:=Unit) (pre:=fun _=>[]) (F:=fun _=>True) (S2:=fun _=>St M ((rb,Yp [.one (.string (WJ (bS1 ⟨ZF,⟨l_fa,l_fi⟩,ZX,l_id,Yt,ZS,⟨l_pa,l_pi⟩,Yu⟩)))] 230)::(b3,Yp [.one (.pointer (some ⟨rb,0,none⟩))] 176)::(b2,Yp [.one (.int .i64 0)] 25)::(b1,Yp (ZI.segs ⟨ZF,⟨l_fa,l_fi⟩,ZX,0,⟨none,0,[]⟩,false,⟨-1,0⟩,⟨none,0,[]⟩⟩) 128)::H)) (()) (trivial) (.cons (k:=5) rfl (.cons (k:=4) rfl (.cons (k:=3) rfl (.cons (k:=2) rfl .nil)))) (fun w hw=>by (try simp only [ZI.segs,Sl.val,D5] at hw ⊢);first|exact hw|exact hw.c)
  ·refine Stp ?_;have hz:ZX=0:=g7.resolve_left jE;have he9:bS0 ⟨ZF,⟨l_fa,l_fi⟩,ZX,l_id,Yt,ZS,⟨l_pa,l_pi⟩,Yu⟩=bS1 ⟨ZF,⟨l_fa,l_fi⟩,ZX,l_id,Yt,ZS,⟨l_pa,l_pi⟩,Yu⟩:=by unfold bS0 pt1;rw [A4 jE];rfl
   exact Ul (α:=Unit) (pre:=fun _=>[]) (F:=fun _=>True) (S2:=fun _=>St M ((rb,Yp [.one (.string (WJ (bS1 ⟨ZF,⟨l_fa,l_fi⟩,ZX,l_id,Yt,ZS,⟨l_pa,l_pi⟩,Yu⟩)))] 230)::(b3,Yp [.one (.pointer (some ⟨rb,0,none⟩))] 176)::(b2,Yp [.one (.int .i64 0)] 25)::(b1,Yp (ZI.segs ⟨ZF,⟨l_fa,l_fi⟩,ZX,0,⟨none,0,[]⟩,false,⟨-1,0⟩,⟨none,0,[]⟩⟩) 128)::H)) (()) (trivial) (.cons (k:=5) rfl (.cons (k:=4) rfl (.cons (k:=3) rfl (.cons (k:=2) rfl .nil)))) (fun w hw=>by show St _ _ w;(try dsimp only);rw [← he9];rw [hz] at hw ⊢;(try simp only [ZI.segs,Sl.val,D5] at hw ⊢);first|exact hw|exact hw.c)
 ·rintro _ -;refine S6 ?_;refine Xs 35 rfl (show _=Value.bool (decide (ZF=1)) from A9 Value.bool (Up g1 (2,decide (ZF=1)) jP)) ?_;refine S2 ?_;refine VG [35,5,4,3,2] ?_;refine RD (α:=Unit) (fun _=>[]) (fun _=>True) (fun _=>St M ((rb,Yp [.one (.string (WJ (bS2 ⟨ZF,⟨l_fa,l_fi⟩,ZX,l_id,Yt,ZS,⟨l_pa,l_pi⟩,Yu⟩)))] 230)::(b3,Yp [.one (.pointer (some ⟨rb,0,none⟩))] 176)::(b2,Yp [.one (.int .i64 0)] 25)::(b1,Yp (ZI.segs ⟨ZF,⟨l_fa,l_fi⟩,ZX,l_id,⟨none,0,[]⟩,false,⟨-1,0⟩,⟨none,0,[]⟩⟩) 128)::H)) (.cons (k:=5) rfl (.cons (k:=4) rfl (.cons (k:=3) rfl (.cons (k:=2) rfl .nil)))) ?_ ?_
  ·skip
   refine Xb (cT fun hc5=>?_) (cF fun hc5=>?_)
   ·have e9:(bS1 ⟨ZF,⟨l_fa,l_fi⟩,ZX,l_id,Yt,ZS,⟨l_pa,l_pi⟩,Yu⟩)=Nc l_id++(bS2 ⟨ZF,⟨l_fa,l_fi⟩,ZX,l_id,Yt,ZS,⟨l_pa,l_pi⟩,Yu⟩):=by unfold bS1 pt2;rw [A6 jE]
    have e9L:=A9 List.length e9;rw [e9];refine Yq (l:=[0,1,2,3]) [1] rfl ?_;refine Stp ?_;refine Xx (Eu _ rb l_id (bS2 ⟨ZF,⟨l_fa,l_fi⟩,ZX,l_id,Yt,ZS,⟨l_pa,l_pi⟩,Yu⟩) jD) ?_;rintro _ M9 _ hm9 ⟨hM9,rfl,rfl⟩;obtain rfl:=hM9.symm;simp only [B4];rw [B6];refine S3 ?_;refine Xj ?_;exact Ul (α:=Unit) (pre:=fun _=>[]) (F:=fun _=>True) (S2:=fun _=>St M ((rb,Yp [.one (.string (WJ (bS2 ⟨ZF,⟨l_fa,l_fi⟩,ZX,l_id,Yt,ZS,⟨l_pa,l_pi⟩,Yu⟩)))] 230)::(b3,Yp [.one (.pointer (some ⟨rb,0,none⟩))] 176)::(b2,Yp [.one (.int .i64 0)] 25)::(b1,Yp (ZI.segs ⟨ZF,⟨l_fa,l_fi⟩,ZX,l_id,⟨none,0,[]⟩,false,⟨-1,0⟩,⟨none,0,[]⟩⟩) 128)::H)) (()) (trivial) (.cons (k:=5) rfl (.cons (k:=4) rfl (.cons (k:=3) rfl (.cons (k:=2) rfl .nil)))) (fun w hw=>by (try simp only [ZI.segs,Sl.val,D5] at hw ⊢);first|exact hw|exact hw.c)
   ·refine Stp ?_;have hz:l_id=0:=g8.resolve_left jE;have he9:bS1 ⟨ZF,⟨l_fa,l_fi⟩,ZX,l_id,Yt,ZS,⟨l_pa,l_pi⟩,Yu⟩=bS2 ⟨ZF,⟨l_fa,l_fi⟩,ZX,l_id,Yt,ZS,⟨l_pa,l_pi⟩,Yu⟩:=by unfold bS1 pt2;rw [A4 jE];rfl
    exact Ul (α:=Unit) (pre:=fun _=>[]) (F:=fun _=>True) (S2:=fun _=>St M ((rb,Yp [.one (.string (WJ (bS2 ⟨ZF,⟨l_fa,l_fi⟩,ZX,l_id,Yt,ZS,⟨l_pa,l_pi⟩,Yu⟩)))] 230)::(b3,Yp [.one (.pointer (some ⟨rb,0,none⟩))] 176)::(b2,Yp [.one (.int .i64 0)] 25)::(b1,Yp (ZI.segs ⟨ZF,⟨l_fa,l_fi⟩,ZX,l_id,⟨none,0,[]⟩,false,⟨-1,0⟩,⟨none,0,[]⟩⟩) 128)::H)) (()) (trivial) (.cons (k:=5) rfl (.cons (k:=4) rfl (.cons (k:=3) rfl (.cons (k:=2) rfl .nil)))) (fun w hw=>by show St _ _ w;(try dsimp only);rw [← he9];rw [hz] at hw ⊢;(try simp only [ZI.segs,Sl.val,D5] at hw ⊢);first|exact hw|exact hw.c)
  ·rintro _ -;refine S6 ?_;refine Xs 41 rfl (show _=Value.bool (decide (ZF=1)) from A9 Value.bool (Up g1 (4,decide (ZF=1)) jP)) ?_;refine S2 ?_;refine VG [41,5,4,3,2] ?_;refine RD (α:=Mem×Option Addr×Nat) (fun _=>[]) (fun x=>M.le x.1∧SlK x.1 (WC .i64) 1 ⟨x.2.1,x.2.2,Yt⟩) (fun x=>St x.1 ((rb,Yp [.one (.string (WJ (bS3 ⟨ZF,⟨l_fa,l_fi⟩,ZX,l_id,Yt,ZS,⟨l_pa,l_pi⟩,Yu⟩)))] 230)::(b3,Yp [.one (.pointer (some ⟨rb,0,none⟩))] 176)::(b2,Yp [.one (.int .i64 0)] 25)::(b1,Yp (ZI.segs ⟨ZF,⟨l_fa,l_fi⟩,ZX,l_id,⟨x.2.1,x.2.2,Yt⟩,false,⟨-1,0⟩,⟨none,0,[]⟩⟩) 128)::H)) (.cons (k:=5) rfl (.cons (k:=4) rfl (.cons (k:=3) rfl (.cons (k:=2) rfl .nil)))) ?_ ?_
   ·skip
    refine Xb (cT fun hc6=>?_) (cF fun hc6=>?_)
    ·refine Stp ?_;have e9:(bS2 ⟨ZF,⟨l_fa,l_fi⟩,ZX,l_id,Yt,ZS,⟨l_pa,l_pi⟩,Yu⟩)=SL Yt.length++(Yt.flatMap Sw++(bS3 ⟨ZF,⟨l_fa,l_fi⟩,ZX,l_id,Yt,ZS,⟨l_pa,l_pi⟩,Yu⟩)):=by unfold bS2 pt3 Ga;rw [A6 jE,B5]
     have e9L:=A9 List.length e9;rw [e9];refine Yq (l:=[0,1,2]) [1] rfl ?_;refine Stp ?_;refine Xx (Sc _ rb (Yt.length) (Yt.flatMap Sw++(bS3 ⟨ZF,⟨l_fa,l_fi⟩,ZX,l_id,Yt,ZS,⟨l_pa,l_pi⟩,Yu⟩)) jD jD 0 16 jD jD) ?_;rintro _ M9 _ hm9 ⟨hM9,rfl,rfl⟩;obtain rfl:=hM9.symm;simp only [B4];rw [B6];refine S2 ?_;refine Xj ?_;refine S2 ?_;refine VG [44,43,5,4,3,2] ?_;refine OZ (Hin:=[(rb,Yp [.one (.string (WJ (Yt.flatMap Sw++(bS3 ⟨ZF,⟨l_fa,l_fi⟩,ZX,l_id,Yt,ZS,⟨l_pa,l_pi⟩,Yu⟩))))] 230)]) (Hin2:=[(b1,Yp [.one (.int .i64 ZF),.one (.int .i64 l_fa),ZU l_fi,.one (.int .u64 ZX),ZU l_id,.one (.slice none 0 0),.one (.bool false),.one (.int .i64 (-1)),ZU 0,.one (.slice none 0 0)] 128)]) (.succ .zero) jA jA (fun (k:Nat) M1 h1 z=>∃ (v:Value) (ha:Hp),M1=M∧z=[(44,.int .u64 (k:Int))]∧k≤Yt.length∧h1=(rb,Yp [.one (.string (WJ ((Yt.drop k).flatMap Sw++(bS3 ⟨ZF,⟨l_fa,l_fi⟩,ZX,l_id,Yt,ZS,⟨l_pa,l_pi⟩,Yu⟩))))] 230)::(b1,Yp [.one (.int .i64 ZF),.one (.int .i64 l_fa),ZU l_fi,.one (.int .u64 ZX),ZU l_id,.one (v),.one (.bool false),.one (.int .i64 (-1)),ZU 0,.one (.slice none 0 0)] 128)::ha∧OSl 3 1 v ha ((Yt.take k).map (WC .i64))) (fun k=>Yt.length-k) (0) (⟨_,[],rfl,rfl,by omega,rfl,OSl.nil⟩) ?_;rintro k M1 h1 z hm1 ⟨v1,ha,hM1,rfl,hk,rfl,ho⟩;obtain rfl:=hM1.symm;obtain ⟨ad1,cp1,rfl⟩:=ho.valL;have htl:(Yt.take k).length=k:=by rw [D8];omega
     have htm:((Yt.take k).map (WC .i64)).length=k:=by rw [A8,htl]
     simp only [B4];refine S6 ?_;refine Xb (cT fun hc7=>?_) (cF fun hc7=>?_)
     ·refine S4 ?_;have e8:(Yt.drop k).flatMap Sw++(bS3 ⟨ZF,⟨l_fa,l_fi⟩,ZX,l_id,Yt,ZS,⟨l_pa,l_pi⟩,Yu⟩)=SL Yt[k].toNat++((Yt.drop (k+1)).flatMap Sw++(bS3 ⟨ZF,⟨l_fa,l_fi⟩,ZX,l_id,Yt,ZS,⟨l_pa,l_pi⟩,Yu⟩)):=by rw [HZ jD];rfl
      have e8L:=A9 List.length e8;rw [e8];have hak:=g13 _ (C1 (l:=Yt) (n:=k) jD);replace hak:0≤Yt[k]∧Yt[k]≤999:=hak;have hdl:=Ol (f:=Sw) Yt k;refine Ya (l:=[0,1,2,3,4,5,6,7,8]) #[0,1,0,4,12,28,63,127,255] (St M ((b1,Yp [.one (.int .i64 ZF),.one (.int .i64 l_fa),ZU l_fi,.one (.int .u64 ZX),ZU l_id,.one (.slice ad1 (Yt.take k).length cp1),.one (.bool false),.one (.int .i64 (-1)),ZU 0,.one (.slice none 0 0)] 128)::(b3,Yp [.one (.pointer (some ⟨rb,0,none⟩))] 176)::ha++H)) rfl jI jI St.drawn (fun _ hw=>hw.c) ?_;refine S3 ?_;refine We (Sc _ rb (Yt[k].toNat) ((Yt.drop (k+1)).flatMap Sw++(bS3 ⟨ZF,⟨l_fa,l_fi⟩,ZX,l_id,Yt,ZS,⟨l_pa,l_pi⟩,Yu⟩)) jD jZ 0 999 jD jD) ?_;rintro _ M9 _ hm9 ⟨hM9,rfl,rfl⟩;obtain rfl:=hM9.symm;simp only [B4];rw [B6];refine Stp ?_;refine Xs 50 rfl (show _=Value.int .i64 (Yt[k]) from A9 _ jD) ?_;refine YK rfl rfl F.elem32 F.zero3 rfl rfl (.cons rfl jG .nil) rfl rfl jK rfl ?_;intro b8 hob9;refine Vc (m:=1000000) rfl rfl rfl rfl rfl F.elem32 F.zero3 zH rfl jE jA (Src.own hob9.lens jN rfl jB) jX jM rfl ?_;intro v12 hs11 ho10;obtain ⟨adv12,cpv12,rfl⟩:=ho10.valAt (n:=k+1) jX;refine S9 ?_;refine YO (a':=[(44,_)]) (k+1) ((rb,Yp [.one (.string (WJ ((Yt.drop (k+1)).flatMap Sw++(bS3 ⟨ZF,⟨l_fa,l_fi⟩,ZX,l_id,Yt,ZS,⟨l_pa,l_pi⟩,Yu⟩))))] 230)::(b1,Yp [.one (.int .i64 ZF),.one (.int .i64 l_fa),ZU l_fi,.one (.int .u64 ZX),ZU l_id,.one (.slice adv12 (k+1) cpv12),.one (.bool false),.one (.int .i64 (-1)),ZU 0,.one (.slice none 0 0)] 128)::hs11) (.cons (k:=44) rfl (.cons (k:=43) rfl (.cons (k:=5) rfl (.cons (k:=4) rfl (.cons (k:=3) rfl (.cons (k:=2) rfl (.nil))))))) jO (fun w hw=>by first|exact hw|exact hw.c) ?_ ?_
      ·refine ⟨_,_,rfl,rfl,by omega,rfl,?_⟩;refine OSl.as9 (OSl.aZ ho10 jX) ?_;rw [C9,A7 jD,C6];rfl
      ·omega
     ·refine S4 ?_;obtain rfl:k=Yt.length:=by omega
      rw [List.drop_length,List.flatMap_nil,B6];rw [G0] at ho ⊢;refine Yac ho jA (fun M2 hm2 k_av=>?_);exact Ul (α:=Mem×Option Addr×Nat) (pre:=fun _=>[]) (F:=fun x=>M.le x.1∧SlK x.1 (WC .i64) 1 ⟨x.2.1,x.2.2,Yt⟩) (S2:=fun x=>St x.1 ((rb,Yp [.one (.string (WJ (bS3 ⟨ZF,⟨l_fa,l_fi⟩,ZX,l_id,Yt,ZS,⟨l_pa,l_pi⟩,Yu⟩)))] 230)::(b3,Yp [.one (.pointer (some ⟨rb,0,none⟩))] 176)::(b2,Yp [.one (.int .i64 0)] 25)::(b1,Yp (ZI.segs ⟨ZF,⟨l_fa,l_fi⟩,ZX,l_id,⟨x.2.1,x.2.2,Yt⟩,false,⟨-1,0⟩,⟨none,0,[]⟩⟩) 128)::H)) ((M2,ad1,cp1)) (⟨hm2,k_av⟩) (.cons (k:=5) rfl (.cons (k:=4) rfl (.cons (k:=3) rfl (.cons (k:=2) rfl .nil)))) (fun w hw=>by show St M2 _ w;(try dsimp only);(try simp only [ZI.segs,Sl.val,D5] at hw ⊢);first|exact hw|exact hw.c)
    ·refine Stp ?_;have hz:Yt=[]:=g9.resolve_left jE;have he9:bS2 ⟨ZF,⟨l_fa,l_fi⟩,ZX,l_id,Yt,ZS,⟨l_pa,l_pi⟩,Yu⟩=bS3 ⟨ZF,⟨l_fa,l_fi⟩,ZX,l_id,Yt,ZS,⟨l_pa,l_pi⟩,Yu⟩:=by unfold bS2 pt3;rw [A4 jE];rfl
     exact Ul (α:=Mem×Option Addr×Nat) (pre:=fun _=>[]) (F:=fun x=>M.le x.1∧SlK x.1 (WC .i64) 1 ⟨x.2.1,x.2.2,Yt⟩) (S2:=fun x=>St x.1 ((rb,Yp [.one (.string (WJ (bS3 ⟨ZF,⟨l_fa,l_fi⟩,ZX,l_id,Yt,ZS,⟨l_pa,l_pi⟩,Yu⟩)))] 230)::(b3,Yp [.one (.pointer (some ⟨rb,0,none⟩))] 176)::(b2,Yp [.one (.int .i64 0)] 25)::(b1,Yp (ZI.segs ⟨ZF,⟨l_fa,l_fi⟩,ZX,l_id,⟨x.2.1,x.2.2,Yt⟩,false,⟨-1,0⟩,⟨none,0,[]⟩⟩) 128)::H)) ((M,none,0)) (⟨Mem.le.refl M,by rw [hz];exact SlK.nil⟩) (.cons (k:=5) rfl (.cons (k:=4) rfl (.cons (k:=3) rfl (.cons (k:=2) rfl .nil)))) (fun w hw=>by show St _ _ w;(try dsimp only);rw [← he9];rw [hz] at hw ⊢;(try simp only [ZI.segs,Sl.val,D5] at hw ⊢);first|exact hw|exact hw.c)
   ·rintro ⟨M2,av_a,av_c⟩ ⟨hm2,k_av⟩;dsimp only at hm2 k_av ⊢;refine S6 ?_;refine Xs 57 rfl (show _=Value.bool (decide (ZF=2)) from A9 Value.bool (Up g1 (8,decide (ZF=2)) jP)) ?_;refine S2 ?_;refine VG [57,5,4,3,2] ?_;refine RD (α:=Unit) (fun _=>[]) (fun _=>True) (fun _=>St M2 ((rb,Yp [.one (.string (WJ (bS4 ⟨ZF,⟨l_fa,l_fi⟩,ZX,l_id,Yt,ZS,⟨l_pa,l_pi⟩,Yu⟩)))] 230)::(b3,Yp [.one (.pointer (some ⟨rb,0,none⟩))] 176)::(b2,Yp [.one (.int .i64 0)] 25)::(b1,Yp (ZI.segs ⟨ZF,⟨l_fa,l_fi⟩,ZX,l_id,⟨av_a,av_c,Yt⟩,ZS,⟨-1,0⟩,⟨none,0,[]⟩⟩) 128)::H)) (.cons (k:=5) rfl (.cons (k:=4) rfl (.cons (k:=3) rfl (.cons (k:=2) rfl .nil)))) ?_ ?_
    ·skip
     refine Xb (cT fun hc13=>?_) (cF fun hc13=>?_)
     ·have e9:(bS3 ⟨ZF,⟨l_fa,l_fi⟩,ZX,l_id,Yt,ZS,⟨l_pa,l_pi⟩,Yu⟩)=SL (if ZS then 1 else 0)++(bS4 ⟨ZF,⟨l_fa,l_fi⟩,ZX,l_id,Yt,ZS,⟨l_pa,l_pi⟩,Yu⟩):=by unfold bS3 pt4 Qi;rw [A6 jE]
      have e9L:=A9 List.length e9;rw [e9];refine Yq (l:=[0,1,2,3,4]) [1] rfl ?_;refine Stp ?_;refine Xx (Sc _ rb ((if ZS then 1 else 0)) (bS4 ⟨ZF,⟨l_fa,l_fi⟩,ZX,l_id,Yt,ZS,⟨l_pa,l_pi⟩,Yu⟩) (by (split <;> omega)) jD 0 1 jD (by (split <;> omega))) ?_;rintro _ M9 _ hm9 ⟨hM9,rfl,rfl⟩;obtain rfl:=hM9.symm;simp only [B4];rw [B6];refine Stp ?_;refine Xs 60 rfl (show _=Value.bool ZS from A9 Value.bool (by cases ZS <;> rfl)) ?_;refine S3 ?_;refine Xj ?_;exact Ul (α:=Unit) (pre:=fun _=>[]) (F:=fun _=>True) (S2:=fun _=>St M2 ((rb,Yp [.one (.string (WJ (bS4 ⟨ZF,⟨l_fa,l_fi⟩,ZX,l_id,Yt,ZS,⟨l_pa,l_pi⟩,Yu⟩)))] 230)::(b3,Yp [.one (.pointer (some ⟨rb,0,none⟩))] 176)::(b2,Yp [.one (.int .i64 0)] 25)::(b1,Yp (ZI.segs ⟨ZF,⟨l_fa,l_fi⟩,ZX,l_id,⟨av_a,av_c,Yt⟩,ZS,⟨-1,0⟩,⟨none,0,[]⟩⟩) 128)::H)) (()) (trivial) (.cons (k:=5) rfl (.cons (k:=4) rfl (.cons (k:=3) rfl (.cons (k:=2) rfl .nil)))) (fun w hw=>by (try simp only [ZI.segs,Sl.val,D5] at hw ⊢);first|exact hw|exact hw.c)
     ·refine Stp ?_;have hz:ZS=false:=g10.resolve_left jE;have he9:bS3 ⟨ZF,⟨l_fa,l_fi⟩,ZX,l_id,Yt,ZS,⟨l_pa,l_pi⟩,Yu⟩=bS4 ⟨ZF,⟨l_fa,l_fi⟩,ZX,l_id,Yt,ZS,⟨l_pa,l_pi⟩,Yu⟩:=by unfold bS3 pt4;rw [A4 jE];rfl
      exact Ul (α:=Unit) (pre:=fun _=>[]) (F:=fun _=>True) (S2:=fun _=>St M2 ((rb,Yp [.one (.string (WJ (bS4 ⟨ZF,⟨l_fa,l_fi⟩,ZX,l_id,Yt,ZS,⟨l_pa,l_pi⟩,Yu⟩)))] 230)::(b3,Yp [.one (.pointer (some ⟨rb,0,none⟩))] 176)::(b2,Yp [.one (.int .i64 0)] 25)::(b1,Yp (ZI.segs ⟨ZF,⟨l_fa,l_fi⟩,ZX,l_id,⟨av_a,av_c,Yt⟩,ZS,⟨-1,0⟩,⟨none,0,[]⟩⟩) 128)::H)) (()) (trivial) (.cons (k:=5) rfl (.cons (k:=4) rfl (.cons (k:=3) rfl (.cons (k:=2) rfl .nil)))) (fun w hw=>by show St _ _ w;(try dsimp only);rw [← he9];rw [hz] at hw ⊢;(try simp only [ZI.segs,Sl.val,D5] at hw ⊢);first|exact hw|exact hw.c)
    ·rintro _ -;refine S13 ?_;refine VG [64,7,5,4,3,2] ?_;refine Zys (α:=Unit) (fun _=>[(7,.int .u64 (if ZF=2 then 1 else 0))]) (fun _=>True) (.cons (k:=5) rfl (.cons (k:=4) rfl (.cons (k:=3) rfl (.cons (k:=2) rfl .nil)))) ?_ ?_
     ·skip
      refine Xb (cT fun hc14=>?_) (cF fun hc14=>?_)
      ·refine S3 ?_;refine Yak 7 rfl (show _=Value.int .u64 (if ZF=2 then 1 else 0) from by first|rw [A6 jE]|rw [A4 jE]) ?_;exact Zrv (()) (trivial) (.cons (k:=7) rfl (.cons (k:=5) rfl (.cons (k:=4) rfl (.cons (k:=3) rfl (.cons (k:=2) rfl .nil))))) (fun w hw=>by first|exact hw|exact hw.c)
      ·refine Stp ?_;refine Yak 7 rfl (show _=Value.int .u64 (if ZF=2 then 1 else 0) from by first|rw [A6 jE]|rw [A4 jE]) ?_;exact Zrv (()) (trivial) (.cons (k:=7) rfl (.cons (k:=5) rfl (.cons (k:=4) rfl (.cons (k:=3) rfl (.cons (k:=2) rfl .nil))))) (fun w hw=>by first|exact hw|exact hw.c)
     ·rintro _ -;refine S2 ?_;refine Yq (l:=[0,1,2,3,4,5,6,7,8]) [6] rfl ?_;refine S3 ?_;refine Xs 67 rfl (show _=Value.bool (decide (Vm ZF)) from A9 Value.bool (Up g1 (16,decide (Vm ZF)) jP)) ?_;refine Stp ?_;refine YE 68 (cT fun hc15=>?_) (cF fun hc15=>?_)
      ·refine S2 ?_;have hp8:Vm ZF:=by first|assumption|(simp_all;done)
       have e9:(bS4 ⟨ZF,⟨l_fa,l_fi⟩,ZX,l_id,Yt,ZS,⟨l_pa,l_pi⟩,Yu⟩)=SL (if (⟨l_pa,l_pi⟩:Zr)≠Yj then 1 else 0)++((if (⟨l_pa,l_pi⟩:Zr)≠Yj then WB ⟨l_pa,l_pi⟩ else [])++(bS5 ⟨ZF,⟨l_fa,l_fi⟩,ZX,l_id,Yt,ZS,⟨l_pa,l_pi⟩,Yu⟩)):=by unfold bS4 pt5 Qi;rw [A6 jE,B5];simp only [decide_eq_true_eq]
       have e9L:=A9 List.length e9;rw [e9];refine Zut rfl rfl rfl F.ok110 rfl (Sc _ rb (if (⟨l_pa,l_pi⟩:Zr)≠Yj then 1 else 0) ((if (⟨l_pa,l_pi⟩:Zr)≠Yj then WB ⟨l_pa,l_pi⟩ else [])++(bS5 ⟨ZF,⟨l_fa,l_fi⟩,ZX,l_id,Yt,ZS,⟨l_pa,l_pi⟩,Yu⟩)) (by split <;> omega) jD _ 1 (by by_cases h2:ZF=2 <;> by_cases h3:(⟨l_pa,l_pi⟩:Zr)=Yj <;> simp_all) (by split <;> omega)) jA (XK rfl) ?_;rintro _ M9 _ hm9 ⟨hM9,rfl,rfl⟩;obtain rfl:=hM9.symm;simp only [B4];rw [B6];refine Stp ?_;refine Xs 72 rfl (show _=Value.bool (decide ((⟨l_pa,l_pi⟩:Zr)≠Yj)) from A9 Value.bool (by split <;> simp_all)) ?_;refine S2 ?_;refine Xj ?_;refine Stp ?_;refine VG [73,5,4,3,2] ?_;refine RD (α:=Unit) (fun _=>[]) (fun _=>True) (fun _=>St M2 ((rb,Yp [.one (.string (WJ (bS5 ⟨ZF,⟨l_fa,l_fi⟩,ZX,l_id,Yt,ZS,⟨l_pa,l_pi⟩,Yu⟩)))] 230)::(b3,Yp [.one (.pointer (some ⟨rb,0,none⟩))] 176)::(b2,Yp [.one (.int .i64 0)] 25)::(b1,Yp (ZI.segs ⟨ZF,⟨l_fa,l_fi⟩,ZX,l_id,⟨av_a,av_c,Yt⟩,ZS,⟨l_pa,l_pi⟩,⟨none,0,[]⟩⟩) 128)::H)) (.cons (k:=5) rfl (.cons (k:=4) rfl (.cons (k:=3) rfl (.cons (k:=2) rfl .nil)))) ?_ ?_
       ·skip
        refine Xb (cT fun hc16=>?_) (cF fun hc16=>?_)
        ·rw [A6 jE];have hpl:=OC (p:=⟨l_pa,l_pi⟩) (g5.resolve_left jE);refine Yq (l:=[0,1,2,3]) [1] rfl ?_;refine Stp ?_;refine Xx (Kc _ rb ⟨l_pa,l_pi⟩ (bS5 ⟨ZF,⟨l_fa,l_fi⟩,ZX,l_id,Yt,ZS,⟨l_pa,l_pi⟩,Yu⟩) (g5.resolve_left jE) jZ) ?_;rintro _ M9 _ hm9 ⟨hM9,rfl,rfl⟩;obtain rfl:=hM9.symm;simp only [B4];rw [B6];refine S3 ?_;refine Xj ?_;exact Ul (α:=Unit) (pre:=fun _=>[]) (F:=fun _=>True) (S2:=fun _=>St M2 ((rb,Yp [.one (.string (WJ (bS5 ⟨ZF,⟨l_fa,l_fi⟩,ZX,l_id,Yt,ZS,⟨l_pa,l_pi⟩,Yu⟩)))] 230)::(b3,Yp [.one (.pointer (some ⟨rb,0,none⟩))] 176)::(b2,Yp [.one (.int .i64 0)] 25)::(b1,Yp (ZI.segs ⟨ZF,⟨l_fa,l_fi⟩,ZX,l_id,⟨av_a,av_c,Yt⟩,ZS,⟨l_pa,l_pi⟩,⟨none,0,[]⟩⟩) 128)::H)) (()) (trivial) (.cons (k:=5) rfl (.cons (k:=4) rfl (.cons (k:=3) rfl (.cons (k:=2) rfl .nil)))) (fun w hw=>by (try simp only [ZI.segs,Sl.val,D5] at hw ⊢);first|exact hw|exact hw.c)
        ·refine Stp ?_;have hz0:(⟨l_pa,l_pi⟩:Zr)=Yj:=by first|exact Classical.not_not.1 jE|exact g11.resolve_left (by first|assumption|(simp_all;done))
         have hz:l_pa=-1:=A9 Zr.addr hz0;have hy:l_pi=0:=A9 Zr.id hz0;rw [A4 jE,B6];exact Ul (α:=Unit) (pre:=fun _=>[]) (F:=fun _=>True) (S2:=fun _=>St M2 ((rb,Yp [.one (.string (WJ (bS5 ⟨ZF,⟨l_fa,l_fi⟩,ZX,l_id,Yt,ZS,⟨l_pa,l_pi⟩,Yu⟩)))] 230)::(b3,Yp [.one (.pointer (some ⟨rb,0,none⟩))] 176)::(b2,Yp [.one (.int .i64 0)] 25)::(b1,Yp (ZI.segs ⟨ZF,⟨l_fa,l_fi⟩,ZX,l_id,⟨av_a,av_c,Yt⟩,ZS,⟨l_pa,l_pi⟩,⟨none,0,[]⟩⟩) 128)::H)) (()) (trivial) (.cons (k:=5) rfl (.cons (k:=4) rfl (.cons (k:=3) rfl (.cons (k:=2) rfl .nil)))) (fun w hw=>by show St _ _ w;rw [hz,hy] at hw ⊢;(try simp only [ZI.segs,Sl.val,D5] at hw ⊢);first|exact hw|exact hw.c)
       ·rintro _ -;refine S6 ?_;refine Xs 79 rfl (show _=Value.bool (decide (Wn ZF)) from A9 Value.bool (Up g1 (32,decide (Wn ZF)) jP)) ?_;refine S2 ?_;refine Xb (cT fun hc17=>?_) (cF fun hc17=>?_)
        ·refine Stp ?_;have e9:(bS5 ⟨ZF,⟨l_fa,l_fi⟩,ZX,l_id,Yt,ZS,⟨l_pa,l_pi⟩,Yu⟩)=SL Yu.length++(Yu.flatMap WB++[]):=by unfold bS5 pt6 Ga;rw [A6 jE,B5]
         have e9L:=A9 List.length e9;rw [e9];refine Yq (l:=[0,1,2]) [1] rfl ?_;refine Stp ?_;refine Xx (Sc _ rb (Yu.length) (Yu.flatMap WB++[]) jD jD 0 8 jD jD) ?_;rintro _ M9 _ hm9 ⟨hM9,rfl,rfl⟩;obtain rfl:=hM9.symm;simp only [B4];rw [B6];refine S2 ?_;refine Xj ?_;refine S2 ?_;refine VG [82,81,4,3,2] ?_;refine OZ (Hin:=[(rb,Yp [.one (.string (WJ (Yu.flatMap WB++[])))] 230)]) (Hin2:=[(b1,Yp [.one (.int .i64 ZF),.one (.int .i64 l_fa),ZU l_fi,.one (.int .u64 ZX),ZU l_id,.one (.slice av_a Yt.length av_c),.one (.bool ZS),.one (.int .i64 l_pa),ZU l_pi,.one (.slice none 0 0)] 128)]) (.succ .zero) jA jA (fun (k:Nat) M1 h1 z=>∃ (v:Value) (ha:Hp),M1=M2∧z=[(82,.int .u64 (k:Int))]∧k≤Yu.length∧h1=(rb,Yp [.one (.string (WJ ((Yu.drop k).flatMap WB++[])))] 230)::(b1,Yp [.one (.int .i64 ZF),.one (.int .i64 l_fa),ZU l_fi,.one (.int .u64 ZX),ZU l_id,.one (.slice av_a Yt.length av_c),.one (.bool ZS),.one (.int .i64 l_pa),ZU l_pi,.one (v)] 128)::ha∧OSl 38 21 v ha ((Yu.take k).map Zr.segs)) (fun k=>Yu.length-k) (0) (⟨_,[],rfl,rfl,by omega,rfl,OSl.nil⟩) ?_;rintro k M1 h1 z hm1 ⟨v1,ha,hM1,rfl,hk,rfl,ho⟩;obtain rfl:=hM1.symm;obtain ⟨ad1,cp1,rfl⟩:=ho.valL;have htl:(Yu.take k).length=k:=by rw [D8];omega
         have htm:((Yu.take k).map Zr.segs).length=k:=by rw [A8,htl]
         simp only [B4];refine S6 ?_;refine Xb (cT fun hc18=>?_) (cF fun hc18=>?_)
         ·refine S4 ?_;have e8:(Yu.drop k).flatMap WB++[]=WB Yu[k]++((Yu.drop (k+1)).flatMap WB++[]):=by exact HZ jD _
          have e8L:=A9 List.length e8;rw [e8];have hdl:=Ol (f:=WB) Yu k;refine Ya (l:=[0,1,2,3,4,5,6,7]) #[0,1,0,4,12,31,63,127] (St M2 ((b1,Yp [.one (.int .i64 ZF),.one (.int .i64 l_fa),ZU l_fi,.one (.int .u64 ZX),ZU l_id,.one (.slice av_a Yt.length av_c),.one (.bool ZS),.one (.int .i64 l_pa),ZU l_pi,.one (.slice ad1 (Yu.take k).length cp1)] 128)::(b3,Yp [.one (.pointer (some ⟨rb,0,none⟩))] 176)::ha++H)) rfl jI jI St.drawn (fun _ hw=>hw.c) ?_;refine S3 ?_;refine We (Kc _ rb Yu[k] ((Yu.drop (k+1)).flatMap WB++[]) (g14 _ (C1 _)) jZ) ?_;rintro _ M9 _ hm9 ⟨hM9,rfl,rfl⟩;obtain rfl:=hM9.symm;simp only [B4];rw [B6];refine YK rfl rfl F.elem39 F.zero38 rfl rfl (.cons rfl jG .nil) rfl rfl jK rfl ?_;intro b19 hob20;refine Vc (m:=1000000) rfl rfl rfl rfl rfl F.elem39 F.zero38 zI rfl jE jA (Src.own hob20.lens jN rfl jB) jX jM rfl ?_;intro v23 hs22 ho21;obtain ⟨adv23,cpv23,rfl⟩:=ho21.valAt (n:=k+1) jX;refine S9 ?_;refine YO (a':=[(82,_)]) (k+1) ((rb,Yp [.one (.string (WJ ((Yu.drop (k+1)).flatMap WB++[])))] 230)::(b1,Yp [.one (.int .i64 ZF),.one (.int .i64 l_fa),ZU l_fi,.one (.int .u64 ZX),ZU l_id,.one (.slice av_a Yt.length av_c),.one (.bool ZS),.one (.int .i64 l_pa),ZU l_pi,.one (.slice adv23 (k+1) cpv23)] 128)::hs22) (.cons (k:=82) rfl (.cons (k:=81) rfl (.cons (k:=4) rfl (.cons (k:=3) rfl (.cons (k:=2) rfl (.nil)))))) jO (fun w hw=>by first|exact hw|exact hw.c) ?_ ?_
          ·refine ⟨_,_,rfl,rfl,by omega,rfl,?_⟩;refine OSl.as9 (OSl.aZ ho21 jX) ?_;rw [C9,A7 jD,C6];rfl
          ·omega
         ·refine S7 ?_;obtain rfl:k=Yu.length:=by omega
          rw [List.drop_length,List.flatMap_nil,B6];rw [G0] at ho ⊢;refine Yq (l:=[0,1,2,3]) [2] rfl ?_;refine S2 ?_;refine Xx (GV _ rb []) ?_;rintro _ M9 _ hm9 ⟨hM9,rfl,rfl⟩;obtain rfl:=hM9.symm;simp only [B4];rw [B6];refine S2 ?_;refine Xj ?_;refine Stp ?_;refine Xb (cT fun hc24=>?_) (cF fun hc24=>?_)
          ·(exfalso;simp at hc24;done)
          ·refine S5 ?_;refine UE rfl rfl rfl rfl jG jL jH F.lay128 jC (Sm (m:=67) rfl jC jC) ?_;refine S4 ?_;refine Zam (us:=[.pointer (some ⟨b1,0,none⟩),.pointer (some ⟨b2,0,none⟩)]) (.inr rfl) (.cell rfl jB F.lay128 rfl rfl (.cell rfl jB F.lay25 rfl rfl .nil)) F.ok108 (Gm _ _ _ _) (fun w hw=>?_);obtain ⟨M3,j1,j2,j3⟩:=ho.frz (H:=H) (hw.c);exact ⟨_,M3,rfl,hm2.trans j1,j2,⟨ZF,⟨l_fa,l_fi⟩,ZX,l_id,⟨av_a,av_c,Yt⟩,ZS,⟨l_pa,l_pi⟩,⟨ad1,cp1,Yu⟩⟩,rfl,⟨k_av.mono j1,j3⟩,rfl⟩
        ·refine S4 ?_;have hz:Yu=[]:=g12.resolve_left jE;have he9:(bS5 ⟨ZF,⟨l_fa,l_fi⟩,ZX,l_id,Yt,ZS,⟨l_pa,l_pi⟩,Yu⟩)=[]:=by unfold bS5 pt6;rw [A4 jE];rfl
         rw [he9];refine Yq (l:=[0,1,2,3]) [2] rfl ?_;refine S2 ?_;refine Xx (GV _ rb []) ?_;rintro _ M9 _ hm9 ⟨hM9,rfl,rfl⟩;obtain rfl:=hM9.symm;simp only [B4];rw [B6];refine S2 ?_;refine Xj ?_;refine Stp ?_;refine Xb (cT fun hc25=>?_) (cF fun hc25=>?_)
         ·(exfalso;simp at hc25;done)
         ·refine S5 ?_;refine UE rfl rfl rfl rfl jG jL jH F.lay128 jC (Sm (m:=67) rfl jC jC) ?_;refine S4 ?_;refine Zam (us:=[.pointer (some ⟨b1,0,none⟩),.pointer (some ⟨b2,0,none⟩)]) (.inr rfl) (.cell rfl jB F.lay128 rfl rfl (.cell rfl jB F.lay25 rfl rfl .nil)) F.ok108 (Gm _ _ _ _) (fun w hw=>?_);refine ⟨_,M2,rfl,hm2,hw.c,⟨ZF,⟨l_fa,l_fi⟩,ZX,l_id,⟨av_a,av_c,Yt⟩,ZS,⟨l_pa,l_pi⟩,⟨none,0,[]⟩⟩,?_,⟨k_av,SlK.nil⟩,?_⟩
          ·rfl
          ·show Lt.mk _ _ _ _ _ _ _ _=_;rw [hz]
      ·refine S6 ?_;refine Xj ?_;refine Stp ?_;refine VG [73,5,4,3,2] ?_;refine RD (α:=Unit) (fun _=>[]) (fun _=>True) (fun _=>St M2 ((rb,Yp [.one (.string (WJ (bS5 ⟨ZF,⟨l_fa,l_fi⟩,ZX,l_id,Yt,ZS,⟨l_pa,l_pi⟩,Yu⟩)))] 230)::(b3,Yp [.one (.pointer (some ⟨rb,0,none⟩))] 176)::(b2,Yp [.one (.int .i64 0)] 25)::(b1,Yp (ZI.segs ⟨ZF,⟨l_fa,l_fi⟩,ZX,l_id,⟨av_a,av_c,Yt⟩,ZS,⟨l_pa,l_pi⟩,⟨none,0,[]⟩⟩) 128)::H)) (.cons (k:=5) rfl (.cons (k:=4) rfl (.cons (k:=3) rfl (.cons (k:=2) rfl .nil)))) ?_ ?_
       ·skip
        refine S2 ?_;have hz0:(⟨l_pa,l_pi⟩:Zr)=Yj:=by first|exact Classical.not_not.1 jE|exact g11.resolve_left jE
        have hz:l_pa=-1:=A9 Zr.addr hz0;have hy:l_pi=0:=A9 Zr.id hz0;have he9:bS4 ⟨ZF,⟨l_fa,l_fi⟩,ZX,l_id,Yt,ZS,⟨l_pa,l_pi⟩,Yu⟩=bS5 ⟨ZF,⟨l_fa,l_fi⟩,ZX,l_id,Yt,ZS,⟨l_pa,l_pi⟩,Yu⟩:=by unfold bS4 pt5;rw [A4 jE];rfl
        exact Ul (α:=Unit) (pre:=fun _=>[]) (F:=fun _=>True) (S2:=fun _=>St M2 ((rb,Yp [.one (.string (WJ (bS5 ⟨ZF,⟨l_fa,l_fi⟩,ZX,l_id,Yt,ZS,⟨l_pa,l_pi⟩,Yu⟩)))] 230)::(b3,Yp [.one (.pointer (some ⟨rb,0,none⟩))] 176)::(b2,Yp [.one (.int .i64 0)] 25)::(b1,Yp (ZI.segs ⟨ZF,⟨l_fa,l_fi⟩,ZX,l_id,⟨av_a,av_c,Yt⟩,ZS,⟨l_pa,l_pi⟩,⟨none,0,[]⟩⟩) 128)::H)) (()) (trivial) (.cons (k:=5) rfl (.cons (k:=4) rfl (.cons (k:=3) rfl (.cons (k:=2) rfl .nil)))) (fun w hw=>by show St _ _ w;(try dsimp only);rw [← he9];rw [hz,hy] at hw ⊢;(try simp only [ZI.segs,Sl.val,D5] at hw ⊢);first|exact hw|exact hw.c)
       ·rintro _ -;refine S6 ?_;refine Xs 79 rfl (show _=Value.bool (decide (Wn ZF)) from A9 Value.bool (Up g1 (32,decide (Wn ZF)) jP)) ?_;refine S2 ?_;refine Xb (cT fun hc26=>?_) (cF fun hc26=>?_)
        ·refine Stp ?_;have e9:(bS5 ⟨ZF,⟨l_fa,l_fi⟩,ZX,l_id,Yt,ZS,⟨l_pa,l_pi⟩,Yu⟩)=SL Yu.length++(Yu.flatMap WB++[]):=by unfold bS5 pt6 Ga;rw [A6 jE,B5]
         have e9L:=A9 List.length e9;rw [e9];refine Yq (l:=[0,1,2]) [1] rfl ?_;refine Stp ?_;refine Xx (Sc _ rb (Yu.length) (Yu.flatMap WB++[]) jD jD 0 8 jD jD) ?_;rintro _ M9 _ hm9 ⟨hM9,rfl,rfl⟩;obtain rfl:=hM9.symm;simp only [B4];rw [B6];refine S2 ?_;refine Xj ?_;refine S2 ?_;refine VG [82,81,4,3,2] ?_;refine OZ (Hin:=[(rb,Yp [.one (.string (WJ (Yu.flatMap WB++[])))] 230)]) (Hin2:=[(b1,Yp [.one (.int .i64 ZF),.one (.int .i64 l_fa),ZU l_fi,.one (.int .u64 ZX),ZU l_id,.one (.slice av_a Yt.length av_c),.one (.bool ZS),.one (.int .i64 l_pa),ZU l_pi,.one (.slice none 0 0)] 128)]) (.succ .zero) jA jA (fun (k:Nat) M1 h1 z=>∃ (v:Value) (ha:Hp),M1=M2∧z=[(82,.int .u64 (k:Int))]∧k≤Yu.length∧h1=(rb,Yp [.one (.string (WJ ((Yu.drop k).flatMap WB++[])))] 230)::(b1,Yp [.one (.int .i64 ZF),.one (.int .i64 l_fa),ZU l_fi,.one (.int .u64 ZX),ZU l_id,.one (.slice av_a Yt.length av_c),.one (.bool ZS),.one (.int .i64 l_pa),ZU l_pi,.one (v)] 128)::ha∧OSl 38 21 v ha ((Yu.take k).map Zr.segs)) (fun k=>Yu.length-k) (0) (⟨_,[],rfl,rfl,by omega,rfl,OSl.nil⟩) ?_;rintro k M1 h1 z hm1 ⟨v1,ha,hM1,rfl,hk,rfl,ho⟩;obtain rfl:=hM1.symm;obtain ⟨ad1,cp1,rfl⟩:=ho.valL;have htl:(Yu.take k).length=k:=by rw [D8];omega
         have htm:((Yu.take k).map Zr.segs).length=k:=by rw [A8,htl]
         simp only [B4];refine S6 ?_;refine Xb (cT fun hc27=>?_) (cF fun hc27=>?_)
         ·refine S4 ?_;have e8:(Yu.drop k).flatMap WB++[]=WB Yu[k]++((Yu.drop (k+1)).flatMap WB++[]):=by exact HZ jD _
          have e8L:=A9 List.length e8;rw [e8];have hdl:=Ol (f:=WB) Yu k;refine Ya (l:=[0,1,2,3,4,5,6,7]) #[0,1,0,4,12,31,63,127] (St M2 ((b1,Yp [.one (.int .i64 ZF),.one (.int .i64 l_fa),ZU l_fi,.one (.int .u64 ZX),ZU l_id,.one (.slice av_a Yt.length av_c),.one (.bool ZS),.one (.int .i64 l_pa),ZU l_pi,.one (.slice ad1 (Yu.take k).length cp1)] 128)::(b3,Yp [.one (.pointer (some ⟨rb,0,none⟩))] 176)::ha++H)) rfl jI jI St.drawn (fun _ hw=>hw.c) ?_;refine S3 ?_;refine We (Kc _ rb Yu[k] ((Yu.drop (k+1)).flatMap WB++[]) (g14 _ (C1 _)) jZ) ?_;rintro _ M9 _ hm9 ⟨hM9,rfl,rfl⟩;obtain rfl:=hM9.symm;simp only [B4];rw [B6];refine YK rfl rfl F.elem39 F.zero38 rfl rfl (.cons rfl jG .nil) rfl rfl jK rfl ?_;intro b28 hob29;refine Vc (m:=1000000) rfl rfl rfl rfl rfl F.elem39 F.zero38 zI rfl jE jA (Src.own hob29.lens jN rfl jB) jX jM rfl ?_;intro v32 hs31 ho30;obtain ⟨adv32,cpv32,rfl⟩:=ho30.valAt (n:=k+1) jX;refine S9 ?_;refine YO (a':=[(82,_)]) (k+1) ((rb,Yp [.one (.string (WJ ((Yu.drop (k+1)).flatMap WB++[])))] 230)::(b1,Yp [.one (.int .i64 ZF),.one (.int .i64 l_fa),ZU l_fi,.one (.int .u64 ZX),ZU l_id,.one (.slice av_a Yt.length av_c),.one (.bool ZS),.one (.int .i64 l_pa),ZU l_pi,.one (.slice adv32 (k+1) cpv32)] 128)::hs31) (.cons (k:=82) rfl (.cons (k:=81) rfl (.cons (k:=4) rfl (.cons (k:=3) rfl (.cons (k:=2) rfl (.nil)))))) jO (fun w hw=>by first|exact hw|exact hw.c) ?_ ?_
          ·refine ⟨_,_,rfl,rfl,by omega,rfl,?_⟩;refine OSl.as9 (OSl.aZ ho30 jX) ?_;rw [C9,A7 jD,C6];rfl
          ·omega
         ·refine S7 ?_;obtain rfl:k=Yu.length:=by omega
          rw [List.drop_length,List.flatMap_nil,B6];rw [G0] at ho ⊢;refine Yq (l:=[0,1,2,3]) [2] rfl ?_;refine S2 ?_;refine Xx (GV _ rb []) ?_;rintro _ M9 _ hm9 ⟨hM9,rfl,rfl⟩;obtain rfl:=hM9.symm;simp only [B4];rw [B6];refine S2 ?_;refine Xj ?_;refine Stp ?_;refine Xb (cT fun hc33=>?_) (cF fun hc33=>?_)
          ·(exfalso;simp at hc33;done)
          ·refine S5 ?_;refine UE rfl rfl rfl rfl jG jL jH F.lay128 jC (Sm (m:=67) rfl jC jC) ?_;refine S4 ?_;refine Zam (us:=[.pointer (some ⟨b1,0,none⟩),.pointer (some ⟨b2,0,none⟩)]) (.inr rfl) (.cell rfl jB F.lay128 rfl rfl (.cell rfl jB F.lay25 rfl rfl .nil)) F.ok108 (Gm _ _ _ _) (fun w hw=>?_);obtain ⟨M3,j1,j2,j3⟩:=ho.frz (H:=H) (hw.c);exact ⟨_,M3,rfl,hm2.trans j1,j2,⟨ZF,⟨l_fa,l_fi⟩,ZX,l_id,⟨av_a,av_c,Yt⟩,ZS,⟨l_pa,l_pi⟩,⟨ad1,cp1,Yu⟩⟩,rfl,⟨k_av.mono j1,j3⟩,rfl⟩
        ·refine S4 ?_;have hz:Yu=[]:=g12.resolve_left jE;have he9:(bS5 ⟨ZF,⟨l_fa,l_fi⟩,ZX,l_id,Yt,ZS,⟨l_pa,l_pi⟩,Yu⟩)=[]:=by unfold bS5 pt6;rw [A4 jE];rfl
         rw [he9];refine Yq (l:=[0,1,2,3]) [2] rfl ?_;refine S2 ?_;refine Xx (GV _ rb []) ?_;rintro _ M9 _ hm9 ⟨hM9,rfl,rfl⟩;obtain rfl:=hM9.symm;simp only [B4];rw [B6];refine S2 ?_;refine Xj ?_;refine Stp ?_;refine Xb (cT fun hc34=>?_) (cF fun hc34=>?_)
         ·(exfalso;simp at hc34;done)
         ·refine S5 ?_;refine UE rfl rfl rfl rfl jG jL jH F.lay128 jC (Sm (m:=67) rfl jC jC) ?_;refine S4 ?_;refine Zam (us:=[.pointer (some ⟨b1,0,none⟩),.pointer (some ⟨b2,0,none⟩)]) (.inr rfl) (.cell rfl jB F.lay128 rfl rfl (.cell rfl jB F.lay25 rfl rfl .nil)) F.ok108 (Gm _ _ _ _) (fun w hw=>?_);refine ⟨_,M2,rfl,hm2,hw.c,⟨ZF,⟨l_fa,l_fi⟩,ZX,l_id,⟨av_a,av_c,Yt⟩,ZS,⟨l_pa,l_pi⟩,⟨none,0,[]⟩⟩,?_,⟨k_av,SlK.nil⟩,?_⟩
          ·rfl
          ·show Lt.mk _ _ _ _ _ _ _ _=_;rw [hz]
end Go.Proofs.YtglnjnacodgmaaaGreatDoor
namespace Go.Esp
theorem Zic (l:IM) (k k':Int) (v:Value):Xw (PM l k v) k'=if k'=k then (Xw l k).map (fun _=>v) else Xw l k':=by
 induction l with
 | nil=>simp [PM,Xw]
 | cons p l ih =>
  obtain ⟨j,u⟩:=p;unfold PM;by_cases e:k=j
  ·subst e;by_cases h:k'=k
   ·subst h;simp [Xw]
   ·simp [Xw,h]
  ·by_cases h:k'=j
   ·subst h;simp [Xw,e,Ne.symm e]
   ·simp only [e,if_false,Xw,h];exact ih
theorem Zie (l:IM) (k k':Int) (v:Value):Xw (l++[(k,v)]) k'=match Xw l k' with|some u=>some u|none=>if k'=k then some v else none:=by
 induction l with
 | nil=>simp [Xw]
 | cons p l ih =>
  obtain ⟨j,u⟩:=p;by_cases h:k'=j
  ·subst h;simp [Xw]
  ·simp [Xw,h,ih]
theorem Zid (l:IM) (k k':Int) (v:Value):Xw (VS l k v) k'=if k'=k then some v else Xw l k':=by
 unfold VS;split
 ·rename_i u hu;rw [Zic,hu];rfl
 ·rename_i hu;rw [Zie];grind
theorem Dj (l:IM) (k k':Int) (h:k'≠k):Xw (Pb l k) k'=Xw l k':=by
 induction l with
 | nil=>rfl
 | cons p l ih =>
  obtain ⟨j,u⟩:=p;unfold Pb;by_cases e:k=j
  ·subst e;simp [Xw,h]
  ·simp only [e,if_false,Xw];by_cases h2:k'=j
   ·simp [h2]
   ·simp [ih]
structure Inner (ids:List Int) (im:IM) (l:List YQ) (next:Int):Prop where
  len:ids.length=l.length
  get:∀ (i:Nat) (x:Int) (m:YQ),ids[i]?=some x→l[i]?=some m→Xw im x=some m.enc
  nodup:ids.Nodup
  lt:∀ x∈ids,x<next
theorem Inner.put {ids:List Int} {im:IM} {l:List YQ} {next:Int} (h:Inner ids im l next) (m:YQ):Inner (ids++[next]) (VS im next m.enc) (l++[m]) (next+1):=by
 refine ⟨by simp [h.len],fun i x m' hx hm=>?_,?_,fun x hx=>?_⟩
 ·rw [Zid];rcases C7 i ids.length with hi|hi
  ·rw [F5 hi] at hx;rw [F5 (by rw [← h.len];exact hi)] at hm;have:=h.lt x (H8 hx);rw [A4 jD];exact h.get i x m' hx hm
  ·rw [G2 hi] at hx;rw [G2 (by rw [← h.len];exact hi)] at hm;grind
 ·rw [H3];refine ⟨h.nodup,by simp,fun x hx y hy=>?_⟩;simp only [B0] at hy;have:=h.lt x hx;omega
 ·rcases B8.1 hx with hx|hx
  ·have:=h.lt x hx;omega
  ·grind
theorem Inner.del {ids:List Int} {im:IM} {l:List YQ} {next:Int} (h:Inner ids im l next) {i:Nat} {x:Int} (hx:ids[i]?=some x):Inner (ids.eraseIdx i) (Pb im x) (l.eraseIdx i) next:=by
 have hi:=(C4.1 hx).1;refine ⟨by simp [List.length_eraseIdx,h.len],fun j y m hy hm=>?_,h.nodup.eraseIdx i,fun y hy=>h.lt y (List.mem_of_mem_eraseIdx hy)⟩;rw [List.getElem?_eraseIdx] at hy hm;have key:∀ j',ids[j']?=some y→j'≠i→y≠x:=by
  intro j' hj' hne e;subst e;have h1:=(C4.1 hj').1;have h2:=(C4.1 hj').2;have h3:=(C4.1 hx).2;have hp:=E1.1 h.nodup;rcases Nat.lt_trichotomy j' i with hl|hl|hl
  ·exact hp j' i h1 hi hl (h2.trans h3.symm)
  ·exact hne hl
  ·exact hp i j' hi h1 hl (h3.trans h2.symm)
 split at hy
 ·rename_i hlt;rw [A6 hlt] at hm;rw [Dj _ _ _ (key j hy jD)];exact h.get j y m hy hm
 ·rename_i hlt;rw [A4 hlt] at hm;rw [Dj _ _ _ (key (j+1) hy jD)];exact h.get (j+1) y m hy hm
theorem Inner.nil:Inner [] [] [] 0:=⟨rfl,fun i x m h=>(by simp at h),J1,fun x h=>(by cases h)⟩
def BagIs (b:Nat) (most:Int) (N:Int) (l:List YQ) (Hb:Hp):Prop :=
 ∃ (next:Int) (mb:Nat) (rv:Value) (o:Obj) (hs:Hp) (ids:List Int) (im:IM),
  Hb=(b,Yp [.one (.int .i64 most),.one (.int .i64 next),.one rv,.one (.map (some mb))] 116)::(mb,o)::hs ∧
  OSl 3 1 rv hs (ids.map (WC .i64))∧imO o im∧Inner ids im l next∧0≤next∧next≤N∧(l.length:Int)≤most∧most≤1000
theorem BagIs.mono {b:Nat} {most N N':Int} {l:List YQ} {Hb:Hp} (h:BagIs b most N l Hb) (hN:N≤N'):BagIs b most N' l Hb:=by
 obtain ⟨next,mb,rv,o,hs,ids,im,h1,h2,h3,h4,h5,h6,h7⟩:=h;exact ⟨next,mb,rv,o,hs,ids,im,h1,h2,h3,h4,h5,by omega,h7⟩
def Ak (m:YQ) (most:Int) (l:List YQ):Int:=if m.body.size > 4096 then 2 else if most≤l.length then 12 else 0
def Zge (m:YQ) (most:Int) (l:List YQ):List YQ:=if Ak m most l=0 then l++[m] else l
def atM (i:Int) (l:List YQ):YQ:=if i<0 then .zero else (l[i.toNat]?).getD .zero
def atC (i:Int) (l:List YQ):Int:=if i<0∨(l.length:Int)≤i then 7 else 0
def Zwb (i:Int) (l:List YQ):List YQ:=if i<0 then l else l.eraseIdx i.toNat
def Eg (i:Int) (most:Int) (l:List YQ):Int:=if atC i l=0 then Ak (atM i l) most l else atC i l
def Ef (i:Int) (most:Int) (l:List YQ):List YQ:=if atC i l=0 then Zge (atM i l) most l else l
theorem Zsn (m:YQ) (most:Int) (l:List YQ) (h:(4096:Int)<m.body.size):Ak m most l=2∧Zge m most l=l:=by
 have:Ak m most l=2:=by unfold Ak;rw [A6 jD]
 exact ⟨this,by unfold Zge;rw [this];rfl⟩
theorem Ai (m:YQ) (most:Int) (l:List YQ) (h:¬(4096:Int)<m.body.size) (h2:most≤l.length):Ak m most l=12∧Zge m most l=l:=by
 have:Ak m most l=12:=by unfold Ak;rw [A4 jD,A6 h2]
 exact ⟨this,by unfold Zge;rw [this];rfl⟩
theorem Zqw (m:YQ) (most:Int) (l:List YQ) (h:¬(4096:Int)<m.body.size) (h2:¬most≤l.length):Ak m most l=0∧Zge m most l=l++[m]:=by
 have:Ak m most l=0:=by unfold Ak;rw [A4 jD,A4 h2]
 exact ⟨this,by unfold Zge;rw [this];rfl⟩
theorem Bz (i:Int) (l:List YQ) (h:i<0∨(l.length:Int)≤i):atM i l=.zero∧atC i l=7:=by
 unfold atM atC;grind
theorem Zxo (i:Int) (l:List YQ) (h0:¬i<0) (h:i.toNat<l.length):atM i l=l[i.toNat]∧atC i l=0:=by
 unfold atM atC;grind
theorem Inner.at {ids:List Int} {im:IM} {l:List YQ} {next:Int} (h:Inner ids im l next) (z:Value) (k:Nat) (hk:k<ids.length):(Xw im ids[k]).getD z=WX (l[k]'(by rw [← h.len];exact hk)).segs:=by
 have:=h.get k ids[k] (l[k]'(by rw [← h.len];exact hk)) (A7 hk) (A7 _);rw [this];rfl
theorem Zbv (ids:List Int):∀ u∈ZV (ids.map (WC .i64)),u.oneCell'=true:=by
 intro u hu
 induction ids with
 | nil=>cases hu
 | cons x ids ih =>
  simp only [D3,ZV,WC,Segs.cells,Seg.cells,B4,B7] at hu;rcases hu with rfl|hu
  ·rfl
  ·exact ih hu
theorem Ko {i:Int} {l:List YQ}:atC i l=0↔0≤i∧i<l.length:=by
 unfold atC;simp
theorem KC {i:Int} {l:List YQ} (h:¬atC i l=0):Zwb i l=l:=by
 rw [Ko] at h;unfold Zwb;simp_all
theorem Cr (k:Nat) (l:List YQ):Zwb (k:Int) l=l.eraseIdx k:=by
 rfl
theorem PE {α β:Type} (f:α→β):∀ (l:List α) (k:Nat),(l.map f).eraseIdx k=(l.eraseIdx k).map f
 | [],k=>by simp
 | x::l,0=>by simp
 | x::l,k+1=>by simp [PE f l k]
theorem BagIs.intro {b:Nat} {most N:Int} {l:List YQ} {next:Int} {mb:Nat} {rv:Value} {o:Obj} {hs:Hp} {ids:List Int} {im:IM}
 (h1:OSl 3 1 rv hs (ids.map (WC .i64))) (h2:imO o im) (h3:Inner ids im l next) (h4:0≤next) (h5:next≤N) (h6:(l.length:Int)≤most) (h7:most≤1000) :
 BagIs b most N l ((b,Yp [.one (.int .i64 most),.one (.int .i64 next),.one rv,.one (.map (some mb))] 116)::(mb,o)::hs) :=
 ⟨next,mb,rv,o,hs,ids,im,rfl,h1,h2,h3,h4,h5,h6,h7⟩
theorem Zrm (k:Nat) (l:List YQ) (h:k<l.length):atM (k:Int) l=l[k]∧atC (k:Int) l=0:=by
 have:=Zxo (k:Int) l jD zL;grind
end Go.Esp
namespace Go.Proofs.YtglnjnacodgmaaaGreatDoor.B
open Go.Esp
theorem F.bld116:Bld Tryz.prog 116 [[.one (.int .i64 0)],[.one (.int .i64 0)],[.one (.slice none 0 0)],[.one (.map none)]]:=⟨by kernel_rfl,by kernel_rfl⟩
theorem F.map114:RI Tryz.prog 114=some (3,82):=by kernel_rfl
theorem New_ok (M:Mem) (most:Int) (h:1≤most∧most≤1000):Fh Tryz.prog 27 [.int .i64 most] M [] (fun M' v Hb=>M'=M∧∃ b,v=.tuple #[.pointer (some ⟨b,0,none⟩),.int .i64 0]∧BagIs b most 0 [] Hb):=by
 refine Uu Tryz.func27 rfl Tryz.ntmps27 rfl ?_;intro H;refine S12 ?_;refine YE 6 (cT fun hc1=>?_) (cF fun hc1=>?_)
 ·(exfalso;omega)
 ·refine S5 ?_;refine Xb (cT fun hc2=>?_) (cF fun hc2=>?_)
  ·(exfalso;omega)
  ·refine S6 ?_;intro b3;refine XN rfl rfl F.bld116 (.cons rfl jG (.cons rfl jG .nil)) rfl rfl ?_;refine Stp ?_;intro b4;refine S5 ?_;refine ZH fun w hw=>?_;refine ⟨_,M,_,rfl,Mem.le.refl M,hw.cnt (H':=_++H) ?_,rfl,_,rfl,0,b3,_,.map #[] 0,[],[],[],rfl,OSl.nil,⟨#[],_,rfl,rfl⟩,Inner.nil,by omega,by omega,by simp;omega,by omega⟩;intro x;simp only [WG,Wo,WW,cat,B4,B6];omega
theorem Put_ok (M:Mem) (b:Nat) (most N:Int) (l:List YQ) (Hb:Hp) (m:YQ) (hN:N≤1000000000000000) (hb:BagIs b most N l Hb):Fh Tryz.prog 72 [.pointer (some ⟨b,0,none⟩),m.enc] M Hb (fun M' v Hb'=>M'=M∧v=.int .i64 (Ak m most l)∧BagIs b most (N+1) (Zge m most l) Hb'):=by
 obtain ⟨next,mb,rv,o,hs,ids,im,rfl,ho,hm,hin,hn0,hnN,hl1,hl2⟩:=hb;obtain ⟨ad,cp,rfl⟩:=ho.val;have hil:(ids.map (WC .i64)).length=l.length:=by simp [hin.len]
 have hil2:ids.length=l.length:=hin.len;refine YI (fun H=>(b,Yp [.one (.int .i64 most),Seg.one (.int .i64 next),.one _,.one (.map (some mb))] 116)::(mb,o)::(hs++H)) (fun _=>rfl) Tryz.func72 rfl Tryz.ntmps72 rfl ?_;intro H;refine S3 ?_;intro b1;refine S12 ?_;refine Xb (fun hc2=>?_) (fun hc2=>?_)
 ·skip
  (exfalso;simp [eqX] at hc2;done)
 ·skip
  refine S4 ?_;refine Rz Tryz.underlying9 ?_;refine S4 ?_;refine Xb (cT fun hc3=>?_) (cF fun hc3=>?_)
  ·refine S8 ?_;refine ZH fun w hw=>?_;(have hp:=Zsn m most l jD;exact ⟨_,M,((b,_)::(mb,_)::hs),rfl,Mem.le.refl M,hw.c,rfl,by rw [hp.1];rfl,next,mb,_,o,hs,ids,im,rfl,ho,hm,by rw [hp.2];exact hin,hn0,by omega,by rw [hp.2];exact hl1,hl2⟩)
  ·refine Stp ?_;refine Ya (l:=[0,1,2,3,4,5,6,7,8,9,10]) #[0,1,3,7,15,0,32,96,224,511,1023] _ rfl jI jI St.drawn (fun _ h=>h) ?_;refine S13 ?_;refine Xb (cT fun hc4=>?_) (cF fun hc4=>?_)
   ·refine S8 ?_;refine ZH fun w hw=>?_;(have hp:=Ai m most l jD jD;exact ⟨_,M,((b,_)::(mb,_)::hs),rfl,Mem.le.refl M,hw.c,rfl,by rw [hp.1];rfl,next,mb,_,o,hs,ids,im,rfl,ho,hm,by rw [hp.2];exact hin,hn0,by omega,by rw [hp.2];exact hl1,hl2⟩)
   ·refine S4 ?_;refine Ya (l:=[0,1,2,3,4,5,6,7,8,9]) #[0,1,3,7,0,16,48,112,0,511] _ rfl jI jI St.drawn (fun _ h=>h) ?_;refine S9 ?_;refine LS rfl rfl rfl rfl rfl F.map114 jE jB ?_;intro o5 him6;refine ⟨_,jH,?_⟩;refine S3 ?_;refine Ya (l:=[0,1,2,3,4,5,6,7,8,9,10,11,12,13]) #[0,0,2,6,14,0,32,96,224,480,1022,2047,4095,8191] _ rfl jI jI St.drawn (fun _ h=>h) ?_;refine S9 ?_;refine YK rfl rfl F.elem32 F.zero3 rfl rfl (.cons rfl jG .nil) rfl rfl jK rfl ?_;intro b7 hob8;refine Vc (m:=1000000) rfl rfl rfl rfl rfl F.elem32 F.zero3 zH rfl jE jA (Src.own hob8.lens jN rfl jB) jX jM rfl ?_;intro v11 hs10 ho9;obtain ⟨adv11,cpv11,rfl⟩:=ho9.val;refine S23 ?_;refine ZH fun w hw=>?_;have hp:=Zqw m most l jD jD;have e:(ids++[next]).map (WC .i64)=ids.map (WC .i64)++[[.one (.int .i64 next)]]:=by simp [WC]
    refine ⟨_,M,((b,_)::(mb,o5)::hs10),rfl,Mem.le.refl M,?_,rfl,by rw [hp.1];rfl,next+1,mb,_,_,_,ids++[next],VS im next m.enc,rfl,by rw [e];exact ho9,him6,by rw [hp.2];exact hin.put m,by omega,by omega,by rw [hp.2];simp;omega,hl2⟩;exact hw.c
end Go.Proofs.YtglnjnacodgmaaaGreatDoor.B
namespace Go.Proofs.YtglnjnacodgmaaaGreatDoor.B
open Go.Esp
theorem F.bld82:Bld Tryz.prog 82 [[.one (.int .i64 0)],[.one (.int .i64 0)],[.one (.string ⟨#[]⟩)]]:=⟨by kernel_rfl,by kernel_rfl⟩
theorem F.zero82:XP Tryz.prog 82=some (WX [.one (.int .i64 0),.one (.int .i64 0),.one (.string ⟨#[]⟩)]):=by kernel_rfl
theorem Zyu (M:Mem) (b:Nat) (most N:Int) (l:List YQ) (Hb:Hp) (i:Int) (hb:BagIs b most N l Hb):Fo Tryz.prog 39 [.pointer (some ⟨b,0,none⟩),.int .i64 i] M Hb (fun M' v=>M'=M∧v=.tuple #[(atM i l).enc,.int .i64 (atC i l)]):=by
 obtain ⟨next,mb,rv,o,hs,ids,im,rfl,ho,hm,hin,hn0,hnN,hl1,hl2⟩:=hb;obtain ⟨ad,cp,rfl⟩:=ho.val;have hil:(ids.map (WC .i64)).length=l.length:=by simp [hin.len]
 have hil2:ids.length=l.length:=hin.len;have hget:=fun z k hk=>Inner.at hin z k hk;refine Mv (fun H=>(b,Yp [.one (.int .i64 most),Seg.one (.int .i64 next),.one _,.one (.map (some mb))] 116)::(mb,o)::(hs++H)) (fun _=>rfl) Tryz.func39 rfl Tryz.ntmps39 rfl ?_;intro H;refine S3 ?_;intro b1;refine S12 ?_;refine Xb (fun hc2=>?_) (fun hc2=>?_)
 ·skip
  (exfalso;simp [eqX] at hc2;done)
 ·skip
  refine S5 ?_;refine YE 13 (cT fun hc3=>?_) (cF fun hc3=>?_)
  ·refine S22 ?_;refine ZH fun w hw=>?_;(have hp:=Bz i l jD;exact ⟨_,M,rfl,Mem.le.refl M,hw.c,rfl,by rw [hp.1,hp.2];rfl⟩)
  ·refine S11 ?_;refine Xb (cT fun hc4=>?_) (cF fun hc4=>?_)
   ·refine S10 ?_;refine ZH fun w hw=>?_;(have hp:=Bz i l jD;exact ⟨_,M,rfl,Mem.le.refl M,hw.c,rfl,by rw [hp.1,hp.2];rfl⟩)
   ·refine S4 ?_;refine Ya (l:=[0,1,2,3,4,5,6,7,8,9,10,11,12,13]) #[0,1,3,7,0,16,48,112,0,496,1008,2047,4095,8191] _ rfl jI jI St.drawn (fun _ h=>h) ?_;refine S11 ?_;refine Kp rfl rfl rfl rfl F.map114 F.zero82 jB jE (hget _ _ jD) rfl ?_;refine S5 ?_;refine ZH fun w hw=>?_;(have hp:=Zxo i l jD jD;exact ⟨_,M,rfl,Mem.le.refl M,hw.c,rfl,by rw [hp.1,hp.2];rfl⟩)
theorem Zlu (M:Mem) (k:Nat) (v:Value) (hs:Hp) (rows:List Segs) (ho:OSl 3 1 v hs rows) (hk:k<rows.length) (h1:∀ u∈ZV rows,u.oneCell'=true) (hlen:rows.length≤1000000):Fh Tryz.prog 71 [v,.int .i64 (k:Int),.int .i64 ((k:Int)+1)] M hs (fun M' v hs'=>M'=M∧OSl 3 1 v hs' (rows.eraseIdx k)):=by
 obtain ⟨ad,c,rfl⟩:=ho.val;obtain ⟨b,rfl⟩:=ho.addr jD;obtain ⟨_,_,_,_,hcap,_⟩:=ho.inv;have hlen2:(rows.take k++rows.drop (k+1)).length+1=rows.length:=by simp;omega
 refine Uu Tryz.func71 rfl Tryz.ntmps71 rfl ?_;intro H;refine S12 ?_;refine WL rfl rfl rfl (.some rfl rfl) (.some (k:=k+1) rfl jD) (.some rfl rfl) F.elem32 jJ jJ jJ (fun _=>rfl) rfl rfl ?_;refine S10 ?_;refine Xb (cT fun hc1=>?_) (cF fun hc1=>?_)
 ·(exfalso;omega)
 ·refine S10 ?_;refine Ya (l:=[0,1,2,3,4,5,6,7]) #[0,0,3,0,0,24,63,127] _ rfl jI jI St.drawn (fun _ h=>h) ?_;refine S2 ?_;refine WL rfl rfl rfl .none (.some rfl rfl) .none F.elem32 jJ jJ jJ jQ (show WK (some ⟨b,0,none⟩) 1 0 k c=.slice (some ⟨b,0,none⟩) k c from SV) rfl ?_;refine S2 ?_;refine WL rfl rfl rfl (.some (k:=k+1) rfl jD) .none .none F.elem32 jJ jJ jJ jQ (show WK (some ⟨b,0,none⟩) 1 (k+1) rows.length c=WK (some ⟨b,0,none⟩) 1 (k+1) rows.length c from rfl) rfl ?_;refine BE rfl rfl rfl rfl rfl F.elem32 (ho.cut jD) jA (ho.srcPiece jA h1 jD) jU rfl ?_;intro hs2 ho2;refine S9 ?_;refine WL rfl rfl rfl (.some rfl rfl) (.some rfl rfl) .none F.elem32 jJ jJ jJ jQ (show WK (some ⟨b,0,none⟩) 1 (rows.take k++rows.drop (k+1)).length rows.length c=.slice (some ⟨b,0+(rows.take k++rows.drop (k+1)).length * 1,none⟩) (rows.length-(rows.take k++rows.drop (k+1)).length) (c-(rows.take k++rows.drop (k+1)).length) from UZ jD) rfl ?_;refine JS rfl rfl rfl rfl rfl F.elem32 F.zero3 rfl jI ho2 jA jD jD Oa ?_;intro hs3 ho3;refine S9 ?_;refine ZH fun w hw=>?_;exact ⟨_,M,hs3,rfl,Mem.le.refl M,hw.c,rfl,by rw [List.eraseIdx_eq_take_drop_succ];exact ho3⟩
end Go.Proofs.YtglnjnacodgmaaaGreatDoor.B
namespace Go.Proofs.YtglnjnacodgmaaaGreatDoor.B
open Go.Esp
theorem Take_ok (M:Mem) (b:Nat) (most N:Int) (l:List YQ) (Hb:Hp) (i:Int) (hb:BagIs b most N l Hb):Fh Tryz.prog 33 [.pointer (some ⟨b,0,none⟩),.int .i64 i] M Hb (fun M' v Hb'=>M'=M∧v=.tuple #[(atM i l).enc,.int .i64 (atC i l)]∧BagIs b most N (Zwb i l) Hb'):=by
 obtain ⟨next,mb,rv,o,hs,ids,im,rfl,ho,hm,hin,hn0,hnN,hl1,hl2⟩:=hb;obtain ⟨ad,cp,rfl⟩:=ho.val;have hil:(ids.map (WC .i64)).length=l.length:=by simp [hin.len]
 have hil2:ids.length=l.length:=hin.len;refine YI (fun H=>(b,Yp [.one (.int .i64 most),Seg.one (.int .i64 next),.one _,.one (.map (some mb))] 116)::(mb,o)::(hs++H)) (fun _=>rfl) Tryz.func33 rfl Tryz.ntmps33 rfl ?_;intro H;refine S3 ?_;intro b1;refine S7 ?_;refine PG (Zyu M b most N l _ i (BagIs.intro ho hm hin hn0 hnN hl1 hl2)) ?_;rintro _ M1 _ ⟨hM1,rfl⟩;subst M1;refine S4 ?_;intro b2;refine S11 ?_;refine Xb (cT fun hc3=>?_) (cF fun hc3=>?_)
 ·refine Stp ?_;refine Ya (l:=[0,1,2,3,4,5,6,7,8,9,10,11]) #[0,1,3,7,0,16,48,112,0,496,1008,2047] _ rfl jI jI St.drawn (fun _ h=>h) ?_;have hi:=Ko.1 ‹atC i l=0›;obtain ⟨k,rfl⟩:∃ k:Nat,i=k:=⟨i.toNat,by omega⟩
  refine S11 ?_;refine Zla rfl rfl rfl rfl rfl F.map114 jE jB ?_;intro o4 him5;refine ⟨_,jH,?_⟩;refine S2 ?_;refine Xv (l:=[0,1,2,3,4,5,6,7,8,9,10,11]) (Hin:=hs) jA rfl ?_;refine S8 ?_;refine We (Zlu M k _ _ _ ho jU (Zbv _) jU) ?_;rintro v5 M2 hs5 _ ⟨hM2,ho5⟩;subst M2;obtain ⟨ad5,cp5,rfl⟩:=ho5.val;refine S14 ?_;refine ZH fun w hw=>?_;have h9:=hin.del (i:=k) (A7 jD);have e9:(ids.map (WC .i64)).eraseIdx k=(ids.eraseIdx k).map (WC .i64):=by rw [PE]
  refine ⟨_,M,_,rfl,Mem.le.refl M,?_,rfl,rfl,by rw [Cr];exact BagIs.intro (mb:=mb) (by rw [← e9];exact ho5) jE h9 hn0 hnN (by rw [List.length_eraseIdx];split <;> omega) hl2⟩;exact hw.c
 ·refine S11 ?_;refine ZH fun w hw=>?_;refine ⟨_,M,_,rfl,Mem.le.refl M,?_,rfl,rfl,by rw [KC jE];exact BagIs.intro (mb:=mb) ho hm hin hn0 hnN hl1 hl2⟩;exact hw.c
theorem Twice_ok (M:Mem) (b:Nat) (most N:Int) (l:List YQ) (Hb:Hp) (i:Int) (hN:N≤1000000000000000) (hb:BagIs b most N l Hb):Fh Tryz.prog 34 [.pointer (some ⟨b,0,none⟩),.int .i64 i] M Hb (fun M' v Hb'=>M'=M∧v=.int .i64 (Eg i most l)∧BagIs b most (N+1) (Ef i most l) Hb'):=by
 refine Uu Tryz.func34 rfl Tryz.ntmps34 rfl ?_;intro H;refine S9 ?_;refine PG (Zyu M b most N l _ i hb) ?_;rintro _ M1 _ ⟨hM1,rfl⟩;subst M1;refine S4 ?_;intro b1;refine S11 ?_;refine Xb (eT fun hc2=>?_) (eF fun hc2=>?_)
 ·refine S8 ?_;refine ZH fun w hw=>?_;have h9:=hb.mono (N':=N+1) jD;exact ⟨_,M,Hb,rfl,Mem.le.refl M,hw.c,rfl,by unfold Eg;rw [A4 jE];rfl,by unfold Ef;rw [A4 jE];exact h9⟩
 ·refine S3 ?_;refine Xv (l:=[0,1,2,3]) (Hin:=Hb) jA rfl ?_;refine S2 ?_;refine We (Put_ok M b most N l _ (atM i l) hN hb) ?_;rintro _ M2 Hb2 _ ⟨hM2,rfl,hb2⟩;subst M2;refine S4 ?_;refine ZH fun w hw=>?_;exact ⟨_,M,Hb2,rfl,Mem.le.refl M,hw.c,rfl,by unfold Eg;rw [A6 jD];rfl,by unfold Ef;rw [A6 jD];exact hb2⟩
end Go.Proofs.YtglnjnacodgmaaaGreatDoor.B
namespace Go.Esp
def Kq (L:List Snd):Prop:=∀ s∈L,SB s.letter.req
theorem Vw:Kq []:=fun s hs=>by cases hs
theorem Px {s:Snd} (h:SB s.letter.req):Kq [s]:=fun x hx=>by rw [B0.1 hx];exact h
theorem HW (r:Int):SB (nxR r):=by unfold nxR SB;omega
theorem CN:SB 0:=⟨by decide,by decide⟩
theorem Sd {c:Prop} [Decidable c] {a b:Nd×List Snd} (ha:Kq a.2) (hb:Kq b.2):Kq (if c then a else b).2:=by split <;> assumption
theorem Rh {c:Prop} [Decidable c] {a b:Nd×List Snd×Int} (ha:Kq a.2.1) (hb:Kq b.2.1):Kq (if c then a else b).2.1:=by split <;> assumption
theorem HQ (n:Nd) (to9:Int):Kq (UY n to9).2:=Px (HW _)
theorem Zne (n:Nd):Kq (UD n).2:=by
 unfold UD;dsimp only;exact Sd (HQ _ _) (Sd Vw (Px (HW _)))
theorem Zsk (n:Nd):Kq (JB n).2:=by
 unfold JB;dsimp only;exact Sd Vw (Sd Vw (Sd Vw (HQ _ _)))
theorem Zfz (n:Nd):Kq (UA n).2:=by
 unfold UA;simp only;split
 ·exact Vw
 ·exact Px (HW _)
theorem Znc (n:Nd) (k:Int):Kq (Vf n k).2.1:=by
 unfold Vf;dsimp only;exact Rh (Sd (Zne n) (Sd (Zsk n) (Zfz n))) Vw
theorem Zfy (n:Nd) (l:Lt):Kq (YF n l).2:=by
 unfold YF;dsimp only;exact Sd Vw (Sd (Sd Vw (Sd Vw Vw)) (Sd Vw (HQ _ _)))
theorem Znb (n:Nd) (l:Lt):Kq (Si n l).2:=by
 unfold Si;dsimp only;exact Sd Vw (Px CN)
theorem Znf (n:Nd) (l:Lt) (hl:SB l.req):Kq (SN n l):=by
 unfold SN;dsimp only;split
 ·exact Vw
 ·exact Px hl
theorem Zsl (n:Nd) (l:Lt) (s:Snd) (hs:SB s.letter.req):Kq (if n.joined then [s] else []):=by
 split
 ·exact Px hs
 ·exact Vw
theorem Znd (n:Nd) (l:Lt) (hl:SB l.req):Kq (WI n l).2.1:=by
 unfold WI;exact Rh (Rh Vw (Rh (Znf n l hl) (Rh (Zfy n l) (Rh (Zsl n l _ hl) (Rh (Znb n l) (Rh Vw (Rh (Px hl) (Rh Vw Vw)))))))) Vw
theorem Zfx (n:Nd):Kq (Sq n).1:=by
 unfold Sq;split
 ·intro s hs;simp only at hs;rcases B8.1 hs with h|h
  ·split at h
   ·cases h
   ·rw [B0.1 h];exact CN
  ·split at h
   ·rw [B0.1 h];exact CN
   ·cases h
 ·exact Vw
end Go.Esp
namespace Go.Esp
structure Ml where
  frm:Int
  zto:Int
  lt:Lt
  deriving DecidableEq
structure Rg where
  copies:Int
  most:Int
  nodes:List (Int×Nd)
  bag:List Ml
  deriving DecidableEq
def YC {α:Type} (a:Int):List (Int×α)→Option α
 | []=>none
 | (b,x)::l=>if b=a then some x else YC a l
def WM {α:Type} (a:Int) (x:α):List (Int×α)→List (Int×α)
 | []=>[(a,x)]
 | (b,y)::l=>if a<b then (a,x)::(b,y)::l else if b=a then (a,x)::l else (b,y)::WM a x l
def AY {α:Type} (a:Int) (l:List (Int×α)):List (Int×α):=l.filter fun p=>p.1≠a
def XW (r:Rg):List Int:=r.nodes.map (·.1)
def Zmc (r:Rg) (frm:Int) (s:Snd):Rg:=if SP s.letter∧(r.bag.length:Int)<r.most then { r with bag:=r.bag++[⟨frm,s.to,s.letter⟩] } else r
def Tq (r:Rg) (frm:Int) (l:List Snd):Rg:=l.foldl (fun r s=>Zmc r frm s) r
def XL (r:Rg) (i:Int):Rg×Int :=
 if 0≤i∧i<r.bag.length then
  match r.bag[i.toNat]? with
  | none=>(r,7)
  | some m =>
   let r1:={ r with bag:=r.bag.eraseIdx i.toNat }
   match YC m.zto r.nodes with
   | none=>(r1,0)
   | some n=>if (WI n m.lt).2.2=0 then (Tq { r1 with nodes:=WM m.zto (WI n m.lt).1 r1.nodes } m.zto (WI n m.lt).2.1,0) else (r1,0)
 else (r,7)
def Va:Nat→Rg→Rg
 | 0,r=>r
 | n+1,r=>if (XL r 0).2=0 then Va n (XL r 0).1 else r
def RF (r:Rg) (a kind:Int):Rg×Int :=
 match YC a r.nodes with
 | none=>(r,7)
 | some n=>if (Vf n kind).2.2=0 then (Tq { r with nodes:=WM a (Vf n kind).1 r.nodes } a (Vf n kind).2.1,0) else (r,(Vf n kind).2.2)
def UV (a:Int) (r:Rg) (k:Int):Rg:=Va 10000 (RF r a k).1
def Im (r:Rg) (a:Int):Rg:=[1,3,2].foldl (UV a) r
def VI (r:Rg):Rg:=(XW (Va 10000 r)).foldl Im (Va 10000 r)
def Tg (r:Rg) (a:Int) (x:Nd×Int):Rg×Int:=if x.2=0 then ({ r with nodes:=WM a x.1 r.nodes },0) else (r,x.2)
def Td (pn:Int→Zr) (r:Rg) (a:Int):Rg×Int :=
 if ¬Yf a then (r,1) else if r.nodes≠[] then (r,13) else Tg r a (Uk (pn a) r.copies)
def Us (pn:Int→Zr) (r:Rg) (a b:Int):Rg×Int :=
 if ¬Yf a∨¬Yf b∨a=b then (r,1)
 else if (YC a r.nodes).isSome then (r,9)
 else if 16≤r.nodes.length then (r,12)
 else if (YC b r.nodes).isSome=false then (r,7)
 else Tg r a (Ur (pn a) r.copies b)
def Ts (r:Rg) (kind a:Int):Rg×Int :=
 match YC a r.nodes with
 | none=>(r,7)
 | some n=>if kind=3 then ({ Tq r a (Sq n).1 with nodes:=AY a r.nodes },0) else ({ r with nodes:=AY a r.nodes },0)
def Gy (r:Rg) (i:Int):Rg×Int:=if 0≤i∧i<r.bag.length then ({ r with bag:=r.bag.eraseIdx i.toNat },0) else (r,7)
def SR (r:Rg) (i:Int):Rg×Int :=
 if 0≤i∧i<r.bag.length then
  match r.bag[i.toNat]? with
  | none=>(r,7)
  | some m=>if (r.bag.length:Int)<r.most then ({ r with bag:=r.bag++[m] },0) else (r,12)
 else (r,7)
structure Trn where
  kind:Int
  a:Int
  b:Int
  deriving DecidableEq
def doR (pn:Int→Zr) (r:Rg) (t:Trn):Rg×Int :=
 if t.kind=1 then Td pn r t.a
 else if t.kind=2 then Us pn r t.a t.b
 else if t.kind=3∨t.kind=4 then Ts r t.kind t.a
 else if t.kind=5 then RF r t.a t.b
 else if t.kind=6 then XL r t.a
 else if t.kind=7 then Gy r t.a
 else if t.kind=8 then SR r t.a
 else if t.kind=9 then (VI r,0)
 else (r,13)
end Go.Esp
namespace Go.Esp
def Vl (m:Ml):YQ:=⟨m.frm,m.zto,body m.lt⟩
def Zqy (m:Ml):Prop:=SP m.lt∧SB m.lt.req
theorem DK {l:Lt} (h:SP l) (hr:SB l.req):(body l).size≤4096:=by
 unfold body;rw [VE];have:=(Zkk h hr).2.2.2.2.2.2;omega
theorem Zgf {m:Ml} (h:Zqy m) (most:Int) (l:List Ml):Ak (Vl m) most (l.map Vl)=if most≤l.length then 12 else 0:=by
 have h1:=DK h.1 h.2;unfold Ak;rw [A4 (show ¬(Vl m).body.size > 4096 from by show ¬(body m.lt).size > 4096;omega),A8]
def TY (most:Int) (b:List Ml) (m:Ml):List Ml:=if SP m.lt∧(b.length:Int)<most then b++[m] else b
theorem Zgd {m:Ml} (h:Zqy m) (most:Int) (l:List Ml):Zge (Vl m) most (l.map Vl)=(TY most l m).map Vl:=by
 unfold Zge TY;rw [Zgf h];by_cases h2:most≤(l.length:Int)
 ·grind
 ·rw [A4 h2,A6 rfl,A6 ⟨h.1,by omega⟩,C6];rfl
theorem Zkj {m:Ml} (h:¬SP m.lt) (most:Int) (l:List Ml):TY most l m=l:=A4 (fun h9=>h h9.1)
theorem Zki {m:Ml} {most:Int} {l:List Ml} (hl:∀ x∈l,Zqy x) (hr:SB m.lt.req):∀ x∈TY most l m,Zqy x:=by
 unfold TY;split
 ·intro x hx;rcases B8.1 hx with h|h
  ·exact hl x h
  ·rw [B0.1 h];exact ⟨by rename_i h9;exact h9.1,hr⟩
 ·exact hl
def GG (most:Int) (frm:Int) (b:List Ml) (l:List Snd):List Ml:=l.foldl (fun b s=>TY most b ⟨frm,s.to,s.letter⟩) b
theorem Aj (r:Rg) (frm:Int) (s:Snd):Zmc r frm s={ r with bag:=TY r.most r.bag ⟨frm,s.to,s.letter⟩ }:=by
 unfold Zmc TY;split <;> rfl
theorem NX (frm:Int):∀ (l:List Snd) (r:Rg),Tq r frm l={ r with bag:=GG r.most frm r.bag l }
 | [],r=>rfl
 | s::l,r=>by
  show Tq (Zmc r frm s) frm l=_;rw [NX frm l,Aj];rfl
end Go.Esp
namespace Go.Esp
variable {α:Type}
abbrev JM (α:Type):=List (Int×α)
def Wm:JM α→Int→Option α
 | [],_=>none
 | (j,v)::r,k=>if k=j then some v else Wm r k
def SE:JM α→Int→α→JM α
 | [],k,v=>[(k,v)]
 | (j,u)::r,k,v=>if k=j then (j,v)::r else (j,u)::SE r k v
def MC (x:Int):Value:=.int .i64 x
def enJ (en:α→Value) (p:Int×α):Value×Value:=(MC p.1,en p.2)
def jmO (en:α→Value) (o:Obj) (l:JM α):Prop:=∃ es clock,o=.map es clock∧kvs es=l.map (enJ en)∧(∀ x∈es.toList,x.born<clock)∧(es.toList.map (·.born)).Nodup
theorem jmO.nil (en:α→Value):jmO en (.map #[] 0) []:=⟨#[],0,rfl,rfl,fun x h=>(by cases h),J1⟩
structure IntK (P:Program) (k:TypeId):Prop where
  ku:P.underlying k=some (.int .i64)
section
variable {P:Program} {w:World} {k:TypeId} {en:α→Value}
theorem Zrb {en:α→Value} {es:Array MapEntry} {l:JM α} (h:kvs es=l.map (enJ en)):kvs es=(l.map fun p=>(p.1,en p.2)).map fun p=>(Value.int .i64 p.1,p.2):=by
 rw [h,I2];rfl
theorem AL {en:α→Value} {x:Int}:∀ {l:JM α},Xw (l.map fun p=>(p.1,en p.2)) x=(Wm l x).map en
 | []=>rfl
 | (j,v)::l=>by
  simp only [D3,Xw,Wm];split
  ·rfl
  ·exact AL
theorem QQ (hK:IntK P k) (x:Int) {es:Array MapEntry} {l:JM α} (h:kvs es=l.map (enJ en)) :
 (Instr.findKey k (MC x) es.toList).run P w=.ok (match Wm l x with|some v=>some (l.findIdx fun p=>x=p.1,en v)|none=>none) w:=by
 have h1:=SU (w:=w) (k:=x) hK.ku (Zrb h);unfold MC;rw [h1,AL,List.findIdx_map];cases Wm l x <;> rfl
theorem Qa (hK:IntK P k) (b:Bool) (x:Int):(Instr.checkKey b 10000 k (MC x)).run P w=.ok () w:=UC hK.ku
theorem Gf {x:Int}:∀ {l:JM α} {v:α},Wm l x=some v→l[l.findIdx fun p=>x=p.1]?=some (x,v)
 | [],_,h=>by simp [Wm] at h
 | (j,u)::l,v,h=>by
  unfold Wm at h;by_cases e:x=j
  ·subst e;simp at h;subst h;simp [G9]
  ·simp only [e,if_false] at h;simp only [G9,e,decide_false,cond_false];simpa using Gf h
theorem Db {x:Int} {l:JM α} {v:α} (h:Wm l x=some v):(x,v)∈l:=H8 (Gf h)
theorem Mg {x:Int} {v:α}:∀ {l:JM α} {es:List MapEntry},es.map (fun x=>(x.key,x.val))=l.map (enJ en)→(Wm l x).isSome=true →
 (es.modify (l.findIdx fun p=>x=p.1) fun y=>{ y with key:=MC x,val:=en v }).map (fun x=>(x.key,x.val))=(SE l x v).map (enJ en)
 | [],_,_,h=>by simp [Wm] at h
 | _::_,[],h,_=>by simp at h
 | (j,u)::l,y::es,h,hs=>by
  simp only [D3,J9,enJ,I8] at h;obtain ⟨⟨h1,h2⟩,h3⟩:=h;by_cases e:x=j
  ·subst e;simp [G9,SE,enJ];exact h3
  ·simp only [Wm,e,if_false] at hs;have ih:=Mg (v:=v) h3 hs;simp only [G9,e,decide_false,cond_false,SE,if_false,List.modify_succ_cons,D3,h1,h2,ih];rfl
theorem CR {es:List MapEntry} {j:Nat} {a b:Value}:(es.modify j fun y=>{ y with key:=a,val:=b }).map (·.born)=es.map (·.born):=by
 induction es generalizing j with
 | nil=>simp
 | cons y es ih =>
  cases j with
  | zero=>simp
  | succ j=>simp [ih]
theorem IU {x:Int} {v:α}:∀ {l:JM α},Wm l x=none→SE l x v=l++[(x,v)]
 | [],_=>rfl
 | (j,u)::l,h=>by
  unfold Wm at h;by_cases e:x=j
  ·simp [e] at h
  ·simp only [e,if_false] at h;simp [SE,e,IU h]
theorem HM {t el:TypeId} {b:Nat} {o:Obj} {l:JM α} {x:Int} {z:α} (hK:IntK P k) (ht:P.underlying t=some (.map k el)) (hz:XP P el=some (en z)) (hb:w.heap[b]?=some o) (ho:jmO en o l) :
 (Instr.lookup t (.map (some b)) (MC x) true).run P w=.ok (.tuple #[en ((Wm l x).getD z),.bool (Wm l x).isSome]) w:=by
 obtain ⟨es,c,rfl,hk,_,_⟩:=ho;have hzv:(zeroValue el).run P w=.ok (en z) w:=by
  unfold XP at hz;split at hz
  ·rename_i it hit;simp [zeroValue,typeInfo,hit,hz]
  ·cases hz
 unfold Instr.lookup;rw [ZY (YP ht)];rw [ZY (UG hb)];rw [ZY (show (pure es:Sem (Array MapEntry)).run P w=.ok es w from rfl),ZY (Qa hK _ x),ZY (QQ hK x hk)];cases hg:Wm l x with
 | some v=>rfl
 | none =>
  rw [ZY hzv];rfl
theorem Ib {t el:TypeId} {b:Nat} {o:Obj} {l:JM α} {x:Int} {z:α} (hK:IntK P k) (ht:P.underlying t=some (.map k el)) (hz:XP P el=some (en z)) (hb:w.heap[b]?=some o) (ho:jmO en o l) :
 (Instr.lookup t (.map (some b)) (MC x) false).run P w=.ok (en ((Wm l x).getD z)) w:=by
 obtain ⟨es,c,rfl,hk,_,_⟩:=ho;have hzv:(zeroValue el).run P w=.ok (en z) w:=by
  unfold XP at hz;split at hz
  ·rename_i it hit;simp [zeroValue,typeInfo,hit,hz]
  ·cases hz
 unfold Instr.lookup;rw [ZY (YP ht)];rw [ZY (UG hb)];rw [ZY (show (pure es:Sem (Array MapEntry)).run P w=.ok es w from rfl),ZY (Qa hK _ x),ZY (QQ hK x hk)];cases hg:Wm l x with
 | some v=>rfl
 | none =>
  rw [ZY hzv];rfl
theorem CB (x:Int):Instr.sameBits 10000 (MC x) (MC x)=true:=by
 simp [Instr.sameBits,MC]
theorem LW {t el:TypeId} {b:Nat} {o:Obj} {l:JM α} {x:Int} {v:α} (hK:IntK P k) (ht:P.underlying t=some (.map k el)) (hb:w.heap[b]?=some o) (ho:jmO en o l) :
 ∃ o',(Instr.mapUpdate t (.map (some b)) (MC x) (en v)).run P w=.ok () { w with heap:=w.heap.setIfInBounds b o' }∧jmO en o' (SE l x v):=by
 obtain ⟨es,c,rfl,hk,hlt,hnd⟩:=ho;unfold Instr.mapUpdate;rw [ZY (YP ht)];rw [ZY (UG hb)];rw [ZY (Qa hK _ x),ZY (QQ hK x hk)];cases hg:Wm l x with
 | some v0 =>
  have hq:=Gf hg;obtain ⟨y,hy,hyk⟩:∃ y,es[l.findIdx fun p=>x=p.1]?=some y∧y.key=MC x:=by
   have h3:(kvs es)[l.findIdx fun p=>x=p.1]?=some (MC x,en v0):=by rw [hk];simp [hq,enJ]
   simp only [kvs,E6,Option.map_eq_some_iff] at h3;obtain ⟨y,hy,hyy⟩:=h3;simp only [I8] at hyy;exact ⟨y,by simpa using hy,hyy.1⟩
  have hst:(Instr.keyThatStays (((es[l.findIdx fun p=>x=p.1]?).map (·.key)).getD (MC x)) (MC x)).run P w=.ok (MC x) w:=by
   rw [hy];simp only [E9,F7,hyk];unfold Instr.keyThatStays;simp only [CB];rfl
  rw [ZY hst];have hm:(es.modify (l.findIdx fun p=>x=p.1) fun e=>{ e with key:=MC x,val:=en v }).toList=es.toList.modify (l.findIdx fun p=>x=p.1) (fun e=>{ e with key:=MC x,val:=en v }):=by simp
  have hbn:=CR (es:=es.toList) (j:=l.findIdx fun p=>x=p.1) (a:=MC x) (b:=en v);refine ⟨_,TR hb _,_,_,rfl,?_,?_,?_⟩
  ·unfold kvs;rw [hm];exact Mg hk (by simp [hg])
  ·intro y hy;rw [hm] at hy;have h1:y.born∈es.toList.map (·.born):=by rw [← hbn];exact G8 hy
   obtain ⟨y',hy',he⟩:=C0.1 h1;rw [← he];exact hlt y' hy'
  ·rw [hm,hbn];exact hnd
 | none =>
  refine ⟨_,TR hb _,_,_,rfl,?_,?_,?_⟩
  ·rw [IU hg,AB,hk];simp [enJ]
  ·intro y hy;simp only [Array.toList_push,B8,B0] at hy;rcases hy with hy|rfl
   ·have:=hlt y hy;omega
   ·exact Nat.lt_succ_self _
  ·simp only [Array.toList_push,C6,D3,List.map_nil,H3];refine ⟨hnd,by simp,?_⟩;intro a ha b hb e;simp only [B0] at hb;obtain ⟨y,hy,rfl⟩:=C0.1 ha;have:=hlt y hy;omega
def PL:JM α→Int→JM α
 | [],_=>[]
 | (j,u)::r,k=>if k=j then r else (j,u)::PL r k
theorem Gj {en:α→Value} {x:Int}:∀ {l:JM α},Pb (l.map fun p=>(p.1,en p.2)) x=(PL l x).map fun p=>(p.1,en p.2)
 | []=>rfl
 | (j,v)::l=>by
  simp only [D3,Pb,PL];split
  ·rfl
  ·rw [D3,Gj]
theorem HN {t el ty:TypeId} {b:Nat} {o:Obj} {l:JM α} {z:Int} {ats:Array TypeId} (hat:ats[0]?=some t) (hK:IntK P k) (ht:P.underlying t=some (.map k el)) (hb:w.heap[b]?=some o) (ho:jmO en o l) :
 ∃ o',(Builtin.delete_ ats ty #[.map (some b),.int .i64 z]).run P w=.ok (.tuple #[]) { w with heap:=w.heap.setIfInBounds b o' }∧jmO en o' (PL l z):=by
 have h1:=ht;have h2:=hK.ku;obtain ⟨es,c,rfl,hk,hlt,hnd⟩:=ho;have hk2:=Zrb hk;unfold Builtin.delete_;have e1:(#[Value.map (some b),Value.int .i64 z])[0]?=some (.map (some b)):=rfl;have e2:(#[Value.map (some b),Value.int .i64 z])[1]?=some (.int .i64 z):=rfl;simp only [hat,e1,e2];rw [ZY (YP h1)];rw [ZY (UG hb)];rw [ZY (UC h2),ZY (SU h2 hk2)];cases hg:Xw (l.map fun p=>(p.1,en p.2)) z with
 | some u =>
  refine ⟨.map (es.eraseIdxIfInBounds ((l.map fun p=>(p.1,en p.2)).findIdx fun p=>z=p.1)) c,?_,_,_,rfl,?_,?_,?_⟩
  ·simp only [];rw [ZY (TR hb _)];rfl
  ·have:=EX (k:=z) (es:=es.toList) hk2 (by rw [hg];rfl);have h3:(es.eraseIdxIfInBounds ((l.map fun p=>(p.1,en p.2)).findIdx fun p=>z=p.1)).toList=es.toList.eraseIdx ((l.map fun p=>(p.1,en p.2)).findIdx fun p=>z=p.1):=by simp
   simp only [kvs,h3];rw [this,Gj,I2];rfl
  ·intro y hy;simp only [Array.toList_eraseIdxIfInBounds] at hy;exact hlt y (List.mem_of_mem_eraseIdx hy)
  ·simp only [Array.toList_eraseIdxIfInBounds];exact hnd.sublist ((List.eraseIdx_sublist _ _).map _)
 | none =>
  refine ⟨.map es c,?_,_,_,rfl,?_,hlt,hnd⟩
  ·simp only [];rw [ZY (TR hb _)];rfl
  ·rw [hk2];have:=La hg;rw [Gj] at this;rw [← this,I2];rfl
end
inductive Al2 {β:Type} (R:Nat→β→Prop):List Nat→List β→Prop
  | nil:Al2 R [] []
  | cons {j:Nat} {p:β} {js:List Nat} {sv:List β}:R j p→Al2 R js sv→Al2 R (j::js) (p::sv)
def itJ (en:α→Value) (b:Nat) (oi om:Obj) (l sv:JM α):Prop :=
 ∃ (es:Array MapEntry) (clock:Nat) (sn:Array Nat) (js:List Nat),om=.map es clock∧kvs es=l.map (enJ en)∧(∀ x∈es.toList,x.born<clock)∧(es.toList.map (·.born)).Nodup ∧
  oi=.mapIter (some b) clock sn clock∧js.Nodup∧sn.toList=js.filterMap (fun j=>es[j]?.map (·.born))∧Al2 (fun j p=>l[j]?=some p) js sv
theorem itJ.start {en:α→Value} {b:Nat} {om:Obj} {l:JM α} (h:jmO en om l):∃ es c,om=.map es c∧itJ en b (.mapIter (some b) c #[] c) om l []:=by
 obtain ⟨es,c,rfl,h1,h2,h3⟩:=h;exact ⟨es,c,rfl,es,c,#[],[],rfl,h1,h2,h3,rfl,J1,rfl,.nil⟩
theorem LK {l:JM α} {p0:Int×α}:∀ {js:List Nat} {sv:JM α},Al2 (fun j p=>l[j]?=some p) js sv→sv=js.map fun j=>l[j]?.getD p0
 | [],_,h=>by cases h;rfl
 | j::js,_,h=>by
  cases h with
  | cons h1 h2=>simp [h1,← LK h2]
theorem Pf {l:JM α}:∀ {js:List Nat} {sv:JM α},Al2 (fun j p=>l[j]?=some p) js sv→∀ j∈js,j<l.length
 | [],_,h=>fun j hj=>by cases hj
 | i::js,_,h=>fun j hj=>by
  cases h with
  | cons h1 h2 =>
   rcases B7.1 hj with rfl|hj
   ·exact (C4.1 h1).1
   ·exact Pf h2 j hj
theorem Jz {R:Nat→Int×α→Prop}:∀ {js:List Nat} {sv:JM α} {j:Nat} {p:Int×α},Al2 R js sv→R j p→Al2 R (js++[j]) (sv++[p])
 | [],_,_,_,h,h2=>by cases h;exact .cons h2 .nil
 | _::_,_,_,_,h,h2=>by
  cases h with
  | cons g1 g2=>exact .cons g1 (Jz g2 h2)
theorem Mu {R:Nat→Int×α→Prop}:∀ {js:List Nat} {sv:JM α} {p:Int×α},Al2 R js (sv++[p])→∃ js' j,js=js'++[j]∧Al2 R js' sv∧R j p
 | _,[],_,h=>by
  cases h with
  | cons g1 g2=>cases g2;exact ⟨[],_,rfl,.nil,g1⟩
 | _,s::sv,p,h=>by
  cases h with
  | cons g1 g2 =>
   obtain ⟨js',j,rfl,h1,h2⟩:=Mu g2;exact ⟨_::js',j,rfl,.cons g1 h1,h2⟩
theorem Zpk {es:List MapEntry} (hn:(es.map (·.born)).Nodup) {i j:Nat} (hi:i<es.length) (hj:j<es.length) (h:es[i].born=es[j].born):i=j:=by
 have h1:(es.map (·.born))[i]'zP=(es.map (·.born))[j]'zM:=by simpa using h
 rcases Nat.lt_trichotomy i j with h9|h9|h9
 ·exact absurd h1 ((E1.1 hn) i j zP zM h9)
 ·exact h9
 ·exact absurd h1.symm ((E1.1 hn) j i zM zP h9)
theorem Ba {en:α→Value} {es:Array MapEntry} {l:JM α} (h:kvs es=l.map (enJ en)):es.toList.length=l.length:=by have:=A9 List.length h;simpa [kvs] using this
theorem Ad {es:Array MapEntry} {sn:Array Nat} {js:List Nat} (hn:(es.toList.map (·.born)).Nodup) (hs:sn.toList=js.filterMap (fun j=>es[j]?.map (·.born))) (hl:∀ j∈js,j<es.toList.length) {j:Nat} (hj:j<es.toList.length) :
 es.toList[j].born∈sn.toList↔j∈js:=by
 rw [hs,List.mem_filterMap];constructor
 ·rintro ⟨i,hi,he⟩;have hil:=hl i hi;have h1:es[i]?=some es.toList[i]:=by simp
  rw [h1] at he;simp only [E9,G1] at he;rw [← Zpk hn hil hj he];exact hi
 ·grind
theorem Zps {es:Array MapEntry} {sn:Array Nat} (h:(leftOf es sn).size=0) {x:MapEntry} (hx:x∈es.toList):x.born∈sn.toList:=by
 apply C2;intro hc;have h1:x∈leftOf es sn:=by
  unfold leftOf;rw [Array.mem_filter];exact ⟨by simpa using hx,by simpa using hc⟩
 grind
theorem itJ.done {en:α→Value} {b:Nat} {oi om:Obj} {l sv:JM α} {es:Array MapEntry} {clock:Nat} {sn:Array Nat} (h:itJ en b oi om l sv) (h1:om=.map es clock) (h2:oi=.mapIter (some b) clock sn clock) (h0:(leftOf es sn).size=0):sv.Perm l:=by
 obtain ⟨es',c',sn',js,e1,hk,hlt,hnd,e2,hjn,hs,hf⟩:=h;subst e1;obtain ⟨rfl,rfl⟩:=Obj.map.inj h1;subst e2;have e3:sn'=sn:=(Obj.mapIter.inj h2).2.2.1;subst e3;have hlen:=Ba hk;have hjl:∀ j∈js,j<es'.toList.length:=fun j hj=>by rw [hlen];exact Pf hf j hj
 have hp:js.Perm (List.range l.length):=by
  refine (List.perm_ext_iff_of_nodup hjn List.nodup_range).2 fun j=>?_;rw [G7];constructor
  ·intro hj;exact Pf hf j hj
  ·intro hj;have hj':j<es'.toList.length:=by omega
   exact (Ad hnd hs hjl hj').1 (Zps h0 (C1 hj'))
 cases l with
 | nil =>
  have:js=[]:=by simpa using hp
  subst this;cases hf;exact .refl _
 | cons p0 l' =>
  rw [LK (p0:=p0) hf];have h9:=hp.map fun j=>((p0::l')[j]?).getD p0;refine h9.trans (List.Perm.of_eq ?_);apply J4 jQ;intro i g1 g2;simp only [I7,List.getElem_range,A7 g2,F7]
theorem itJ.step {en:α→Value} {b:Nat} {oi om:Obj} {l sv:JM α} {es:Array MapEntry} {clock:Nat} {sn:Array Nat} {x:MapEntry} (h:itJ en b oi om l sv) (h1:om=.map es clock) (h2:oi=.mapIter (some b) clock sn clock) (hx:x∈(leftOf es sn).toList) :
 ∃ p,p∈l∧x.key=MC p.1∧x.val=en p.2∧itJ en b (.mapIter (some b) clock (sn.push x.born) clock) om l (sv++[p]):=by
 obtain ⟨es',c',sn',js,e1,hk,hlt,hnd,e2,hjn,hs,hf⟩:=h;subst e1;obtain ⟨rfl,rfl⟩:=Obj.map.inj h1;subst e2;have e3:sn'=sn:=(Obj.mapIter.inj h2).2.2.1;subst e3;obtain ⟨hxe,hxs⟩:=mem_left hx;obtain ⟨j,hj,rfl⟩:=E2 hxe;have hlen:=Ba hk;have hjl:j<l.length:=by omega
 have hjs:j∉js:=fun hc=>by
  have:=(Ad hnd hs (fun i hi=>by rw [hlen];exact Pf hf i hi) hj).2 hc;have h3:es'.toList[j].born∈sn':=by simpa using this
  have h4:sn'.contains es'.toList[j].born=true:=by simpa using h3
  rw [h4] at hxs;cases hxs
 have hkv:(es'.toList[j].key,es'.toList[j].val)=enJ en l[j]:=by
  have h5:(kvs es')[j]?=(l.map (enJ en))[j]?:=by rw [hk]
  simp only [kvs,E6,A7 hj,A7 hjl,E9,G1] at h5;exact h5
 simp only [enJ,I8] at hkv;refine ⟨l[j],C1 hjl,hkv.1,hkv.2,es',_,_,js++[j],rfl,hk,hlt,hnd,rfl,?_,?_,Jz hf (A7 hjl)⟩
 ·grind
 ·grind
theorem itJ.len {en:α→Value} {b:Nat} {oi om:Obj} {l sv:JM α} (h:itJ en b oi om l sv):sv.length≤l.length:=by
 obtain ⟨es,c,sn,js,e1,hk,hlt,hnd,e2,hjn,hs,hf⟩:=h;have h1:js.length=sv.length:=by
  clear hs hjn
  induction hf with
  | nil=>rfl
  | cons _ _ ih=>simp [ih]
 have h2:js.length≤(List.range l.length).length:=by
  have hp:js.Perm ((List.range l.length).filter fun j=>decide (j∈js)):=(List.perm_ext_iff_of_nodup hjn (List.nodup_range.sublist List.filter_sublist)).2 fun j=>by
   rw [F6,G7];exact ⟨fun hj=>⟨Pf hf j hj,by simpa using hj⟩,fun hj=>by simpa using hj.2⟩
  rw [hp.length_eq];exact List.length_filter_le _ _
 grind
theorem itJ.last {en:α→Value} {b:Nat} {oi om:Obj} {l sv:JM α} {p:Int×α} (h:itJ en b oi om l (sv++[p])):∃ (es:Array MapEntry) (clock:Nat) (sn:Array Nat) (x:MapEntry),om=.map es clock∧oi=.mapIter (some b) clock (sn.push x.born) clock∧x∈es.toList∧(es.toList.map (·.born)).Nodup∧x.key=MC p.1∧x.val=en p.2:=by
 obtain ⟨es,c,sn,js,rfl,hk,hlt,hnd,rfl,hjn,hs,hf⟩:=h;obtain ⟨js',j,rfl,hf',hj⟩:=Mu hf;have hlen:=Ba hk;obtain ⟨hjl,hjp⟩:=C4.1 hj;have hje:j<es.toList.length:=by omega
 have h1:es[j]?=some es.toList[j]:=by simp
 rw [List.filterMap_append] at hs;simp only [List.filterMap_cons,h1] at hs;have hkv:(es.toList[j].key,es.toList[j].val)=enJ en l[j]:=by
  have h5:(kvs es)[j]?=(l.map (enJ en))[j]?:=by rw [hk]
  simp only [kvs,E6,A7 hje,A7 hjl,E9,G1] at h5;exact h5
 simp only [enJ,I8,hjp] at hkv;refine ⟨es,c,(js'.filterMap (fun j=>es[j]?.map (·.born))).toArray,es.toList[j],rfl,?_,C1 hje,hnd,hkv.1,hkv.2⟩;congr 1;apply Array.toList_inj.1;rw [hs];simp
section
variable {P:Program} {n:Sh} {ops:Array Oper} {Q:Exit→Act→World→Prop} {rest:List Nat} {M M':Mem} {H H' H0:Hp} {e:Env} {J S:World→Prop} {A:As} {i:Nat}
  {dst:Option Tmp} {d:Tmp} {op:Op} {ty:TypeId} {pos:String} {af:Array Edge} {gd:Option (Nat×Bool)} {k:TypeId} {en:α→Value}
theorem RS {t el:TypeId} {x y:Operand} {b:Nat} {p:Int} {z:α} {o:Obj} {l:JM α} {MJ:Mem} {HJ:Hp} (hi:ops[i]?=some ⟨some d,.lookup t x y true,ty,pos,af,gd⟩) (hg:want ops e gd=some true)
 (hx:ev e x=some (.map (some b))) (hy:ev e y=some (MC p)) (hK:IntK P k) (ht:P.underlying t=some (.map k el)) (hz:XP P el=some (en z)) (hb:(b,o)∈HJ) (ho:jmO en o l) (hd:Nat.ble (d+1) n.sz=true)
 (hk:XD P n ops Q rest (St MJ HJ) A ((d,.tuple #[en ((Wm l p).getD z),.bool (Wm l p).isSome])::e)):XD P n ops Q (i::rest) (St MJ HJ) A e :=
 UB hi rfl hg (fun a' w ha hw=>Xp (by
  simp only [execOp,ha.ev hx,ha.ev hy];exact Wz (HM hK ht hz (hw.own _ _ hb) ho))) (fun a ha=>ha.put hd _) hk
theorem Zkv {t el:TypeId} {x y:Operand} {b:Nat} {p:Int} {z:α} {o:Obj} {l:JM α} {MJ:Mem} {HJ:Hp} (hi:ops[i]?=some ⟨some d,.lookup t x y false,ty,pos,af,gd⟩) (hg:want ops e gd=some true)
 (hx:ev e x=some (.map (some b))) (hy:ev e y=some (MC p)) (hK:IntK P k) (ht:P.underlying t=some (.map k el)) (hz:XP P el=some (en z)) (hb:(b,o)∈HJ) (ho:jmO en o l) (hd:Nat.ble (d+1) n.sz=true)
 (hk:XD P n ops Q rest (St MJ HJ) A ((d,en ((Wm l p).getD z))::e)):XD P n ops Q (i::rest) (St MJ HJ) A e :=
 UB hi rfl hg (fun a' w ha hw=>Xp (by
  simp only [execOp,ha.ev hx,ha.ev hy];exact Wz (Ib hK ht hz (hw.own _ _ hb) ho))) (fun a ha=>ha.put hd _) hk
theorem Hz {t el:TypeId} {x:Operand} {b:Nat} {o:Obj} {l:JM α} {MJ:Mem} {HJ:Hp} {ats:Array TypeId} (hi:ops[i]?=some ⟨some d,.call ⟨.builtin .len,#[x],ats⟩,ty,pos,af,gd⟩) (hg:want ops e gd=some true)
 (hx:ev e x=some (.map (some b))) (hat:ats[0]?=some t) (ht:P.underlying t=some (.map k el)) (hb:(b,o)∈HJ) (ho:jmO en o l) (hd:Nat.ble (d+1) n.sz=true) (hk:XD P n ops Q rest (St MJ HJ) A ((d,.int .i64 (l.length:Int))::e)):XD P n ops Q (i::rest) (St MJ HJ) A e :=
 UB hi rfl hg (fun a' w ha hw=>Xp (by
  obtain ⟨es,c,rfl,hkv,_,_⟩:=ho;have hl:es.size=l.length:=by have:=A9 List.length hkv;simpa [kvs] using this
  simp only [execOp,resolve];simp [invoke,builtin,Builtin.len_,ha.ev hx,hat,YP ht,UG (hw.own _ _ hb),goInt,hl])) (fun a ha=>ha.put hd _) hk
theorem Ov {t el:TypeId} {x y z:Operand} {b:Nat} {p:Int} {v:α} {o:Obj} {l:JM α} (hi:ops[i]?=some ⟨none,.mapUpdate t x y z,ty,pos,af,gd⟩) (hg:want ops e gd=some true)
 (hx:ev e x=some (.map (some b))) (hy:ev e y=some (MC p)) (hz:ev e z=some (en v)) (hK:IntK P k) (ht:P.underlying t=some (.map k el)) (ho:jmO en o l) (hb:(b,o)∈H)
 (hk:∀ o',jmO en o' (SE l p v)→∃ H2,Upd b o o' H H2∧XD P n ops Q rest (St M H2) ⟨M,H2⟩ e) (hnw:n.wrs.contains i=false:=by rfl):XD P n ops Q (i::rest) J ⟨M,H⟩ e:=by
 refine SK hi rfl hg (fun a w ha hw=>?_) hnw;have hb:=hw.own b o hb;obtain ⟨o',hr,ho'⟩:=LW (P:=P) (x:=p) (v:=v) hK ht hb ho;unfold Oper.does;have:(execOp a.eval ⟨none,.mapUpdate t x y z,ty,pos,af,gd⟩).run P w=.ok .skip { w with heap:=w.heap.setIfInBounds b o' }:=by
  simp only [execOp,ha.ev hx,ha.ev hy,ha.ev hz];rw [ZY hr];rfl
 rw [this];obtain ⟨H2,hH,hk⟩:=hk o' ho';exact ⟨⟨M,H2⟩,e,St.upd hw hH (RQ hb) (fun c hc q hq=>by rw [SS hc];exact hq) (SameIO.refl _),ha,hk⟩
theorem Zpu {t el:TypeId} {x:Operand} {b:Nat} {o:Obj} {l:JM α} (hi:ops[i]?=some ⟨some d,.range t x,ty,pos,af,gd⟩) (hg:want ops e gd=some true)
 (hx:ev e x=some (.map (some b))) (ht:P.underlying t=some (.map k el)) (hb:(b,o)∈H) (ho:jmO en o l) (hd:Nat.ble (d+1) n.sz=true)
 (hk:∀ r oi,itJ en b oi o l []→XD P n ops Q rest (St M ((r,oi)::H)) ⟨M,(r,oi)::H⟩ ((d,.pointer (some ⟨r,0,Option.none⟩))::e)) (hnw:n.wrs.contains i=false:=by rfl):XD P n ops Q (i::rest) J ⟨M,H⟩ e:=by
 refine SK hi rfl hg (fun a w ha hw=>?_) hnw;have hb':=hw.own b o hb;obtain ⟨es,c,rfl,hit⟩:=itJ.start (b:=b) ho;unfold Oper.does;have:(execOp a.eval ⟨some d,.range t x,ty,pos,af,gd⟩).run P w=.ok (.value (.pointer (some ⟨w.heap.size,0,Option.none⟩))) (w.alloc (.mapIter (some b) c #[] c)):=by
  simp only [execOp,ha.ev hx];refine Wz ?_;unfold Instr.range;rw [ZY (YP ht)];rw [ZY (UG hb')];rfl
 rw [this];exact ⟨⟨M,(w.heap.size,_)::H⟩,_,St.alloc hw _,ha.put hd _,hk _ _ hit⟩
theorem Zuq {x:Operand} {b r:Nat} {oi om:Obj} {l sv:JM α} (hi:ops[i]?=some ⟨some d,.next x false,ty,pos,af,gd⟩) (hg:want ops e gd=some true)
 (hx:ev e x=some (.pointer (some ⟨r,0,Option.none⟩))) (hr:(r,oi)∈H) (hb:(b,om)∈H) (hit:itJ en b oi om l sv) (hd:Nat.ble (d+1) n.sz=true)
 (hk1:∀ p oi',p∈l→itJ en b oi' om l (sv++[p])→∃ H2,Upd r oi oi' H H2∧XD P n ops Q rest (St M H2) ⟨M,H2⟩ ((d,.tuple #[.bool true,MC p.1,en p.2])::e))
 (hk0:sv.Perm l→XD P n ops Q rest (St M H) ⟨M,H⟩ ((d,.tuple #[.bool false])::e)) (hnw:n.wrs.contains i=false:=by rfl):XD P n ops Q (i::rest) J ⟨M,H⟩ e:=by
 refine SK hi rfl hg (fun a w ha hw=>?_) hnw;have hr':=hw.own r oi hr;have hb':=hw.own b om hb;have hit':=hit;obtain ⟨es,c,sn,js,e1,hkv,hlt,hnd,e2,hjn,hs,hf⟩:=hit';rw [e2] at hr';rw [e1] at hb';unfold Oper.does;rcases run_next_at (P:=P) w ty r b c c sn es c hr' hb' hlt (B9 _) with ⟨h0,hrun⟩|⟨y,hy,w1,hw1,hrun⟩
 ·have:(execOp a.eval ⟨some d,.next x false,ty,pos,af,gd⟩).run P w=.ok (.value (.tuple #[.bool false])) w:=by
   simp only [execOp,ha.ev hx];exact Wz hrun
  rw [this];exact ⟨⟨M,H⟩,_,hw,ha.put hd _,hk0 (hit.done e1 e2 h0)⟩
 ·obtain ⟨p,hp,g1,g2,g3⟩:=hit.step e1 e2 hy;rw [g1,g2] at hrun;have:(execOp a.eval ⟨some d,.next x false,ty,pos,af,gd⟩).run P w=.ok (.value (.tuple #[.bool true,MC p.1,en p.2])) { w1 with heap:=w1.heap.setIfInBounds r (.mapIter (some b) c (sn.push y.born) c) }:=by
   simp only [execOp,ha.ev hx];exact Wz hrun
  rw [this];obtain ⟨H2,hH,hk⟩:=hk1 p _ hp g3;have hst:St M H w1:=by
   rcases hw1 with rfl|rfl
   ·exact hw
   ·exact St.drawn _ hw
  have hr1:=hst.own r oi hr;exact ⟨⟨M,H2⟩,_,St.upd hst hH (RQ hr1) (fun c hc q hq=>by rw [SS hc];exact hq) (SameIO.refl _),ha.put hd _,hk⟩
theorem Zpw {x:Operand} {b r:Nat} {oi om:Obj} {l sv:JM α} {p:Int×α} {MJ:Mem} {HJ:Hp} (hi:ops[i]?=some ⟨some d,.entry x,ty,pos,af,gd⟩) (hg:want ops e gd=some true)
 (hx:ev e x=some (.pointer (some ⟨r,0,Option.none⟩))) (hr:(r,oi)∈HJ) (hb:(b,om)∈HJ) (hit:itJ en b oi om l (sv++[p])) (hd:Nat.ble (d+1) n.sz=true)
 (hk:XD P n ops Q rest (St MJ HJ) A ((d,.tuple #[MC p.1,en p.2])::e)):XD P n ops Q (i::rest) (St MJ HJ) A e :=
 UB hi rfl hg (fun a' w ha hw=>Xp (by
  obtain ⟨es,c,sn,y,rfl,rfl,g1,g2,g3,g4⟩:=hit.last;simp only [execOp,ha.ev hx];have:=run_entry_at (P:=P) w r b c sn es c y (hw.own _ _ hr) (hw.own _ _ hb) g1 g2;rw [g3,g4] at this;exact Wz this)) (fun a ha=>ha.put hd _) hk
theorem DX {t el:TypeId} {x y:Operand} {b:Nat} {z:Int} {o:Obj} {l:JM α} {ats:Array TypeId} (hi:ops[i]?=some ⟨none,.call ⟨.builtin .delete,#[x,y],ats⟩,ty,pos,af,gd⟩) (hg:want ops e gd=some true)
 (hx:ev e x=some (.map (some b))) (hy:ev e y=some (.int .i64 z)) (hat:ats[0]?=some t) (hK:IntK P k) (ht:P.underlying t=some (.map k el)) (ho:jmO en o l) (hb:(b,o)∈H)
 (hk:∀ o',jmO en o' (PL l z)→∃ H2,Upd b o o' H H2∧XD P n ops Q rest (St M H2) ⟨M,H2⟩ e) (hnw:n.wrs.contains i=false:=by rfl):XD P n ops Q (i::rest) J ⟨M,H⟩ e:=by
 refine SK hi rfl hg (fun a w ha hw=>?_) hnw;have hb:=hw.own b o hb;obtain ⟨o',hr,ho'⟩:=HN (P:=P) (ty:=ty) (z:=z) hat hK ht hb ho;unfold Oper.does;have:(execOp a.eval ⟨none,.call ⟨.builtin .delete,#[x,y],ats⟩,ty,pos,af,gd⟩).run P w=.ok (.value (.tuple #[])) { w with heap:=w.heap.setIfInBounds b o' }:=by
  simp only [execOp,resolve];have e1:#[x,y].map a.eval=#[.map (some b),.int .i64 z]:=by simp [ha.ev hx,ha.ev hy]
  rw [e1,Sem.run_bind];show (Result.ok _ w).andThen _=_;exact Wz hr
 rw [this];obtain ⟨H2,hH,hk⟩:=hk o' ho';exact ⟨⟨M,H2⟩,e,St.upd hw hH (RQ hb) (fun c hc q hq=>by rw [SS hc];exact hq) (SameIO.refl _),ha,hk⟩
end
end Go.Esp
namespace Go.Esp
section
variable {α:Type}
theorem Ut (a b:Int) (x:α):∀ l:List (Int×α),(l.map (·.1)).Pairwise (·<·)→YC b (WM a x l)=if b=a then some x else YC b l
 | [],_=>by
  by_cases e:b=a
  ·subst e;simp [WM,YC]
  ·simp [WM,YC,Ne.symm e,e]
 | (c,y)::l,h=>by
  have h2:=D6.1 h;have hn:∀ d,d<c→YC d l=none:=fun d hd=>getA_low (fun q hq=>by have:=h2.1 q.1 (G8 hq);simp only at this;omega);unfold WM;by_cases h1:a<c
  ·rw [A6 h1];by_cases e:b=a
   ·subst e;simp [YC]
   ·simp [YC,Ne.symm e,e]
  ·rw [A4 h1];by_cases e1:c=a
   ·rw [A6 e1];subst e1;by_cases e:b=c
    ·subst e;simp [YC]
    ·simp [YC,Ne.symm e,e]
   ·rw [A4 e1];unfold YC;by_cases e:c=b
    ·rw [A6 e,A4 jD,A6 e]
    ·rw [A4 e,A4 e];exact Ut a b x l h2.2
 where
  getA_low:∀ {l:List (Int×α)} {d:Int},(∀ q∈l,d<q.1)→YC d l=none
    | [],_,_=>rfl
    | (c,y)::l,d,h=>by
      unfold YC
      rw [A4 (by have:=h (c,y) (B1);simp only at this;omega)]
      exact getA_low fun q hq=>h q (B2 _ hq)
theorem TW {a:Int} {x:α}:∀ {l:List (Int×α)},YC a l=some x→(a,x)∈l
 | [],h=>by cases h
 | (c,y)::l,h=>by
  unfold YC at h;split at h
  ·rename_i e;subst e;cases h;exact B1
  ·exact B2 _ (TW h)
theorem Wg {a:Int}:∀ {l:List (Int×α)},YC a l=none↔a∉l.map (·.1)
 | []=>by simp [YC]
 | (c,y)::l=>by
  unfold YC;split
  ·rename_i e;subst e;simp
  ·rename_i e;rw [Wg (l:=l),D3,B7,not_or];exact ⟨fun h=>⟨fun h2=>e h2.symm,h⟩,fun h=>h.2⟩
theorem Ziu {a:Int} {x:α}:∀ {l:List (Int×α)},(l.map (·.1)).Nodup→(a,x)∈l→YC a l=some x
 | [],_,h=>by cases h
 | (c,y)::l,hn,h=>by
  have h2:=D9.1 hn;unfold YC;rcases B7.1 h with e|h
  ·cases e;rw [A6 rfl]
  ·rw [A4 (fun e=>h2.1 (C0.2 ⟨_,h,e.symm⟩))];exact Ziu h2.2 h
theorem EA {a b:Int} {x:α}:∀ {l:List (Int×α)},b∈(WM a x l).map (·.1)↔b=a∨b∈l.map (·.1)
 | []=>by simp [WM]
 | (c,y)::l=>by
  unfold WM;split
  ·simp
  ·split
   ·rename_i e;subst e;simp
   ·have:=EA (a:=a) (b:=b) (x:=x) (l:=l);rw [D3,B7,this,D3,B7];constructor
    ·rintro (h|h|h)
     ·exact .inr (.inl h)
     ·exact .inl h
     ·exact .inr (.inr h)
    ·rintro (h|h|h)
     ·exact .inr (.inl h)
     ·exact .inl h
     ·exact .inr (.inr h)
theorem NZ {a:Int} {x:α}:∀ {l:List (Int×α)},(l.map (·.1)).Pairwise (·<·)→((WM a x l).map (·.1)).Pairwise (·<·)
 | [],_=>by simp [WM]
 | (c,y)::l,h=>by
  have h2:=D6.1 h;unfold WM;split
  ·rename_i e;refine D6.2 ⟨fun q hq=>?_,h⟩;rcases B7.1 hq with rfl|hq
   ·exact e
   ·have:=h2.1 q hq;simp only at this e ⊢;omega
  ·rename_i e;split
   ·rename_i e1;subst e1;exact h
   ·rename_i e1;refine D6.2 ⟨fun q hq=>?_,NZ h2.2⟩;rcases EA.1 hq with rfl|hq
    ·simp only at e e1 ⊢;omega
    ·exact h2.1 q hq
theorem HR {a:Int} {x:α}:∀ {l:List (Int×α)},(l.map (·.1)).Pairwise (·<·)→(WM a x l).length=if (YC a l).isSome then l.length else l.length+1
 | [],_=>rfl
 | (c,y)::l,h=>by
  have h2:=D6.1 h;unfold WM YC;by_cases e:a<c
  ·rw [A6 e,A4 (show ¬c=a by omega),Ut.getA_low (fun q hq=>by have:=h2.1 q.1 (G8 hq);simp only at this;omega)];simp
  ·rw [A4 e];by_cases e1:c=a
   ·rw [A6 e1,A6 e1];simp
   ·rw [A4 e1,A4 e1,C8,HR h2.2];split <;> simp
theorem DD {a:Int} {l:List (Int×α)} (h:(l.map (·.1)).Pairwise (·<·)):((AY a l).map (·.1)).Pairwise (·<·):=h.sublist (List.filter_sublist.map _)
theorem Mt (a b:Int):∀ l:List (Int×α),YC b (AY a l)=if b=a then none else YC b l
 | []=>by simp [AY,YC]
 | (c,y)::l=>by
  have ih:=Mt a b l;unfold AY at *;rw [List.filter_cons];by_cases e:c=a
  ·rw [A4 (by simpa using e),ih];split
   ·rfl
   ·unfold YC;rw [A4 jD];cases l <;> rfl
  ·rw [A6 (by simpa using e)];unfold YC;by_cases e1:c=b
   ·rw [A6 e1,A4 jD,A6 e1]
   ·rw [A4 e1,A4 e1];have h9:YC b (l.filter fun p=>decide (p.1≠a))=if b=a then none else YC b l:=ih
    cases hl:(l.filter fun p=>decide (p.1≠a)) with
    | nil=>rw [hl] at h9;exact h9
    | cons q r=>rw [hl] at h9;exact h9
end
section
variable {α:Type}
theorem Zhz (l:JM α) (k k':Int) (v:α):Wm (SE l k v) k'=if k'=k then some v else Wm l k':=by
 induction l with
 | nil=>simp only [SE,Wm]
 | cons p l ih =>
  obtain ⟨j,u⟩:=p;unfold SE;by_cases e:k=j
  ·subst e;rw [A6 rfl];unfold Wm;split <;> rfl
  ·rw [A4 e];unfold Wm;by_cases h:k'=j
   ·rw [A6 h,A4 jD,A6 h]
   ·rw [A4 h,A4 h];exact ih
theorem Zck {l:JM α} {k:Int} {v:α}:(SE l k v).map (·.1)=if (Wm l k).isSome then l.map (·.1) else l.map (·.1)++[k]:=by
 induction l with
 | nil=>rfl
 | cons p l ih =>
  unfold SE Wm;split
  ·rfl
  ·rw [D3,ih];split <;> simp
theorem OK {k:Int}:∀ {l:JM α},Wm l k=none↔k∉l.map (·.1)
 | []=>by simp [Wm]
 | (c,y)::l=>by
  unfold Wm;split
  ·rename_i e;subst e;simp
  ·rename_i e;rw [OK (l:=l),D3,B7,not_or];exact ⟨fun h=>⟨e,h⟩,fun h=>h.2⟩
theorem Bb {l:JM α} {k:Int} {v:α} (h:(l.map (·.1)).Nodup):((SE l k v).map (·.1)).Nodup:=by
 rw [Zck];split
 ·exact h
 ·rename_i e;rw [H3];refine ⟨h,by simp,fun a ha b hb e2=>?_⟩;rw [B0] at hb;subst hb;subst e2;exact OK.1 (by simpa using e) ha
theorem Zhy {l:JM α} {k:Int} {v:α} {p:Int×α} (h:p∈SE l k v):p=(k,v)∨p∈l:=by
 induction l with
 | nil=>simpa [SE] using h
 | cons q l ih =>
  unfold SE at h;split at h
  ·rename_i e;subst e;rcases B7.1 h with rfl|h
   ·exact .inl rfl
   ·exact .inr (B2 _ h)
  ·rcases B7.1 h with rfl|h
   ·exact .inr B1
   ·rcases ih h with h|h
    ·exact .inl h
    ·exact .inr (B2 _ h)
theorem Jk (k:Int):∀ l:JM α,List.Sublist (PL l k) l
 | []=>List.Sublist.refl _
 | (j,u)::l=>by
  unfold PL;split
  ·exact List.sublist_cons_self _ _
  ·exact (Jk k l).cons_cons _
theorem Dc (k k':Int):∀ l:JM α,(l.map (·.1)).Nodup→Wm (PL l k) k'=if k'=k then none else Wm l k'
 | [],_=>by simp [PL,Wm]
 | (j,u)::l,h=>by
  have h2:=D9.1 h;unfold PL;by_cases e:k=j
  ·subst e;rw [A6 rfl];by_cases e2:k'=k
   ·subst e2;rw [A6 rfl];exact OK.2 h2.1
   ·rw [A4 e2];unfold Wm;rw [A4 e2];cases l <;> rfl
  ·rw [A4 e];unfold Wm;by_cases e2:k'=j
   ·rw [A6 e2,A4 jD,A6 e2]
   ·rw [A4 e2,A4 e2];have:=Dc k k' l h2.2;cases hl:PL l k with
    | nil=>rw [hl] at this;exact this
    | cons q r=>rw [hl] at this;exact this
end
structure RIs (M:Mem) (r:Rg) (l:JM ZM):Prop where
  ok:∀ p∈l,ZM.ok M p.2
  key:(l.map (·.1)).Nodup
  get:∀ a,(Wm l a).map ZM.nd=YC a r.nodes
  mail:∀ m∈r.bag,Zqy m
  rise:(XW r).Pairwise (·<·)
  few:r.nodes.length≤16
  cop:1≤r.copies∧r.copies≤8
theorem RIs.mono {M M':Mem} {r:Rg} {l:JM ZM} (h:RIs M r l) (hm:M.le M'):RIs M' r l:=⟨fun p hp=>(h.ok p hp).mono hm,h.key,h.get,h.mail,h.rise,h.few,h.cop⟩
theorem RIs.nil (M:Mem) (c k:Int) (hc:1≤c∧c≤8):RIs M ⟨c,k,[],[]⟩ []:=⟨fun p h=>(by cases h),J1,fun a=>rfl,fun m h=>(by cases h),J8,C3 _,hc⟩
theorem RIs.put {M:Mem} {r:Rg} {l:JM ZM} (h:RIs M r l) {a:Int} {n:ZM} (hn:ZM.ok M n) (hf:(YC a r.nodes).isSome∨r.nodes.length<16):RIs M { r with nodes:=WM a n.nd r.nodes } (SE l a n):=by
 refine ⟨fun p hp=>?_,Bb h.key,fun b=>?_,h.mail,NZ h.rise,?_,h.cop⟩
 ·rcases Zhy hp with rfl|hp
  ·exact hn
  ·exact h.ok p hp
 ·show (Wm (SE l a n) b).map ZM.nd=YC b (WM a n.nd r.nodes);rw [Zhz,Ut _ _ _ _ h.rise,← h.get b];split <;> rfl
 ·show (WM a n.nd r.nodes).length≤16;rw [HR h.rise];have:=h.few;grind
theorem RIs.del {M:Mem} {r:Rg} {l:JM ZM} (h:RIs M r l) (a:Int):RIs M { r with nodes:=AY a r.nodes } (PL l a):=by
 refine ⟨fun p hp=>h.ok p ((Jk a l).subset hp),h.key.sublist ((Jk a l).map _),fun b=>?_,h.mail,DD h.rise,H7 (List.length_filter_le _ _) h.few,h.cop⟩;rw [Dc _ _ _ h.key,Mt,← h.get b];split <;> rfl
theorem RIs.bag {M:Mem} {r:Rg} {l:JM ZM} (h:RIs M r l) {b:List Ml} (hb:∀ m∈b,Zqy m):RIs M { r with bag:=b } l:=⟨h.ok,h.key,h.get,hb,h.rise,h.few,h.cop⟩
theorem RIs.keys {M:Mem} {r:Rg} {l:JM ZM} (h:RIs M r l):(l.map (·.1)).Perm (XW r):=by
 refine (List.perm_ext_iff_of_nodup h.key (h.rise.imp fun hx=>by omega)).2 fun a=>?_;have h1:=OK (k:=a) (l:=l);have h2:=Wg (a:=a) (l:=r.nodes);have h3:=h.get a;unfold XW;constructor
 ·intro ha;apply C2;intro hb;simp_all
 ·grind
theorem RIs.len {M:Mem} {r:Rg} {l:JM ZM} (h:RIs M r l):l.length=r.nodes.length:=by
 have:=h.keys.length_eq;simpa [XW] using this
theorem RIs.no {M:Mem} {r:Rg} {l:JM ZM} (h:RIs M r l) {a:Int} (hn:YC a r.nodes=none):Wm l a=none:=by
 have h3:=h.get a;simp_all
def RingIs (g:Nat) (N:Int) (r:Rg) (M:Mem) (Hb:Hp):Prop :=
 ∃ (mb bb:Nat) (o:Obj) (l:JM ZM) (hb:Hp),
  Hb=(g,Yp [.one (.int .i64 r.copies),.one (.map (some mb)),.one (.pointer (some ⟨bb,0,none⟩))] 78)::(mb,o)::hb∧BagIs bb r.most N (r.bag.map Vl) hb∧jmO ZM.enc o l∧RIs M r l
theorem RingIs.intro {g:Nat} {N:Int} {r:Rg} {M:Mem} {mb bb:Nat} {o:Obj} {l:JM ZM} {hb:Hp} (h1:BagIs bb r.most N (r.bag.map Vl) hb) (h2:jmO ZM.enc o l) (h3:RIs M r l) :
 RingIs g N r M ((g,Yp [.one (.int .i64 r.copies),.one (.map (some mb)),.one (.pointer (some ⟨bb,0,none⟩))] 78)::(mb,o)::hb):=⟨mb,bb,o,l,hb,rfl,h1,h2,h3⟩
theorem RingIs.mono {g:Nat} {N N':Int} {r:Rg} {M M':Mem} {Hb:Hp} (h:RingIs g N r M Hb) (hN:N≤N') (hm:M.le M'):RingIs g N' r M' Hb:=by
 obtain ⟨mb,bb,o,l,hb,rfl,h1,h2,h3⟩:=h;exact RingIs.intro (h1.mono hN) h2 (h3.mono hm)
theorem RingIs.few {g:Nat} {N:Int} {r:Rg} {M:Mem} {Hb:Hp} (h:RingIs g N r M Hb):r.nodes.length≤16:=by
 obtain ⟨mb,bb,o,l,hb,rfl,h1,h2,h3⟩:=h;exact h3.few
theorem RingIs.rise {g:Nat} {N:Int} {r:Rg} {M:Mem} {Hb:Hp} (h:RingIs g N r M Hb):(XW r).Pairwise (·<·):=by
 obtain ⟨mb,bb,o,l,hb,rfl,h1,h2,h3⟩:=h;exact h3.rise
theorem Sn {c:Prop} [Decidable c] {a b:Nd×List Snd} (ha:a.2.length≤1) (hb:b.2.length≤1):(if c then a else b).2.length≤1:=by split <;> assumption
theorem Zob (n:Nd):(UD n).2.length≤1:=by
 refine Sn (B9 _) (Sn (C3 _) (B9 _))
theorem Ztf (n:Nd):(JB n).2.length≤1:=by
 refine Sn (C3 _) (Sn (C3 _) (Sn (C3 _) (B9 _)))
theorem Zhi (n:Nd):(UA n).2.length≤1:=by
 unfold UA;grind
theorem Znz (n:Nd) (k:Int):(Vf n k).2.1.length≤1:=by
 unfold Vf;split
 ·exact Sn (Zob n) (Sn (Ztf n) (Zhi n))
 ·decide
theorem Zhh (n:Nd) (l:Lt):(YF n l).2.length≤1:=by
 refine Sn (C3 _) (Sn (Sn (C3 _) (Sn (C3 _) (C3 _))) (Sn (C3 _) (B9 _)))
theorem Zny (n:Nd) (l:Lt):(Si n l).2.length≤1:=by
 unfold Si;grind
theorem Zoc (n:Nd) (l:Lt):(SN n l).length≤1:=by
 unfold SN;grind
theorem Zoa (n:Nd) (l:Lt):(WI n l).2.1.length≤1:=by
 unfold WI;split
 ·split
  ·exact C3 _
  split
  ·exact Zoc n l
  split
  ·exact Zhh n l
  split
  ·show (if n.joined=true then _ else _:List Snd).length≤1;split <;> simp
  split
  ·exact Zny n l
  split
  ·exact C3 _
  split
  ·exact B9 _
  split
  ·exact C3 _
  ·exact C3 _
 ·exact C3 _
theorem EU (n:Nd):(Sq n).1.length≤2:=by
 unfold Sq;grind
theorem IA {r:Rg} {frm:Int} {l:List YD} {k:Nat} (hk:k<l.length):Tq r frm (QV (l.take (k+1)))=Zmc (Tq r frm (QV (l.take k))) frm (l[k]).snd:=by
 rw [C9,A7 hk];unfold Tq QV;grind
theorem RingIs.sent {g:Nat} {N:Int} {r:Rg} {M:Mem} {mb bb:Nat} {o:Obj} {l:JM ZM} {hb:Hp} {frm:Int} {s:Snd} (h1:BagIs bb r.most N ((TY r.most r.bag ⟨frm,s.to,s.letter⟩).map Vl) hb) (h2:jmO ZM.enc o l) (h3:RIs M r l) (hq:SB s.letter.req) :
 RingIs g N (Zmc r frm s) M ((g,Yp [.one (.int .i64 r.copies),.one (.map (some mb)),.one (.pointer (some ⟨bb,0,none⟩))] 78)::(mb,o)::hb):=by
 rw [Aj];exact RingIs.intro (r:={ r with bag:=TY r.most r.bag ⟨frm,s.to,s.letter⟩ }) h1 h2 (h3.bag (Zki h3.mail hq))
theorem Zmy {r:Rg} {N:Int} {bb:Nat} {hb:Hp} {frm to9:Int} {lt:Lt} {b:ByteArray} (hI:SP lt) (hq:SB lt.req) (hb9:b=body lt) (h:BagIs bb r.most N (Zge ⟨frm,to9,b⟩ r.most (r.bag.map Vl)) hb) :
 BagIs bb r.most N ((TY r.most r.bag ⟨frm,to9,lt⟩).map Vl) hb:=by
 subst hb9;rw [← Zgd (m:=⟨frm,to9,lt⟩) ⟨hI,hq⟩];exact h
theorem Zsi {r:Rg} {N:Int} {bb:Nat} {hb:Hp} {frm to9:Int} {lt:Lt} (hI:¬SP lt) (h:BagIs bb r.most N (r.bag.map Vl) hb):BagIs bb r.most N ((TY r.most r.bag ⟨frm,to9,lt⟩).map Vl) hb:=by
 rw [Zkj hI];exact h
theorem Zsm {l:List YD} (h:Kq (QV l)) {k:Nat} (hk:k<l.length):SB (l[k]).letter.lt.req:=h (l[k]).snd (G8 (C1 hk))
theorem MO (r:Rg) (frm:Int) (l:List Snd):(Tq r frm l).most=r.most∧(Tq r frm l).copies=r.copies∧(Tq r frm l).nodes=r.nodes:=by
 rw [NX];exact ⟨rfl,rfl,rfl⟩
theorem Rw {r:Rg} {i:Int} (h:¬(0≤i∧i<r.bag.length)):XL r i=(r,7):=A4 h
theorem OS {r:Rg} {k:Nat} (h:k<r.bag.length):XL r k=(match YC (r.bag[k]).zto r.nodes with
 | none=>({ r with bag:=r.bag.eraseIdx k },0)
 | some n=>if (WI n (r.bag[k]).lt).2.2=0 then (Tq { r with bag:=r.bag.eraseIdx k,nodes:=WM (r.bag[k]).zto (WI n (r.bag[k]).lt).1 r.nodes } (r.bag[k]).zto (WI n (r.bag[k]).lt).2.1,0) else ({ r with bag:=r.bag.eraseIdx k },0)):=by
 unfold XL;grind
theorem DN {r:Rg} {k:Nat}:((r.bag.map Vl).eraseIdx k)=(r.bag.eraseIdx k).map Vl:=by rw [PE]
theorem Rx {r:Rg} {k:Nat} {m:Ml} (hk:k<r.bag.length) (hm:r.bag[k]=m) (h:YC m.zto r.nodes=none):XL r k=({ r with bag:=r.bag.eraseIdx k },0):=by
 rw [OS hk,hm,h]
theorem Rb {r:Rg} {k:Nat} {m:Ml} {n n1:Nd} {s:List Snd} (hk:k<r.bag.length) (hm:r.bag[k]=m) (h:YC m.zto r.nodes=some n) (h1:n1=(WI n m.lt).1) (h2:s=(WI n m.lt).2.1) (h3:(WI n m.lt).2.2=0) :
 XL r k=(Tq { r with bag:=r.bag.eraseIdx k,nodes:=WM m.zto n1 r.nodes } m.zto s,0):=by
 rw [OS hk,hm,h,h1,h2];grind
theorem ND {r:Rg} {k:Nat} {m:Ml} {n:Nd} (hk:k<r.bag.length) (hm:r.bag[k]=m) (h:YC m.zto r.nodes=some n) (h3:¬(WI n m.lt).2.2=0):XL r k=({ r with bag:=r.bag.eraseIdx k },0):=by
 rw [OS hk,hm,h];grind
theorem Bq {r:Rg} {i:Int} (h:¬(XL r i).2=0):XL r i=(r,7):=by
 by_cases hi:0≤i∧i<r.bag.length
 ·obtain ⟨k,rfl⟩:∃ k:Nat,i=k:=⟨i.toNat,by omega⟩
  exfalso;apply h;rw [OS jD];grind
 ·exact Rw hi
theorem RIs.some {M:Mem} {r:Rg} {l:JM ZM} (h:RIs M r l) {a:Int} {x:ZM} (hx:(Wm l a).getD ZM.zero=x) (hs:(Wm l a).isSome=true):YC a r.nodes=some x.nd∧ZM.ok M x:=by
 cases hg:Wm l a with
 | none=>rw [hg] at hs;cases hs
 | some v =>
  rw [hg] at hx;subst hx;exact ⟨by rw [← h.get a,hg];rfl,h.ok _ (Db hg)⟩
theorem RIs.none {M:Mem} {r:Rg} {l:JM ZM} (h:RIs M r l) {a:Int} (hs:(Wm l a).isSome=false):YC a r.nodes=Option.none:=by
 rw [← h.get a];simp_all
theorem Pg {n:Nat} {r:Rg} (h:(XL r 0).2=0):Va (n+1) r=Va n (XL r 0).1:=A6 h
theorem Dt {n:Nat} {r:Rg} (h:¬(XL r 0).2=0):Va n r=r:=by
 cases n with
 | zero=>rfl
 | succ n=>exact A4 h
theorem QU {r:Rg} {a k:Int} (h:YC a r.nodes=none):RF r a k=(r,7):=by unfold RF;rw [h]
theorem PU {r:Rg} {a k:Int} {n n1:Nd} {s:List Snd} (h:YC a r.nodes=some n) (h1:n1=(Vf n k).1) (h2:s=(Vf n k).2.1) (h3:(Vf n k).2.2=0):RF r a k=(Tq { r with nodes:=WM a n1 r.nodes } a s,0):=by
 unfold RF;rw [h,h1,h2];grind
theorem HG {r:Rg} {a k:Int} {n:Nd} (h:YC a r.nodes=some n) (h3:¬(Vf n k).2.2=0):RF r a k=(r,(Vf n k).2.2):=by
 unfold RF;rw [h];grind
theorem De {b:Bool} (h:(!b)=true):b=false:=by simpa using h
theorem Oj {b:Bool} (h:(!b)=false):b=true:=by simpa using h
def FlEq (F k:Nat) (r r1:Rg):Prop:=Va F r=Va (F-k) r1
theorem FlEq.step {F k:Nat} {r r1:Rg} (h:FlEq F k r r1) (hk:k<F) (h0:(XL r1 0).2=0):FlEq F (k+1) r (XL r1 0).1:=by
 unfold FlEq at *;rw [h,show F-k=(F-(k+1))+1 by omega,Pg h0]
theorem FlEq.ends {F k:Nat} {r r1:Rg} (h:FlEq F k r r1) (h0:¬(XL r1 0).2=0):Va F r=r1:=by
 rw [h,Dt h0]
theorem FlEq.full {F:Nat} {r r1:Rg} (h:FlEq F F r r1):Va F r=r1:=by
 rw [h,Nat.sub_self];rfl
theorem RingIs.cop {g:Nat} {N:Int} {r:Rg} {M:Mem} {Hb:Hp} (h:RingIs g N r M Hb):1≤r.copies∧r.copies≤8:=by
 obtain ⟨mb,bb,o,l,hb,rfl,h1,h2,h3⟩:=h;exact h3.cop
theorem Oz {r:Rg} {a:Int} {X:Nd×Int} {n:Nd} (h:X.2=0) (e:n=X.1):Tg r a X=({ r with nodes:=WM a n r.nodes },0):=by
 unfold Tg;rw [A6 h,e]
theorem KF {r:Rg} {a:Int} {X:Nd×Int} (h:¬X.2=0):Tg r a X=(r,X.2):=A4 h
theorem EO {r:Rg}:r.nodes≠[]↔0<r.nodes.length:=by
 cases r.nodes <;> simp
theorem DM {pn:Int→Zr} {r:Rg} {a:Int} (h:¬Yf a):Td pn r a=(r,1):=A6 h
theorem Hw {pn:Int→Zr} {r:Rg} {a:Int} (h:Yf a) (h1:0<r.nodes.length):Td pn r a=(r,13):=by
 unfold Td;rw [A4 (fun h9=>h9 h),A6 (EO.2 h1)]
theorem OU {pn:Int→Zr} {r:Rg} {a:Int} (h:Yf a) (h1:¬0<r.nodes.length):Td pn r a=Tg r a (Uk (pn a) r.copies):=by
 unfold Td;rw [A4 (fun h9=>h9 h),A4 (fun h9=>h1 (EO.1 h9))]
section
variable {pn:Int→Zr} {r:Rg} {a b:Int}
theorem Kj (h:Yf a∧Yf b∧¬a=b):¬(¬Yf a∨¬Yf b∨a=b):=fun h9=>h9.elim (fun q=>q h.1) (fun h9=>h9.elim (fun q=>q h.2.1) h.2.2)
theorem OJ (h:¬Yf a∨¬Yf b∨a=b):Us pn r a b=(r,1):=A6 h
theorem OI (h:Yf a∧Yf b∧¬a=b) (h1:(YC a r.nodes).isSome=true):Us pn r a b=(r,9):=by
 unfold Us;rw [A4 (Kj h),A6 h1]
theorem Mj (h:Yf a∧Yf b∧¬a=b) (h1:(YC a r.nodes).isSome=false) (h2:16≤r.nodes.length):Us pn r a b=(r,12):=by
 unfold Us;rw [A4 (Kj h),A4 (by rw [h1];decide),A6 h2]
theorem Oi (h:Yf a∧Yf b∧¬a=b) (h1:(YC a r.nodes).isSome=false) (h2:¬16≤r.nodes.length) (h3:(YC b r.nodes).isSome=false):Us pn r a b=(r,7):=by
 unfold Us;rw [A4 (Kj h),A4 (by rw [h1];decide),A4 h2,A6 h3]
theorem Mi (h:Yf a∧Yf b∧¬a=b) (h1:(YC a r.nodes).isSome=false) (h2:¬16≤r.nodes.length) (h3:(YC b r.nodes).isSome=true):Us pn r a b=Tg r a (Ur (pn a) r.copies b):=by
 unfold Us;rw [A4 (Kj h),A4 (by rw [h1];decide),A4 h2,A4 (by rw [h3];decide)]
end
theorem RIs.isS {M:Mem} {r:Rg} {l:JM ZM} (h:RIs M r l) (a:Int):(Wm l a).isSome=(YC a r.nodes).isSome:=by
 rw [← h.get a];simp
theorem Mr {r:Rg} {kind a:Int} (h:YC a r.nodes=none):Ts r kind a=(r,7):=by unfold Ts;rw [h]
theorem IY {r:Rg} {a:Int} {n:Nd} {s:List Snd} (h:YC a r.nodes=some n) (hs:s=(Sq n).1):Ts r 3 a=({ Tq r a s with nodes:=AY a r.nodes },0):=by
 unfold Ts;rw [h,hs];rfl
theorem IZ {r:Rg} {kind a:Int} {n:Nd} (h:YC a r.nodes=some n) (hk:¬kind=3):Ts r kind a=({ r with nodes:=AY a r.nodes },0):=by
 unfold Ts;rw [h];grind
section
variable {pn:Int→Zr} {r:Rg} {t:Trn}
theorem do1 (h:t.kind=1):doR pn r t=Td pn r t.a:=A6 h
theorem do2 (h:t.kind=2):doR pn r t=Us pn r t.a t.b:=by unfold doR;rw [A4 (by omega),A6 h]
theorem Zxi (h:t.kind=3∨t.kind=4):doR pn r t=Ts r t.kind t.a:=by unfold doR;rw [A4 (by omega),A4 (by omega),A6 h]
theorem do5 (h:t.kind=5):doR pn r t=RF r t.a t.b:=by unfold doR;rw [A4 (by omega),A4 (by omega),A4 (by omega),A6 h]
theorem do6 (h:t.kind=6):doR pn r t=XL r t.a:=by unfold doR;rw [A4 (by omega),A4 (by omega),A4 (by omega),A4 (by omega),A6 h]
theorem do7 (h:t.kind=7):doR pn r t=Gy r t.a:=by unfold doR;rw [A4 (by omega),A4 (by omega),A4 (by omega),A4 (by omega),A4 (by omega),A6 h]
theorem do8 (h:t.kind=8):doR pn r t=SR r t.a:=by unfold doR;rw [A4 (by omega),A4 (by omega),A4 (by omega),A4 (by omega),A4 (by omega),A4 (by omega),A6 h]
theorem do9 (h:t.kind=9):doR pn r t=(VI r,0):=by unfold doR;rw [A4 (by omega),A4 (by omega),A4 (by omega),A4 (by omega),A4 (by omega),A4 (by omega),A4 (by omega),A6 h]
theorem do0 (h:¬(1≤t.kind∧t.kind≤9)):doR pn r t=(r,13):=by unfold doR;rw [A4 (by omega),A4 (by omega),A4 (by omega),A4 (by omega),A4 (by omega),A4 (by omega),A4 (by omega),A4 (by omega)]
end
theorem Zjr (r:Rg) (i:Int):atC i (r.bag.map Vl)=(Gy r i).2∧Zwb i (r.bag.map Vl)=(Gy r i).1.bag.map Vl∧(Gy r i).1={ r with bag:=(Gy r i).1.bag }∧∀ m∈(Gy r i).1.bag,m∈r.bag:=by
 unfold Gy;by_cases h:0≤i∧i<r.bag.length
 ·rw [A6 h];obtain ⟨k,rfl⟩:∃ k:Nat,i=k:=⟨i.toNat,by omega⟩
  refine ⟨Ko.2 (by rw [A8];exact h),?_,rfl,fun m hm=>List.mem_of_mem_eraseIdx hm⟩;rw [Cr,DN];rfl
 ·rw [A4 h];have h7:atC i (r.bag.map Vl)=7:=by
   unfold atC;rw [A6 zC]
  exact ⟨h7,KC (by rw [h7];decide),rfl,fun m hm=>hm⟩
theorem Zmi {r:Rg} (i:Int) (hm:∀ m∈r.bag,Zqy m):Eg i r.most (r.bag.map Vl)=(SR r i).2∧Ef i r.most (r.bag.map Vl)=(SR r i).1.bag.map Vl∧(SR r i).1={ r with bag:=(SR r i).1.bag }∧∀ m∈(SR r i).1.bag,m∈r.bag:=by
 unfold SR Eg Ef;by_cases h:0≤i∧i<r.bag.length
 ·rw [A6 h];obtain ⟨k,rfl⟩:∃ k:Nat,i=k:=⟨i.toNat,by omega⟩
  have hk:k<r.bag.length:=by omega
  have h0:atC (k:Int) (r.bag.map Vl)=0:=Ko.2 (by rw [A8];exact h);have hat:atM (k:Int) (r.bag.map Vl)=Vl r.bag[k]:=by
   have h9:=(Zrm k (r.bag.map Vl) (by rw [A8];exact hk)).1;rw [I7] at h9;exact h9
  simp only [Int.toNat_natCast,A7 hk];have h1:=DK (hm _ (C1 hk)).1 (hm _ (C1 hk)).2;have hsz:¬(4096:Int)<((Vl r.bag[k]).body.size:Int):=by
   show ¬(4096:Int)<((body (r.bag[k]).lt).size:Int);omega
  by_cases hf:(r.bag.length:Int)<r.most
  ·rw [A6 hf];obtain ⟨g1,g2⟩:=Zqw (Vl r.bag[k]) r.most (r.bag.map Vl) hsz zC;grind
  ·rw [A4 hf];obtain ⟨g1,g2⟩:=Ai (Vl r.bag[k]) r.most (r.bag.map Vl) hsz zC;grind
 ·rw [A4 h];have h7:atC i (r.bag.map Vl)=7:=by
   unfold atC;rw [A6 zC]
  grind
theorem RingIs.rebag {g:Nat} {N:Int} {r r2:Rg} {M:Mem} {mb bb:Nat} {o:Obj} {l:JM ZM} {hb:Hp} (h1:BagIs bb r.most N (r2.bag.map Vl) hb) (h2:jmO ZM.enc o l) (h3:RIs M r l) (he:r2={ r with bag:=r2.bag }) (hm:∀ m∈r2.bag,m∈r.bag) :
 RingIs g N r2 M ((g,Yp [.one (.int .i64 r.copies),.one (.map (some mb)),.one (.pointer (some ⟨bb,0,none⟩))] 78)::(mb,o)::hb):=by
 rw [he];exact RingIs.intro (r:={ r with bag:=r2.bag }) h1 h2 (h3.bag fun m h9=>h3.mail m (hm m h9))
end Go.Esp
namespace Go.Proofs.YtglnjnacodgmaaaGreatDoor
open Go.Esp
theorem F.bld78:Bld Tryz.prog 78 [[.one (.int .i64 0)],[.one (.map none)],[.one (.pointer none)]]:=⟨by kernel_rfl,by kernel_rfl⟩
theorem F.bld82:Bld Tryz.prog 82 [[.one (.int .i64 0)],[.one (.int .i64 0)],[.one (.string ⟨#[]⟩)]]:=⟨by kernel_rfl,by kernel_rfl⟩
theorem F.lay169:lay Tryz.prog 169=some (true,68):=by kernel_rfl
theorem Zgb (M:Mem) (c most:Int) (hc:1≤c∧c≤8) (hm:1≤most∧most≤1000):Fh Tryz.prog 8 [.int .i64 c,.int .i64 most] M [] (fun M' v Hb=>∃ gb,v=.tuple #[.pointer (some ⟨gb,0,none⟩),.int .i64 0]∧RingIs gb 0 ⟨c,most,[],[]⟩ M' Hb):=by
 refine YI (fun H=>[]++H) (fun _=>rfl) Tryz.func8 rfl Tryz.ntmps8 rfl ?_;intro H;refine S9 ?_;refine We (B.New_ok M most hm) ?_;rintro _ M1 hb hm1 ⟨hM1,bb,rfl,hbag⟩;subst M1;refine S13 ?_;refine YE 15 (eT fun hc1=>?_) (eF fun hc1=>?_)
 ·(exfalso;simp [eqX] at hc1;done)
 ·refine S4 ?_;refine YE 19 (cT fun hc2=>?_) (cF fun hc2=>?_)
  ·(exfalso;omega)
  ·refine S5 ?_;refine Xb (cT fun hc3=>?_) (cF fun hc3=>?_)
   ·(exfalso;omega)
   ·refine S6 ?_;intro b4;refine Stp ?_;refine XN rfl rfl F.bld78 (.cons rfl jG (.cons rfl jG (.cons rfl jG .nil))) rfl rfl ?_;refine Stp ?_;intro b5;refine S5 ?_;refine ZH fun w hw=>?_;exact ⟨_,M,(b5,Yp [.one (.int .i64 c),.one (.map (some b4)),.one (.pointer (some ⟨bb,0,none⟩))] 78)::(b4,.map #[] 0)::hb,rfl,Mem.le.refl M,hw.c,_,rfl,RingIs.intro (r:=⟨c,most,[],[]⟩) (mb:=b4) hbag (jmO.nil _) (RIs.nil M c most hc)⟩
theorem Zvi (M:Mem) (l:ZI) (hl:ZI.ok M l) (hq:SB l.lt.req):Fs Tryz.prog 104 [l.enc] M (fun v=>∃ (b:ByteArray) (e:Int),v=.tuple #[.string b,.int .i64 e]∧((SP l.lt∧e=0∧b=body l.lt)∨(¬SP l.lt∧e=1))):=by
 by_cases h:SP l.lt
 ·exact fun H w hw=>(Put_ok M l hl h hq H w hw).mono fun e w2 ⟨v,g1,g2,g3⟩=>⟨v,g1,g2,_,_,g3,.inl ⟨h,rfl,rfl⟩⟩
 ·exact fun H w hw=>(Zye M l hl h H w hw).mono fun e w2 ⟨v,g1,g2,g3⟩=>⟨v,g1,g2,_,_,g3,.inr ⟨h,rfl⟩⟩
theorem HH (M:Mem) (gb:Nat) (N:Int) (r:Rg) (Hb:Hp) (hR:RingIs gb N r M Hb) (frm:Int) (l:Sl YD) (k_l:SlK M YD.segs 68 l) (o_l:∀ y∈l.l,YD.ok M y) (hq:Kq (QV l.l)) (hN:N+l.l.length≤1000000000000000):Fh Tryz.prog 67 [.pointer (some ⟨gb,0,none⟩),.int .i64 frm,Sl.val l] M Hb (fun M' v Hb'=>M'=M∧v=.tuple #[]∧RingIs gb (N+l.l.length) (Tq r frm (QV l.l)) M Hb'):=by
 obtain ⟨l_a,l_c,l_l⟩:=l;have s_l:SlM M l_a (l_l.map YD.segs) 68:=k_l.h1;have n_l:(l_l.map YD.segs).length=l_l.length:=A8 ..;have m_l:l_l.length≤9223372036854775807:=k_l.h2;simp only at hq hN o_l ⊢;refine YI (fun H=>Hb++H) (fun _=>rfl) Tryz.func67 rfl Tryz.ntmps67 rfl ?_;intro H;refine S8 ?_;refine VG [12,11,10,0,1] ?_;refine XV (Hin:=Hb) (.succ .zero) jA (fun (k:Nat) M1 h1 z=>M1=M∧z=[(12,.int .i64 (k:Int))]∧k≤l_l.length∧RingIs gb (N+k) (Tq r frm (QV (l_l.take k))) M h1) (fun k=>l_l.length-k) (0) (⟨rfl,rfl,by omega,by simpa [QV,Tq] using hR⟩) ?_;rintro k M1 h1 z hm1 ⟨hM1,rfl,hk,hR1⟩;obtain rfl:=hM1.symm;obtain ⟨r1,hr1⟩:∃ r1,Tq r frm (QV (l_l.take k))=r1:=⟨_,rfl⟩
 rw [hr1] at hR1;obtain ⟨mb,bb,o,jl,hb,rfl,hbag,hom,hri⟩:=hR1;refine S6 ?_;refine Xb (cT fun hc1=>?_) (cF fun hc1=>?_)
 ·refine S5 ?_;obtain ⟨⟨s_to,⟨s_kind,⟨s_frm_addr,s_frm_id⟩,s_req,s_id,⟨s_avoid_a,s_avoid_c,s_avoid_l⟩,s_done,⟨s_peer_addr,s_peer_id⟩,⟨s_peers_a,s_peers_c,s_peers_l⟩⟩⟩,he9⟩:∃ s,l_l[k]'jD=s:=⟨_,rfl⟩
  have hq9:=Zsm hq (show k<l_l.length by omega);have ho9:=o_l _ (C1 (show k<l_l.length by omega));rw [he9] at hq9 ho9;refine S3 ?_;simp only [H9,he9];refine Stp ?_;intro b2;refine UE rfl rfl rfl rfl jG jL jH F.lay169 jC (Sm (m:=68) rfl jC jC) ?_;refine S6 ?_;refine Vn (Zvi M ⟨s_kind,⟨s_frm_addr,s_frm_id⟩,s_req,s_id,⟨s_avoid_a,s_avoid_c,s_avoid_l⟩,s_done,⟨s_peer_addr,s_peer_id⟩,⟨s_peers_a,s_peers_c,s_peers_l⟩⟩ ho9.h0 hq9) ?_;rintro _ ⟨b9,e9,rfl,hp9⟩;refine S13 ?_;refine Xb (cT fun hc3=>?_) (cF fun hc3=>?_)
  ·refine Um (l:=[0,1,2,3,4,5,6,7,8,9]) (Hin:=hb) #[0,1,3,7,0,0,32,0,240,511] jA rfl jI jI ?_;refine S8 ?_;refine XN rfl rfl F.bld82 (.cons rfl jG (.cons rfl jG (.cons rfl jG .nil))) rfl rfl ?_;refine We (B.Put_ok M bb _ _ _ hb ⟨frm,s_to,b9⟩ jD hbag) ?_;rintro _ M2 hb2 hm2 ⟨hM2,rfl,hbag2⟩;subst M2;refine S7 ?_;refine YO (a':=[(12,_)]) (k+1) (((gb,Yp [.one (.int .i64 r1.copies),.one (.map (some mb)),.one (.pointer (some ⟨bb,0,none⟩))] 78)::(mb,o)::hb2)) (.cons (k:=12) rfl (.cons (k:=11) rfl (.cons (k:=10) rfl (.cons (k:=0) rfl (.cons (k:=1) rfl (.nil)))))) jO (fun w hw=>by first|exact hw|exact hw.c) ?_ ?_
   ·refine ⟨rfl,rfl,by omega,?_⟩;rw [IA jD,hr1,he9,show N+((k+1:Nat):Int)=N+k+1 by omega];rcases hp9 with ⟨g1,g2,g3⟩|⟨g1,g2⟩
    ·exact RingIs.sent (Zmy g1 hq9 g3 hbag2) hom hri hq9
    ·exact absurd (show e9=0 by assumption) jD
   ·omega
  ·refine S7 ?_;refine YO (a':=[(12,_)]) (k+1) (((gb,Yp [.one (.int .i64 r1.copies),.one (.map (some mb)),.one (.pointer (some ⟨bb,0,none⟩))] 78)::(mb,o)::hb)) (.cons (k:=12) rfl (.cons (k:=11) rfl (.cons (k:=10) rfl (.cons (k:=0) rfl (.cons (k:=1) rfl (.nil)))))) jO (fun w hw=>by first|exact hw|exact hw.c) ?_ ?_
   ·refine ⟨rfl,rfl,by omega,?_⟩;rw [IA jD,hr1,he9,show N+((k+1:Nat):Int)=N+k+1 by omega];rcases hp9 with ⟨g1,g2,g3⟩|⟨g1,g2⟩
    ·exact absurd g2 jE
    ·exact RingIs.sent (Zsi g1 (hbag.mono jD)) hom hri hq9
   ·omega
 ·refine S4 ?_;refine ZH fun w hw=>?_;obtain rfl:k=l_l.length:=by omega
  rw [G0] at hr1;exact ⟨_,M,_,rfl,Mem.le.refl M,hw.c,rfl,rfl,by rw [hr1];exact RingIs.intro hbag hom hri⟩
theorem F.ok67:Ta Tryz.prog 67=true:=by kernel_rfl
theorem F.zero82:XP Tryz.prog 82=some (WX [.one (.int .i64 0),.one (.int .i64 0),.one (.string ⟨#[]⟩)]):=by kernel_rfl
theorem Zde (M:Mem) (gb:Nat) (N:Int) (r:Rg) (Hb:Hp) (hR:RingIs gb N r M Hb) (i:Int) (hi:¬(0≤i∧i<r.bag.length)):Fh Tryz.prog 32 [.pointer (some ⟨gb,0,none⟩),.int .i64 i] M Hb (fun M' v Hb'=>v=.int .i64 (XL r i).2∧RingIs gb N (XL r i).1 M' Hb'):=by
 obtain ⟨mb,bb,o,jl,hb,rfl,hbag,hom,hri⟩:=hR;refine YI (fun H=>(gb,Yp [.one (.int .i64 r.copies),.one (.map (some mb)),.one (.pointer (some ⟨bb,0,none⟩))] 78)::(mb,o)::(hb++H)) (fun _=>by simp only [List.append_assoc,List.cons_append,List.nil_append]) Tryz.func32 rfl Tryz.ntmps32 rfl ?_;intro H;refine S6 ?_;refine Xv (l:=[0,1,2,3,4,5,6,7,8,9,10,11]) (Hin:=hb) jA rfl ?_;refine S5 ?_;refine We (B.Take_ok M bb r.most N (r.bag.map Vl) hb i hbag) ?_;rintro v1 M1 hb1 hm1 ⟨hM1,hv1,hbag1⟩;subst M1;have hat:atM i (r.bag.map Vl)=YQ.zero∧atC i (r.bag.map Vl)=7:=Bz i _ zC;rw [hat.1,hat.2] at hv1;subst hv1;rw [KC (by rw [hat.2];decide)] at hbag1;refine S4 ?_;intro b1;refine S11 ?_;refine Xb (eT fun hc2=>?_) (eF fun hc2=>?_)
 ·refine S8 ?_;refine ZH fun w hw=>?_;refine ⟨_,M,_,rfl,Mem.le.refl M,hw.cnt (H':=((gb,Yp [.one (.int .i64 r.copies),.one (.map (some mb)),.one (.pointer (some ⟨bb,0,none⟩))] 78)::(mb,o)::hb1)++H) jF,?_⟩;rw [Rw hi];exact ⟨rfl,RingIs.intro hbag1 hom hri⟩
 ·(exfalso;omega)
theorem Zdf (M:Mem) (gb:Nat) (N:Int) (r:Rg) (Hb:Hp) (hR:RingIs gb N r M Hb) (k:Nat) (hk:k<r.bag.length) (hN:N+1≤1000000000000000):Fh Tryz.prog 32 [.pointer (some ⟨gb,0,none⟩),.int .i64 (k:Int)] M Hb (fun M' v Hb'=>v=.int .i64 (XL r k).2∧RingIs gb (N+1) (XL r k).1 M' Hb'):=by
 obtain ⟨mb,bb,o,jl,hb,rfl,hbag,hom,hri⟩:=hR;obtain ⟨⟨m_frm,m_to,m_lt⟩,hm⟩:∃ m,r.bag[k]=m:=⟨_,rfl⟩
 have hml:Zqy ⟨m_frm,m_to,m_lt⟩:=by rw [← hm];exact hri.mail _ (List.getElem_mem _)
 have hri1:=hri.bag (b:=r.bag.eraseIdx k) (fun x hx=>hri.mail x (List.mem_of_mem_eraseIdx hx));refine YI (fun H=>(gb,Yp [.one (.int .i64 r.copies),.one (.map (some mb)),.one (.pointer (some ⟨bb,0,none⟩))] 78)::(mb,o)::(hb++H)) (fun _=>by simp only [List.append_assoc,List.cons_append,List.nil_append]) Tryz.func32 rfl Tryz.ntmps32 rfl ?_;intro H;refine S6 ?_;refine Xv (l:=[0,1,2,3,4,5,6,7,8,9,10,11]) (Hin:=hb) jA rfl ?_;refine S5 ?_;refine We (B.Take_ok M bb r.most N (r.bag.map Vl) hb (k:Int) hbag) ?_;rintro v1 M1 hb1 hm1 ⟨hM1,hv1,hbag1⟩;subst M1;have hat:atM (k:Int) (r.bag.map Vl)=(⟨m_frm,m_to,body m_lt⟩:YQ)∧atC (k:Int) (r.bag.map Vl)=0:=by
  have h9:=Zrm k (r.bag.map Vl) zC;rw [List.getElem_map,hm] at h9;exact h9
 rw [hat.1,hat.2] at hv1;subst hv1;rw [Cr,DN] at hbag1;refine S4 ?_;intro b1;refine S11 ?_;refine Xb (eT fun hc2=>?_) (eF fun hc2=>?_)
 ·(exfalso;simp [eqX] at hc2;done)
 ·refine S3 ?_;refine Ya (l:=[0,1,2,3,4,5,6,7,8,9,10,11,12]) #[0,1,3,7,0,16,63,127,255,255,0,1535,4095] _ rfl jI jI St.drawn (fun _ h=>h) ?_;refine S6 ?_;refine RS (en:=ZM.enc) (z:=ZM.zero) rfl rfl rfl rfl ⟨Tryz.underlying3⟩ Tryz.underlying76 (show _=some (ZM.enc ZM.zero) from F.zero44) jB hom rfl ?_;obtain ⟨⟨⟨⟨XT,Ws⟩,⟨XU,Wt⟩,⟨Ww,Wv,Wu⟩,⟨XI,XH,XG⟩⟩,TN,TJ,RW,TM,PR,Sy,TO,TI,UP,TK,UQ,TL,⟨UT,US,UR⟩,RV,RU⟩,hx9⟩:∃ x:ZM,(Wm jl (m_to)).getD ZM.zero=x:=⟨_,rfl⟩
  rw [hx9];refine S4 ?_;intro b3;refine XX F.lay44 ?_;refine S7 ?_;refine PH (Zyl M m_lt hml.1 hml.2) ?_;rintro _ M2 hm2 ⟨⟨ZF,⟨ZE,ZT⟩,ZX,l_id,⟨ZP,ZQ,ZD⟩,ZS,⟨Zy,ZG⟩,⟨ZO,ZN,ZC⟩⟩,rfl,ok_l,el⟩;refine S4 ?_;intro b4;refine UE rfl rfl rfl rfl jG jL jH F.lay128 jC (Sm (m:=67) rfl jC jC) ?_;refine S9 ?_;refine YE 43 (fun hc5=>?_) (fun hc5=>?_)
  ·skip
   refine S13 ?_;refine ZH fun w hw=>?_;have hno:YC m_to r.nodes=none:=hri.none (by exact De jE);have e9:XL r k=_:=Rx hk hm hno;exact ⟨_,M2,_,rfl,hm2,hw.cnt (H':=((gb,Yp [.one (.int .i64 r.copies),.one (.map (some mb)),.one (.pointer (some ⟨bb,0,none⟩))] 78)::(mb,o)::hb1)++H) jF,by rw [e9];rfl,by rw [e9];exact RingIs.intro (hbag1.mono jD) hom (hri1.mono hm2)⟩
  ·skip
   refine S5 ?_;refine Xb (eT fun hc6=>?_) (eF fun hc6=>?_)
   ·(exfalso;simp [eqX] at hc6;done)
   ·simp only [Zr.eta,ZK.eta,ZM.eta,ZI.eta,YD.eta,YQ.eta,XM.eta,YT.eta,ZW.eta,XF.eta,Yk.eta] at hc6;refine S4 ?_;have hsm:=hri.some hx9 (by exact Oj jE);refine S3 ?_;refine PH (Take_ok M2 ⟨⟨⟨XT,Ws⟩,⟨XU,Wt⟩,⟨Ww,Wv,Wu⟩,⟨XI,XH,XG⟩⟩,TN,TJ,RW,TM,PR,Sy,TO,TI,UP,TK,UQ,TL,⟨UT,US,UR⟩,RV,RU⟩ ⟨ZF,⟨ZE,ZT⟩,ZX,l_id,⟨ZP,ZQ,ZD⟩,ZS,⟨Zy,ZG⟩,⟨ZO,ZN,ZC⟩⟩ (hsm.2.mono hm2) ok_l) ?_;rintro _ M3 hm3 hv;rw [el] at hv;revert hv;rintro ⟨⟨⟨⟨YV,Xh⟩,⟨YW,Xi⟩,⟨Xo,Xn,Xm⟩,⟨YZ,YY,YX⟩⟩,Vt,Vp,UO,Vs,Sr,VY,Vu,Vo,WP,Vq,WQ,Vr,⟨WT,WS,WR⟩,UM,UL⟩,⟨q_a,q_c,q_l⟩,rfl,ey,sy,oky,kq,oq⟩;simp only [Sl.val];try simp only at ey sy oky kq oq
    refine S5 ?_;intro b7;refine XX F.lay44 ?_;refine S10 ?_;refine Xb (cT fun hc8=>?_) (cF fun hc8=>?_)
    ·refine Stp ?_;refine Um (l:=[0,1,2,3,4,5,6,7]) (Hin:=[(mb,o)]) #[0,1,3,7,0,16,0,127] jA rfl jI jI ?_;refine S7 ?_;refine Ov (en:=ZM.enc) (v:=⟨⟨⟨YV,Xh⟩,⟨YW,Xi⟩,⟨Xo,Xn,Xm⟩,⟨YZ,YY,YX⟩⟩,Vt,Vp,UO,Vs,Sr,VY,Vu,Vo,WP,Vq,WQ,Vr,⟨WT,WS,WR⟩,UM,UL⟩) rfl rfl rfl rfl rfl ⟨Tryz.underlying3⟩ Tryz.underlying76 hom jB ?_;intro o2 hom2;refine ⟨_,jH,?_⟩;refine S2 ?_;have hR2:RingIs gb N ({ r with bag:=r.bag.eraseIdx k,nodes:=WM m_to (ZM.nd ⟨⟨⟨YV,Xh⟩,⟨YW,Xi⟩,⟨Xo,Xn,Xm⟩,⟨YZ,YY,YX⟩⟩,Vt,Vp,UO,Vs,Sr,VY,Vu,Vo,WP,Vq,WQ,Vr,⟨WT,WS,WR⟩,UM,UL⟩) r.nodes }) M3 ((gb,Yp [.one (.int .i64 r.copies),.one (.map (some mb)),.one (.pointer (some ⟨bb,0,none⟩))] 78)::(mb,o2)::hb1):=RingIs.intro (r:={ r with bag:=r.bag.eraseIdx k,nodes:=WM m_to (ZM.nd ⟨⟨⟨YV,Xh⟩,⟨YW,Xi⟩,⟨Xo,Xn,Xm⟩,⟨YZ,YY,YX⟩⟩,Vt,Vp,UO,Vs,Sr,VY,Vu,Vo,WP,Vq,WQ,Vr,⟨WT,WS,WR⟩,UM,UL⟩) r.nodes }) hbag1 hom2 ((hri1.mono (hm2.trans hm3)).put (n:=⟨⟨⟨YV,Xh⟩,⟨YW,Xi⟩,⟨Xo,Xn,Xm⟩,⟨YZ,YY,YX⟩⟩,Vt,Vp,UO,Vs,Sr,VY,Vu,Vo,WP,Vq,WQ,Vr,⟨WT,WS,WR⟩,UM,UL⟩) oky (.inl (by rw [hsm.1];rfl)));have hq9:Kq (QV q_l):=by rw [sy];exact Znd _ _ hml.2
     have hl9:(QV q_l).length≤1:=by rw [sy];exact Zoa _ _
     have hl8:(QV q_l).length=q_l.length:=List.length_map ..;refine Yq (l:=[0,1,2,3,4]) [4] rfl ?_;refine S4 ?_;refine DW H rfl rfl rfl F.ok67 rfl (HH M3 gb N _ _ hR2 m_to ⟨q_a,q_c,q_l⟩ kq oq hq9 (by show N+(q_l.length:Int)≤_;omega)) jF (XK rfl) ?_;rintro _ M5 hb5 hm5 ⟨hM5,rfl,hR5⟩;subst M5;try simp only at hR5
     refine Stp ?_;refine Xj ?_;refine S7 ?_;refine ZH fun w hw=>?_;have e9:XL r k=(Tq ({ r with bag:=r.bag.eraseIdx k,nodes:=WM m_to (ZM.nd ⟨⟨⟨YV,Xh⟩,⟨YW,Xi⟩,⟨Xo,Xn,Xm⟩,⟨YZ,YY,YX⟩⟩,Vt,Vp,UO,Vs,Sr,VY,Vu,Vo,WP,Vq,WQ,Vr,⟨WT,WS,WR⟩,UM,UL⟩) r.nodes }) m_to (QV q_l),0):=Rb hk hm hsm.1 ey sy jE;exact ⟨_,M3,_,rfl,hm2.trans hm3,hw.cnt (H':=hb5++H) jF,by rw [e9];rfl,by rw [e9];exact hR5.mono jD (Mem.le.refl _)⟩
    ·refine S8 ?_;refine ZH fun w hw=>?_;have e9:XL r k=_:=ND hk hm hsm.1 jE;exact ⟨_,M3,_,rfl,hm2.trans hm3,hw.cnt (H':=((gb,Yp [.one (.int .i64 r.copies),.one (.map (some mb)),.one (.pointer (some ⟨bb,0,none⟩))] 78)::(mb,o)::hb1)++H) jF,by rw [e9];rfl,by rw [e9];exact RingIs.intro (hbag1.mono jD) hom (hri1.mono (hm2.trans hm3))⟩
theorem JG (M:Mem) (gb:Nat) (N:Int) (r:Rg) (Hb:Hp) (hR:RingIs gb N r M Hb) (i:Int) (hN:N+1≤1000000000000000):Fh Tryz.prog 32 [.pointer (some ⟨gb,0,none⟩),.int .i64 i] M Hb (fun M' v Hb'=>v=.int .i64 (XL r i).2∧RingIs gb (N+1) (XL r i).1 M' Hb'):=by
 by_cases hi:0≤i∧i<r.bag.length
 ·obtain ⟨k,rfl⟩:∃ k:Nat,i=k:=⟨i.toNat,by omega⟩
  exact Zdf M gb N r Hb hR k jD hN
 ·exact fun H w hw=>(Zde M gb N r Hb hR i hi H w hw).mono fun e w2 ⟨v,M2,H2,g1,g2,g3,g4,g5⟩=>⟨v,M2,H2,g1,g2,g3,g4,g5.mono jD (Mem.le.refl _)⟩
theorem Dr (M:Mem) (gb:Nat) (N:Int) (r:Rg) (Hb:Hp) (hR:RingIs gb N r M Hb) (fl:Nat) (hF:fl≤10000∧10000≤fl) (hN:N+10001≤1000000000000000):Fh Tryz.prog 73 [.pointer (some ⟨gb,0,none⟩)] M Hb (fun M' v Hb'=>v=.tuple #[]∧RingIs gb (N+fl) (Va fl r) M' Hb'):=by
 refine YI (fun H=>Hb++H) (fun _=>rfl) Tryz.func73 rfl Tryz.ntmps73 rfl ?_;intro H;refine S6 ?_;refine VG [2,0] ?_;refine XV (Hin:=Hb) (.succ .zero) jA (fun (k:Nat) M1 h1 z=>∃ r1,z=[(2,.int .i64 (k:Int))]∧k≤fl∧RingIs gb (N+k) r1 M1 h1∧FlEq fl k r r1) (fun k=>fl-k) (0) (⟨r,rfl,by omega,by simpa using hR,rfl⟩) ?_;rintro k M1 h1 z hm1 ⟨r1,rfl,hk,hR1,hf1⟩;refine S6 ?_;refine Xb (cT fun hc1=>?_) (cF fun hc1=>?_)
 ·refine S5 ?_;refine Xv (l:=[0,1,2]) (Hin:=h1) jA rfl ?_;refine Stp ?_;refine We (JG M1 gb (N+k) r1 h1 hR1 0 jD) ?_;rintro _ M2 hb2 hm2 ⟨rfl,hR2⟩;refine S3 ?_;refine Xb (eT fun hc2=>?_) (eF fun hc2=>?_)
  ·refine S5 ?_;refine ZH fun w hw=>?_;exact ⟨_,M2,hb2,rfl,hm1.trans hm2,hw.c,rfl,by rw [hf1.ends jE];rw [Bq jE] at hR2;exact hR2.mono jD (Mem.le.refl _)⟩
  ·refine S7 ?_;refine YO (a':=[(2,_)]) (k+1) (hb2) (.cons (k:=2) rfl (.cons (k:=0) rfl (.nil))) (hm1.trans hm2) (fun w hw=>by first|exact hw|exact hw.c) ?_ ?_
   ·refine ⟨(XL r1 0).1,rfl,by omega,by rw [show N+((k+1:Nat):Int)=N+k+1 by omega];exact hR2,?_⟩;exact hf1.step jD jD
   ·omega
 ·refine S4 ?_;refine ZH fun w hw=>?_;obtain rfl:k=fl:=by omega
  exact ⟨_,M1,h1,rfl,hm1,hw.c,rfl,by rw [hf1.full];exact hR1⟩
theorem BV (M:Mem) (gb:Nat) (N:Int) (r:Rg) (Hb:Hp) (hR:RingIs gb N r M Hb) (a kind:Int) (hN:N+1≤1000000000000000):Fh Tryz.prog 31 [.pointer (some ⟨gb,0,none⟩),.int .i64 a,.int .i64 kind] M Hb (fun M' v Hb'=>v=.int .i64 (RF r a kind).2∧RingIs gb (N+1) (RF r a kind).1 M' Hb'):=by
 obtain ⟨mb,bb,o,jl,hb,rfl,hbag,hom,hri⟩:=hR;refine YI (fun H=>(gb,Yp [.one (.int .i64 r.copies),.one (.map (some mb)),.one (.pointer (some ⟨bb,0,none⟩))] 78)::(mb,o)::(hb++H)) (fun _=>by simp only [List.append_assoc,List.cons_append,List.nil_append]) Tryz.func31 rfl Tryz.ntmps31 rfl ?_;intro H;refine S12 ?_;refine RS (en:=ZM.enc) (z:=ZM.zero) rfl rfl rfl rfl ⟨Tryz.underlying3⟩ Tryz.underlying76 (show _=some (ZM.enc ZM.zero) from F.zero44) jB hom rfl ?_;obtain ⟨⟨⟨⟨XT,Ws⟩,⟨XU,Wt⟩,⟨Ww,Wv,Wu⟩,⟨XI,XH,XG⟩⟩,TN,TJ,RW,TM,PR,Sy,TO,TI,UP,TK,UQ,TL,⟨UT,US,UR⟩,RV,RU⟩,hx9⟩:∃ x:ZM,(Wm jl (a)).getD ZM.zero=x:=⟨_,rfl⟩
 rw [hx9];refine S4 ?_;intro b1;refine XX F.lay44 ?_;refine S10 ?_;refine Xb (fun hc2=>?_) (fun hc2=>?_)
 ·skip
  refine S7 ?_;refine ZH fun w hw=>?_;have hno:YC a r.nodes=none:=hri.none (by exact De jE);have e9:=QU (k:=kind) hno;exact ⟨_,M,_,rfl,Mem.le.refl M,hw.cnt (H':=((gb,Yp [.one (.int .i64 r.copies),.one (.map (some mb)),.one (.pointer (some ⟨bb,0,none⟩))] 78)::(mb,o)::hb)++H) jF,by rw [e9];rfl,by rw [e9];exact RingIs.intro (hbag.mono jD) hom hri⟩
 ·skip
  refine S3 ?_;have hsm:=hri.some hx9 (by exact Oj jE);refine S3 ?_;refine PH (Zux M ⟨⟨⟨XT,Ws⟩,⟨XU,Wt⟩,⟨Ww,Wv,Wu⟩,⟨XI,XH,XG⟩⟩,TN,TJ,RW,TM,PR,Sy,TO,TI,UP,TK,UQ,TL,⟨UT,US,UR⟩,RV,RU⟩ kind hsm.2) ?_;rintro _ M2 hm2 ⟨⟨⟨⟨YV,Xh⟩,⟨YW,Xi⟩,⟨Xo,Xn,Xm⟩,⟨YZ,YY,YX⟩⟩,Vt,Vp,UO,Vs,Sr,VY,Vu,Vo,WP,Vq,WQ,Vr,⟨WT,WS,WR⟩,UM,UL⟩,⟨q_a,q_c,q_l⟩,rfl,ey,sy,oky,kq,oq⟩;simp only [Sl.val];try simp only at ey sy oky kq oq
  refine S4 ?_;refine XX F.lay44 ?_;refine S11 ?_;refine Xb (cT fun hc3=>?_) (cF fun hc3=>?_)
  ·refine Stp ?_;refine Um (l:=[0,1,2,3,4,5,6]) (Hin:=[(mb,o)]) #[0,1,3,7,0,0,63] jA rfl jI jI ?_;refine S6 ?_;refine Ov (en:=ZM.enc) (v:=⟨⟨⟨YV,Xh⟩,⟨YW,Xi⟩,⟨Xo,Xn,Xm⟩,⟨YZ,YY,YX⟩⟩,Vt,Vp,UO,Vs,Sr,VY,Vu,Vo,WP,Vq,WQ,Vr,⟨WT,WS,WR⟩,UM,UL⟩) rfl rfl rfl rfl rfl ⟨Tryz.underlying3⟩ Tryz.underlying76 hom jB ?_;intro o2 hom2;refine ⟨_,jH,?_⟩;refine S2 ?_;have hR2:RingIs gb N ({ r with nodes:=WM a (ZM.nd ⟨⟨⟨YV,Xh⟩,⟨YW,Xi⟩,⟨Xo,Xn,Xm⟩,⟨YZ,YY,YX⟩⟩,Vt,Vp,UO,Vs,Sr,VY,Vu,Vo,WP,Vq,WQ,Vr,⟨WT,WS,WR⟩,UM,UL⟩) r.nodes }) M2 ((gb,Yp [.one (.int .i64 r.copies),.one (.map (some mb)),.one (.pointer (some ⟨bb,0,none⟩))] 78)::(mb,o2)::hb):=RingIs.intro (r:={ r with nodes:=WM a (ZM.nd ⟨⟨⟨YV,Xh⟩,⟨YW,Xi⟩,⟨Xo,Xn,Xm⟩,⟨YZ,YY,YX⟩⟩,Vt,Vp,UO,Vs,Sr,VY,Vu,Vo,WP,Vq,WQ,Vr,⟨WT,WS,WR⟩,UM,UL⟩) r.nodes }) hbag hom2 ((hri.mono hm2).put (n:=⟨⟨⟨YV,Xh⟩,⟨YW,Xi⟩,⟨Xo,Xn,Xm⟩,⟨YZ,YY,YX⟩⟩,Vt,Vp,UO,Vs,Sr,VY,Vu,Vo,WP,Vq,WQ,Vr,⟨WT,WS,WR⟩,UM,UL⟩) oky (.inl (by rw [hsm.1];rfl)));have hq9:Kq (QV q_l):=by rw [sy];exact Znc _ _
   have hl9:(QV q_l).length≤1:=by rw [sy];exact Znz _ _
   have hl8:(QV q_l).length=q_l.length:=List.length_map ..;refine Yq (l:=[0,1,2,3]) [3] rfl ?_;refine S3 ?_;refine DW H rfl rfl rfl F.ok67 rfl (HH M2 gb N _ _ hR2 a ⟨q_a,q_c,q_l⟩ kq oq hq9 (by show N+(q_l.length:Int)≤_;omega)) jF (XK rfl) ?_;rintro _ M5 hb5 hm5 ⟨hM5,rfl,hR5⟩;subst M5;try simp only at hR5
   refine Stp ?_;refine Xj ?_;refine S8 ?_;refine ZH fun w hw=>?_;have h30:(Vf (ZM.nd ⟨⟨⟨XT,Ws⟩,⟨XU,Wt⟩,⟨Ww,Wv,Wu⟩,⟨XI,XH,XG⟩⟩,TN,TJ,RW,TM,PR,Sy,TO,TI,UP,TK,UQ,TL,⟨UT,US,UR⟩,RV,RU⟩) kind).2.2=0:=by assumption
   have e9:RF r a kind=(Tq ({ r with nodes:=WM a (ZM.nd ⟨⟨⟨YV,Xh⟩,⟨YW,Xi⟩,⟨Xo,Xn,Xm⟩,⟨YZ,YY,YX⟩⟩,Vt,Vp,UO,Vs,Sr,VY,Vu,Vo,WP,Vq,WQ,Vr,⟨WT,WS,WR⟩,UM,UL⟩) r.nodes }) a (QV q_l),0):=PU hsm.1 ey sy h30;exact ⟨_,M2,_,rfl,hm2,hw.cnt (H':=hb5++H) jF,by rw [e9];exact congrArg (Value.int .i64) h30,by rw [e9];exact hR5.mono jD (Mem.le.refl _)⟩
  ·refine S9 ?_;refine ZH fun w hw=>?_;have e9:RF r a kind=_:=HG hsm.1 jE;exact ⟨_,M2,_,rfl,hm2,hw.cnt (H':=((gb,Yp [.one (.int .i64 r.copies),.one (.map (some mb)),.one (.pointer (some ⟨bb,0,none⟩))] 78)::(mb,o)::hb)++H) jF,by rw [e9];rfl,by rw [e9];exact RingIs.intro (hbag.mono jD) hom (hri.mono hm2)⟩
end Go.Proofs.YtglnjnacodgmaaaGreatDoor
namespace Go.Esp
open Go.Proofs Go.Shelf Go.RowKit Go.Lib Go.Sort
theorem Ja (k:IntKind):∀ l:List Int,ZV (l.map (WC k))=l.map (Value.int k)
 | []=>rfl
 | x::l=>by
  have:=Ja k l;simp only [D3,ZV,this];rfl
theorem Zbc {β:Type} [Inhabited β] {enc:β→Value} {F:Array β} {M:Mem} {H:Hp} {w:World} {b T:Nat} {cur:Array Value} (hw:St M ((b,.cells cur T (0,0))::H) w) (n:Nat) (os:Array Obj) :
 St M ((b,.cells (putCells enc 0 F cur) T (0,0))::H) (grow (putRow enc (Sort.ahead w n) b 0 F) os):=by
 have hb:=hw.own b _ (.head _);have hlt:=(E4.1 hb).1;refine hw.upd .head ?_ (fun c hc x hx=>?_) ⟨rfl,rfl,rfl,Nat.le_add_right _ _⟩
 ·show ((w.heap.modify b _)++os)[b]?=_;rw [Array.getElem?_append_left (by simpa using hlt),Array.getElem?_modify,A6 rfl,hb];rfl
 ·show ((w.heap.modify b _)++os)[c]?=_;grind
def Rn (l:List Int):List Int:=l.mergeSort fun x y=>decide (x≤y)
theorem NV (l:List Int):(Rn l).length=l.length:=List.length_mergeSort _
theorem Zbd (l:List Int):(Rn l).Perm l:=List.mergeSort_perm _ _
theorem Eo (l:List Int):(Rn l).Pairwise (·≤·):=by
 have:=List.pairwise_mergeSort (le:=fun x y:Int=>decide (x≤y)) (fun a b c h1 h2=>by simp at *;omega) (fun a b=>by simp;omega) l;exact this.imp fun h=>by simpa using h
theorem Zmx {l l':List Int} (hp:l.Perm l') (hs:l'.Pairwise (·<·)):Rn l=l':=by
 refine List.Perm.eq_of_pairwise (le:=(·≤·)) ?_ (Eo l) (hs.imp fun h=>Int.le_of_lt h) ((Zbd l).trans hp);grind
theorem Zmw {P:Program} {ρ:Ren} (L:Lays.n189 P ρ) {T b c:Nat} {l:List Int} {hs:Hp} (ho:OSl T 1 (.slice (some ⟨b,0,none⟩) l.length c) hs (l.map (WC .i64))) (hl:l.length≤1000000) (M:Mem) :
 Fh P (ρ.f 189) [.slice (some ⟨b,0,none⟩) l.length c] M hs (fun M' v Hout=>M'=M∧v=.tuple #[]∧OSl T 1 (.slice (some ⟨b,0,none⟩) l.length c) Hout ((Rn l).map (WC .i64))):=by
 obtain ⟨cur,rfl,hl0,hlens,hle,hcm,hcs,htk⟩:=ho.inv;have hml:(l.map (WC .i64)).length=l.length:=A8 ..;rw [hml] at hle htk;rw [Ja,Nat.mul_one] at htk;intro H w hw;have hb:=hw.own b _ (.head _);have hlt:=(E4.1 hb).1;have hH:Holds (Value.int .i64) w b 0 l.toArray:=by
  intro j hj;have hj':j<l.length:=by simpa using hj
  refine ⟨?_,?_⟩
  ·unfold World.cell?;simp only [hb,F2,id];have h9:(List.take l.length cur.toList)[j]?=(List.map (Value.int .i64) l)[j]?:=by rw [htk]
   rw [I1,A6 hj',E6,A7 hj',E9,Array.getElem?_toList] at h9;rw [h9,getElem!_pos l.toArray j hj];simp
  ·unfold World.frozen?;simp only [hb];simp
 have key:=Any.slices_Sort_int L b 0 c l w hH hlt jD;refine key.mono ?_;rintro e w' ⟨rfl,n,os,rfl⟩;have hst:=Zbc (enc:=Value.int .i64) (F:=(Rn l).toArray) hw n os;refine ⟨_,M,[(b,.cells (putCells (Value.int .i64) 0 (Rn l).toArray cur) T (0,0))],rfl,Mem.le.refl M,hst,rfl,rfl,?_⟩;have hln:((Rn l).map (WC .i64)).length=l.length:=by rw [A8,NV]
 have hlens':lens 1 ((Rn l).map (WC .i64)):=fun r hr=>by
  obtain ⟨x,hx,rfl⟩:=C0.1 hr;rfl
 have:=OSl.own (T:=T) b c ((Rn l).map (WC .i64)) (putCells (Value.int .i64) 0 (Rn l).toArray cur) hlens' (by rw [hln];exact hle) hcm (by simpa [putCells] using hcs) ?_
 ·rw [hln] at this;exact this
 ·rw [Ja,hln,Nat.mul_one];apply List.ext_getElem?;intro t;rw [I1];by_cases ht:t<l.length
  ·rw [A6 ht];have ht':t<(Rn l).length:=by rw [NV];exact ht
   have htc:t<cur.size:=by omega
   simp only [putCells,Array.getElem?_toList,Array.getElem?_mapIdx,E8 htc,E9];rw [A6 ⟨C3 _,by simpa using ht'⟩,E6,A7 ht'];rw [getElem!_pos _ _ (by simpa using ht')];simp
  ·rw [A4 ht,List.getElem?_eq_none];rw [A8,NV];omega
theorem Zfj {P:Program} {ρ:Ren} (L:Lays.n189 P ρ) {T n c:Nat} {ad:Option Addr} {l:List Int} {hs:Hp} (hn:n=l.length) (ho:OSl T 1 (.slice ad n c) hs (l.map (WC .i64))) (hl:l.length≤1000000) (M:Mem) :
 Fh P (ρ.f 189) [.slice ad n c] M hs (fun M' v Hout=>M'=M∧v=.tuple #[]∧OSl T 1 (.slice ad n c) Hout ((Rn l).map (WC .i64))):=by
 subst hn;cases l with
 | nil =>
  intro H w hw;refine (Any.slices_Sort_int_none L ad c w).mono ?_;rintro e w' ⟨rfl,rfl⟩;exact ⟨_,M,hs,rfl,Mem.le.refl M,hw,rfl,rfl,by simpa [Rn] using ho⟩
 | cons x l =>
  obtain ⟨b,rfl⟩:=ho.addr jQ;exact Zmw L ho hl M
end Go.Esp
namespace Go.Proofs
open Go.Shelf
def Tryz.sortIL_ren:Go.Shelf.Ren:=⟨fun|189=>36|125=>75|257=>74|128=>134|129=>135|294=>125|295=>126|296=>127|297=>128|298=>129|299=>130|216=>131|300=>132|301=>133|328=>178|329=>179|330=>180|331=>181|332=>182|215=>86|343=>211|n=>n,fun|28=>32|3=>3|46=>136|0=>0|51=>152|53=>42|4=>4|183=>185|182=>184|131=>60|5=>5|9=>9|218=>238|222=>225|228=>272|229=>273|n=>n,fun|n=>n⟩
theorem Tryz.sortIL:Go.Proofs.Lays.n189 Tryz.prog Tryz.sortIL_ren:={
 mixed:=by kernel_rfl
 f125:=Tryz.func75.trans (congrArg some (by kernel_rfl))
 f128:=Tryz.func134.trans (congrArg some (by kernel_rfl))
 f129:=Tryz.func135.trans (congrArg some (by kernel_rfl))
 f189:=Tryz.func36.trans (congrArg some (by kernel_rfl))
 f215:=Tryz.func86.trans (congrArg some (by kernel_rfl))
 f216:=Tryz.func131.trans (congrArg some (by kernel_rfl))
 f257:=Tryz.func74.trans (congrArg some (by kernel_rfl))
 f294:=Tryz.func125.trans (congrArg some (by kernel_rfl))
 f295:=Tryz.func126.trans (congrArg some (by kernel_rfl))
 f296:=Tryz.func127.trans (congrArg some (by kernel_rfl))
 f297:=Tryz.func128.trans (congrArg some (by kernel_rfl))
 f298:=Tryz.func129.trans (congrArg some (by kernel_rfl))
 f299:=Tryz.func130.trans (congrArg some (by kernel_rfl))
 f300:=Tryz.func132.trans (congrArg some (by kernel_rfl))
 f301:=Tryz.func133.trans (congrArg some (by kernel_rfl))
 f328:=Tryz.func178.trans (congrArg some (by kernel_rfl))
 f329:=Tryz.func179.trans (congrArg some (by kernel_rfl))
 f330:=Tryz.func180.trans (congrArg some (by kernel_rfl))
 f331:=Tryz.func181.trans (congrArg some (by kernel_rfl))
 f332:=Tryz.func182.trans (congrArg some (by kernel_rfl))
 f343:=Tryz.func211.trans (congrArg some (by kernel_rfl))
 t0:=Tryz.underlying0
 a0:=Tryz.isAgg0
 z0:=Tryz.sizeOf0
 v0:=Tryz.zeroValue0
 t3:=Tryz.underlying3
 a3:=Tryz.isAgg3
 z3:=Tryz.sizeOf3
 v3:=Tryz.zeroValue3
 t4:=Tryz.underlying4
 a4:=Tryz.isAgg4
 z4:=Tryz.sizeOf4
 v4:=Tryz.zeroValue4
 t5:=Tryz.underlying5
 a5:=Tryz.isAgg5
 z5:=Tryz.sizeOf5
 v5:=Tryz.zeroValue5
 t9:=Tryz.underlying9
 a9:=Tryz.isAgg9
 z9:=Tryz.sizeOf9
 v9:=Tryz.zeroValue9
 t28:=Tryz.underlying32
 a28:=Tryz.isAgg32
 z28:=Tryz.sizeOf32
 v28:=Tryz.zeroValue32
 t46:=Tryz.underlying136
 a46:=Tryz.isAgg136
 z46:=Tryz.sizeOf136
 v46:=Tryz.zeroValue136
 t51:=Tryz.underlying152
 a51:=Tryz.isAgg152
 z51:=Tryz.sizeOf152
 v51:=Tryz.zeroValue152
 t53:=Tryz.underlying42
 a53:=Tryz.isAgg42
 z53:=Tryz.sizeOf42
 v53:=Tryz.zeroValue42
 t131:=Tryz.underlying60
 a131:=Tryz.isAgg60
 z131:=Tryz.sizeOf60
 v131:=Tryz.zeroValue60
 t182:=Tryz.underlying184
 a182:=Tryz.isAgg184
 z182:=Tryz.sizeOf184
 v182:=Tryz.zeroValue184
 t183:=Tryz.underlying185
 a183:=Tryz.isAgg185
 z183:=Tryz.sizeOf185
 v183:=Tryz.zeroValue185
 t218:=Tryz.underlying238
 a218:=Tryz.isAgg238
 z218:=Tryz.sizeOf238
 v218:=Tryz.zeroValue238
 t222:=Tryz.underlying225
 a222:=Tryz.isAgg225
 z222:=Tryz.sizeOf225
 v222:=Tryz.zeroValue225
 t228:=Tryz.underlying272
 a228:=Tryz.isAgg272
 z228:=Tryz.sizeOf272
 v228:=Tryz.zeroValue272
 t229:=Tryz.underlying273
 a229:=Tryz.isAgg273
 z229:=Tryz.sizeOf273
 v229:=Tryz.zeroValue273 }
end Go.Proofs
namespace Go.Proofs.YtglnjnacodgmaaaGreatDoor
open Go.Esp
theorem Zqd (M:Mem) {n c:Nat} {ad:Option Addr} {l:List Int} {hs:Hp} (hn:n=l.length) (ho:OSl 3 1 (.slice ad n c) hs (l.map (WC .i64))) (hl:l.length≤1000000):Fh Tryz.prog 36 [.slice ad n c] M hs (fun M' v Hout=>M'=M∧v=.tuple #[]∧OSl 3 1 (.slice ad n c) Hout ((Rn l).map (WC .i64))) :=
 Zfj Tryz.sortIL hn ho hl M
theorem JU (M:Mem) (gb:Nat) (N:Int) (r:Rg) (Hb:Hp) (hR:RingIs gb N r M Hb):Fo Tryz.prog 11 [.pointer (some ⟨gb,0,none⟩)] M Hb (fun M' v=>∃ s:Sl Int,v=s.val∧s.l=XW r∧SlK M' (WC .i64) 1 s):=by
 obtain ⟨mb,bb,o,jl,hb,rfl,hbag,hom,hri⟩:=hR;have hjl:jl.length≤16:=by have:=hri.len;have:=hri.few;omega
 refine Mv (fun H=>(gb,Yp [.one (.int .i64 r.copies),.one (.map (some mb)),.one (.pointer (some ⟨bb,0,none⟩))] 78)::(mb,o)::(hb++H)) (fun _=>by simp only [B5,B4,B6]) Tryz.func11 rfl Tryz.ntmps11 rfl ?_;intro H;refine S12 ?_;refine Xb (fun hc1=>?_) (fun hc1=>?_)
 ·skip
  (exfalso;simp [eqX] at hc1;done)
 ·skip
  refine S14 ?_;refine Zpu rfl rfl rfl Tryz.underlying76 jB hom rfl ?_;intro r1 oi1 hit1;refine S3 ?_;refine VG [3,11,2] ?_;refine XV (Hin:=[(r1,oi1)]) (.succ .zero) jA (fun (k:Nat) M1 h1 z=>∃ (sv:JM ZM) (oi:Obj) (v:Value) (hs:Hp),M1=M∧z=[(3,v)]∧k=sv.length∧itJ ZM.enc mb oi o jl sv∧OSl 3 1 v hs ((sv.map (·.1)).map (WC .i64))∧h1=(r1,oi)::hs) (fun k=>jl.length-k) (0) (⟨[],oi1,_,[],rfl,rfl,rfl,hit1,OSl.nil,rfl⟩) ?_;rintro k M1 h1 z hm1 ⟨sv,oi,v0,hs,hM1,rfl,hk,hit,ho,rfl⟩;obtain rfl:=hM1.symm;obtain ⟨ad0,cp0,rfl⟩:=ho.valL;have hsl:=hit.len;have hml:((sv.map (·.1)).map (WC .i64)).length=(sv.map (·.1)).length:=A8 ..;have hml2:(sv.map (·.1)).length=sv.length:=A8 ..;refine S2 ?_;refine Zuq rfl rfl rfl jB jB hit rfl ?_ ?_
  ·intro p oi2 hp hit2;obtain ⟨pk,pv⟩:=p;refine ⟨_,jH,?_⟩;refine S10 ?_;refine Zpw rfl rfl rfl jB jB hit2 rfl ?_;refine Stp ?_;refine Xs 15 rfl (show MC pk=.int .i64 pk from rfl) ?_;refine S6 ?_;refine YK rfl rfl F.elem32 F.zero3 rfl rfl (.cons rfl jG .nil) rfl rfl jK rfl ?_;intro b2 hob3;refine Vc (m:=1000000) rfl rfl rfl rfl rfl F.elem32 F.zero3 zH rfl jE jA (Src.own hob3.lens jN rfl jB) jX jM rfl ?_;intro v6 hs5 ho4;obtain ⟨adv6,cpv6,rfl⟩:=ho4.val;refine S3 ?_;refine YO (a':=[(3,_)]) (k+1) (((r1,oi2)::hs5)) (.cons (k:=3) rfl (.cons (k:=11) rfl (.cons (k:=2) rfl (.nil)))) jO (fun w hw=>by first|exact hw|exact hw.c) ?_ ?_
   ·refine ⟨sv++[(pk,pv)],oi2,_,_,rfl,rfl,by simp [hk],hit2,?_,rfl⟩;rw [C6,C6];exact ho4
   ·have h9:=hit2.len;simp at h9;omega
  ·intro hperm;refine S11 ?_;refine Xv (l:=[0,1]) (Hin:=hs) jA rfl ?_;refine Stp ?_;refine We (Zqd M rfl ho jD) ?_;rintro _ M3 hs9 hm3 ⟨hM3,rfl,ho9⟩;subst M3;refine S9 ?_;refine ZH fun w hw=>?_;have hw9:St M (hs9++(((gb,Yp [.one (.int .i64 r.copies),.one (.map (some mb)),.one (.pointer (some ⟨bb,0,none⟩))] 78)::(mb,o)::hb)++H)) w:=hw.c;obtain ⟨M9,g1,g2,g3⟩:=ho9.frz hw9;exact ⟨_,M9,rfl,g1,g2,⟨ad0,cp0,Rn (sv.map (·.1))⟩,(by show Value.slice ad0 _ cp0=Value.slice ad0 (Rn (sv.map (·.1))).length cp0;rw [NV]),Zmx ((hperm.map _).trans hri.keys) hri.rise,g3⟩
theorem Ew (M:Mem) (gb:Nat) (N:Int) (r:Rg) (Hb:Hp) (hR:RingIs gb N r M Hb) (hN:N+1000000≤1000000000000000):Fh Tryz.prog 35 [.pointer (some ⟨gb,0,none⟩)] M Hb (fun M' v Hb'=>v=.tuple #[]∧RingIs gb (N+1000000) (VI r) M' Hb'):=by
 refine YI (fun H=>Hb++H) (fun _=>rfl) Tryz.func35 rfl Tryz.ntmps35 rfl ?_;intro H;refine Stp ?_;refine Xv (l:=[0,1]) (Hin:=Hb) jA rfl ?_;refine Stp ?_;refine We (Dr M gb N r Hb hR 10000 ⟨B9 _,B9 _⟩ jD) ?_;rintro _ M0 hb1 hm0 ⟨rfl,hR0⟩;refine S5 ?_;refine PG (JU M0 gb _ _ hb1 hR0) ?_;rintro _ M9 hm9 ⟨⟨l_a,l_c,l_l⟩,rfl,el,k_l⟩;have s_l:=k_l.h1;try simp only at s_l el
 have n_l:(l_l.map (WC .i64)).length=l_l.length:=A8 ..;have m_l:l_l.length≤9223372036854775807:=k_l.h2;have c_l:l_l.length≤16:=by have:=hR0.few;have h9:=A9 List.length el;simp only [XW,A8] at h9;omega
 simp only [Sl.val];refine S5 ?_;refine VG [11,10,9,0] ?_;refine XV (Hin:=hb1) (.succ .zero) jA (fun (i:Nat) M1 h1 z=>z=[(11,.int .i64 (i:Int))]∧i≤l_l.length∧RingIs gb (N+10000+30003 * (i:Int)) (((XW (Va 10000 r)).take i).foldl Im (Va 10000 r)) M1 h1) (fun i=>l_l.length-i) (0) (⟨rfl,by omega,by rw [List.take_zero,List.foldl_nil];exact hR0.mono jD hm9⟩) ?_;rintro i M1 h1 z hm1 ⟨rfl,hi,hR1⟩;obtain ⟨r1,hr1⟩:∃ r1,((XW (Va 10000 r)).take i).foldl Im (Va 10000 r)=r1:=⟨_,rfl⟩
 rw [hr1] at hR1;have s_l1:=s_l.mono hm1;refine S6 ?_;refine Xb (cT fun hc1=>?_) (cF fun hc1=>?_)
 ·refine S8 ?_;obtain ⟨a,ha⟩:∃ a,l_l[i]'jD=a:=⟨_,rfl⟩
  rw [ha];refine S5 ?_;refine YK rfl rfl F.elem32 F.zero3 rfl rfl (.cons rfl jG (.cons rfl jG (.cons rfl jG .nil))) rfl rfl jK rfl ?_;intro b2 hob3;refine S5 ?_;refine VG [17,16,15,3,14,13,12,11,10,9,0] ?_;refine XV (Hin:=h1) (.succ .zero) jA (fun (j:Nat) M2 h2 z=>z=[(17,.int .i64 (j:Int))]∧j≤3∧RingIs gb (N+10000+30003 * (i:Int)+10001 * (j:Int)) ((([1,3,2]:List Int).take j).foldl (UV a) r1) M2 h2) (fun j=>3-j) (0) (⟨rfl,by omega,by simpa using hR1⟩) ?_;rintro j M2 h2 z hm2 ⟨rfl,hj,hR2⟩;obtain ⟨r2,hr2⟩:∃ r2,(([1,3,2]:List Int).take j).foldl (UV a) r1=r2:=⟨_,rfl⟩
  rw [hr2] at hR2;refine S6 ?_;refine Xb (cT fun hc4=>?_) (cF fun hc4=>?_)
  ·refine S7 ?_;have hob9:OSl 3 1 _ _ (([1,3,2]:List Int).map (WC .i64)):=hob3;refine S5 ?_;refine Xv (l:=[0,1,2,3]) (Hin:=h2) jA rfl ?_;refine S3 ?_;refine We (BV M2 gb _ r2 h2 hR2 a _ jD) ?_;rintro _ M3 hb3 hm3 ⟨rfl,hR3⟩;refine S2 ?_;refine Xv (l:=[0,1]) (Hin:=hb3) jA rfl ?_;refine Stp ?_;refine We (Dr M3 gb _ _ hb3 hR3 10000 ⟨B9 _,B9 _⟩ jD) ?_;rintro _ M4 hb4 hm4 ⟨rfl,hR4⟩;refine S7 ?_;refine YO (a':=[(17,_)]) (j+1) (hb4) (.cons (k:=17) rfl (.cons (k:=16) rfl (.cons (k:=15) rfl (.cons (k:=3) rfl (.cons (k:=14) rfl (.cons (k:=13) rfl (.cons (k:=12) rfl (.cons (k:=11) rfl (.cons (k:=10) rfl (.cons (k:=9) rfl (.cons (k:=0) rfl (.nil)))))))))))) ((hm2.trans hm3).trans hm4) (fun w hw=>by first|exact hw|exact hw.c) ?_ ?_
   ·refine ⟨rfl,by omega,?_⟩;rw [C9,A7 (show j<([1,3,2]:List Int).length by simpa using (show j<3 by omega)),Option.toList_some,I4,hr2];exact hR4.mono jD (Mem.le.refl _)
   ·omega
  ·refine S10 ?_;refine YO (a':=[(11,_)]) (i+1) (h2) (.cons (k:=11) rfl (.cons (k:=10) rfl (.cons (k:=9) rfl (.cons (k:=0) rfl (.nil))))) (hm1.trans hm2) (fun w hw=>by first|exact hw|exact hw.c) ?_ ?_
   ·refine ⟨rfl,by omega,?_⟩;obtain rfl:j=3:=by omega
    rw [C9,A7 (show i<(XW (Va 10000 r)).length by rw [← el];omega),Option.toList_some,I4,hr1];refine RingIs.mono ?_ (show N+10000+30003 * (i:Int)+10001 * ((3:Nat):Int)≤_ by omega) (Mem.le.refl _);rw [← hr2] at hR2;have e9:(XW (Va 10000 r))[i]'(by rw [← el];omega)=a:=by simp only [← el];exact ha
    rw [e9];exact hR2
   ·omega
 ·refine S4 ?_;refine ZH fun w hw=>?_;obtain rfl:i=l_l.length:=by omega
  rw [← hr1] at hR1;have e8:(XW (Va 10000 r)).take l_l.length=XW (Va 10000 r):=by rw [← el,G0]
  rw [e8] at hR1;exact ⟨_,M1,h1,rfl,(hm0.trans hm9).trans hm1,hw.c,rfl,hR1.mono jD (Mem.le.refl _)⟩
end Go.Proofs.YtglnjnacodgmaaaGreatDoor
namespace Go.Proofs.YtglnjnacodgmaaaGreatDoor.K
open Go.Esp
end Go.Proofs.YtglnjnacodgmaaaGreatDoor.K
namespace Go.Proofs.YtglnjnacodgmaaaGreatDoor.K
open Go.Esp
end Go.Proofs.YtglnjnacodgmaaaGreatDoor.K
namespace Go.Proofs.YtglnjnacodgmaaaGreatDoor.K
open Go.Esp
theorem F.ok98:Ta Tryz.prog 98=true:=by kernel_rfl
theorem Circ_ok (M:Mem) (l:(Sl Zr)) (hl0:SlK M Zr.segs 21 l):Fs Tryz.prog 55 [Sl.val l] M (fun v=>v=Value.bool (decide (Xk l.l))):=by
 obtain ⟨l_a,l_c,l_l⟩:=l;have k_l:SlK M Zr.segs 21 ⟨l_a,l_c,l_l⟩:=hl0;have s_l:SlM M l_a (l_l.map Zr.segs) 21:=k_l.h1;have n_l:(l_l.map Zr.segs).length=l_l.length:=A8 ..;have m_l:l_l.length≤9223372036854775807:=k_l.h2;have c_l:l_l.length≤l_c:=k_l.h3;refine Xa Tryz.func55 rfl Tryz.ntmps55 rfl ?_;intro H;refine S12 ?_;refine YE 9 (cT fun hc1=>?_) (cF fun hc1=>?_)
 ·refine S14 ?_;refine ZH fun w hw=>?_;refine ⟨_,rfl,(hw.c),?_⟩;clear hw;refine A9 Value.bool ?_;grind [Xk]
 ·refine S6 ?_;refine Xb (cT fun hc2=>?_) (cF fun hc2=>?_)
  ·refine S7 ?_;refine ZH fun w hw=>?_;refine ⟨_,rfl,(hw.c),?_⟩;clear hw;refine A9 Value.bool ?_;grind [Xk]
  ·refine S16 ?_;refine VG [16,3,15,14,2,0] ?_;refine XV (Hin:=[]) (.succ (.succ .zero)) jA (fun (k:Nat) M1 h1 z=>∃ v,M1=M∧z=[(16,.int .i64 (k:Int)),(3,v)]∧k≤l_l.length∧Uv (l_l.take k)∧OSl 3 1 v h1 (((l_l.take k).map Zr.addr).map (WC .i64))) (fun k=>l_l.length-k) (0) (⟨_,rfl,rfl,by omega,by simp [Uv],OSl.nil⟩) ?_;rintro k M1 h1 z hm1 ⟨v1,hM1,rfl,hk,hI,ho⟩;subst hM1;obtain ⟨ad1,cp1,rfl⟩:=ho.valL;have hlk:(l_l.take k).length=k:=by rw [D8];omega
   have hlm:(((l_l.take k).map Zr.addr).map (WC .i64)).length=k:=by simp;omega
   refine S6 ?_;refine Xb (cT fun hc3=>?_) (cF fun hc3=>?_)
   ·refine S10 ?_;intro b4;refine S6 ?_;refine Ya (l:=[0,1,2,3,4,5,6,7,8,9,10,11,12,13,14,15,16,17,18,19,20,21,22,23,24,25,26,27,28,29]) #[0,1,3,7,15,31,63,127,255,511,511,1535,4095,8191,16383,32767,65535,131071,262143,262143,786431,2097151,4194303,8388607,262143,17039359,67108863,134217727,268435455,536870911] _ rfl jI jI St.drawn (fun _ h=>h) ?_;refine S4 ?_;refine YE 24 (cT fun hc5=>?_) (cF fun hc5=>?_)
    ·refine S41 ?_;refine ZH fun w hw=>?_;refine ⟨_,rfl,(hw.c),?_⟩;refine A9 Value.bool ?_;(have hd:=Ph (l:=l_l) (k:=k) jD;have hp:=Kn (l:=l_l);grind [Xk])
    ·refine S5 ?_;refine YE 29 (cT fun hc6=>?_) (cF fun hc6=>?_)
     ·refine S36 ?_;refine ZH fun w hw=>?_;refine ⟨_,rfl,(hw.c),?_⟩;refine A9 Value.bool ?_;(have hd:=Ph (l:=l_l) (k:=k) jD;have hp:=Kn (l:=l_l);grind [Xk])
     ·refine S3 ?_;refine PG (QO _ h1 ⟨ad1,cp1,(l_l.take k).map Zr.addr⟩ _ (ho.rd _) jU) ?_;rintro _ M1 _ ⟨hM1,rfl⟩;subst M1;refine S2 ?_;refine YE 35 (cT fun hc7=>?_) (cF fun hc7=>?_)
      ·refine S30 ?_;refine ZH fun w hw=>?_;refine ⟨_,rfl,(hw.c),?_⟩;refine A9 Value.bool ?_;(have hd:=Ph (l:=l_l) (k:=k) jD;have hp:=Kn (l:=l_l);grind [Xk])
      ·refine S3 ?_;refine YE 38 (cT fun hc8=>?_) (cF fun hc8=>?_)
       ·refine S8 ?_;refine Vn (Ox _ _ _) ?_;rintro _ rfl;refine S5 ?_;refine Xb (eT fun hc9=>?_) (eF fun hc9=>?_)
        ·refine S12 ?_;refine ZH fun w hw=>?_;refine ⟨_,rfl,(hw.c),?_⟩;refine A9 Value.bool ?_;(have hd:=Ph (l:=l_l) (k:=k) jD;have hp:=Kn (l:=l_l);grind [Xk])
        ·refine S6 ?_;refine YK rfl rfl F.elem32 F.zero3 rfl rfl (.cons rfl jG .nil) rfl rfl jK rfl ?_;intro b10 hob11;refine Vc (m:=1000000) rfl rfl rfl rfl rfl F.elem32 F.zero3 zH rfl jE jA (Src.own hob11.lens (by (simp [ZV,Segs.cells,Seg.cells,Value.oneCell'];done)) rfl jB) jX jM rfl ?_;intro v14 hs13 ho12;obtain ⟨adv14,cpv14,rfl⟩:=ho12.val;refine S8 ?_;refine YO (a':=[(16,_),(3,_)]) (k+1) (hs13) (.cons (k:=16) rfl (.cons (k:=3) rfl (.cons (k:=15) rfl (.cons (k:=14) rfl (.cons (k:=2) rfl (.cons (k:=0) rfl (.nil))))))) jO (fun w hw=>by first|exact hw|exact hw.c) ?_ ?_
         ·refine ⟨_,rfl,rfl,by omega,?_,?_⟩
          ·have hd:=Ph (l:=l_l) (k:=k) jD;grind
          ·have e9:(((l_l.take (k+1)).map Zr.addr).map (WC .i64))=(((l_l.take k).map Zr.addr).map (WC .i64))++[WC .i64 l_l[k].addr]:=by rw [NS _ jD,C6];rfl
           rw [e9];assumption
         ·omega
       ·refine S21 ?_;refine YK rfl rfl F.elem32 F.zero3 rfl rfl (.cons rfl jG .nil) rfl rfl jK rfl ?_;intro b15 hob16;refine Vc (m:=1000000) rfl rfl rfl rfl rfl F.elem32 F.zero3 zH rfl jE jA (Src.own hob16.lens (by (simp [ZV,Segs.cells,Seg.cells,Value.oneCell'];done)) rfl jB) jX jM rfl ?_;intro v19 hs18 ho17;obtain ⟨adv19,cpv19,rfl⟩:=ho17.val;refine S8 ?_;refine YO (a':=[(16,_),(3,_)]) (k+1) (hs18) (.cons (k:=16) rfl (.cons (k:=3) rfl (.cons (k:=15) rfl (.cons (k:=14) rfl (.cons (k:=2) rfl (.cons (k:=0) rfl (.nil))))))) jO (fun w hw=>by first|exact hw|exact hw.c) ?_ ?_
        ·refine ⟨_,rfl,rfl,by omega,?_,?_⟩
         ·have hd:=Ph (l:=l_l) (k:=k) jD;grind
         ·have e9:(((l_l.take (k+1)).map Zr.addr).map (WC .i64))=(((l_l.take k).map Zr.addr).map (WC .i64))++[WC .i64 l_l[k].addr]:=by rw [NS _ jD,C6];rfl
          rw [e9];assumption
        ·omega
   ·refine S11 ?_;refine ZH fun w hw=>?_;refine ⟨_,rfl,(hw.c),?_⟩;refine A9 Value.bool ?_;(have hk9:k=l_l.length:=jD;subst hk9;grind [Xk,G0])
theorem Zlk (M:Mem) (Hin:Hp) (g:FuncId) (caps:List Value) (p:Nat→Bool) (n:Nat) (hn:n≤1000000000) (hok:Ta Tryz.prog g=true) (hc:∀ i,i<n→Fo Tryz.prog g ([.int .i64 (i:Int)]++caps) M Hin (fun M' v=>M'=M∧v=.bool (p i))) (hmono:∀ i j,i≤j→j<n→p i=true→p j=true):Fo Tryz.prog 97 [.int .i64 (n:Int),.func (.func g) #[] caps.toArray] M Hin (fun M' v=>M'=M∧v=.int .i64 (Qj p n:Nat)):=by
 refine VT Tryz.func97 rfl Tryz.ntmps97 rfl ?_;intro H;refine S14 ?_;refine VG [5,6,4,1] ?_;refine Un (.succ (.succ .zero)) (fun (x:Nat×Nat) z=>z=[(5,.int .i64 (x.1:Int)),(6,.int .i64 (x.2:Int))]∧x.1≤x.2∧x.2≤n∧(∀ y,y<x.1→p y=false)∧(x.2<n→p x.2=true)) (fun x=>x.2-x.1) ((0,n)) (⟨rfl,C3 _,B9 _,fun y h=>(by cases h),fun h=>jD⟩) ?_;rintro ⟨a,b⟩ z ⟨hz,h1,h2,h3,h4⟩;subst hz;refine S8 ?_;refine Xb (fun hc1=>?_) (fun hc1=>?_)
 ·skip
  replace hc1:=dT hc1;refine S9 ?_;refine VK rfl rfl rfl rfl jM (Uw 1 jM) rfl rfl ?_;refine Stp ?_;have e9:((a:Int)+(b:Int)) / 2 ^ 1=(((a+b) / 2:Nat):Int):=by omega
  rw [e9];refine S7 ?_;refine GN rfl rfl rfl hok rfl rfl (hc ((a+b) / 2) jD) jA (XK rfl) ?_;rintro _ M1 _ ⟨hM1,rfl⟩;subst M1;refine S3 ?_;refine Xb (fun hc2=>?_) (fun hc2=>?_)
  ·simp only [Bool.not_eq_true',Bool.not_eq_false'] at hc2;have hP:=hc2;refine S6 ?_;refine VX (a':=[(5,_),(6,_)]) (((a+b) / 2+1,b)) (.cons (k:=5) rfl (.cons (k:=6) rfl (.cons (k:=4) rfl (.cons (k:=1) rfl (.nil))))) (fun w hw=>by first|exact hw|exact hw.c) ?_ ?_
   ·refine ⟨rfl,(by show (a+b) / 2+1≤b;omega),h2,fun y hy=>?_,h4⟩;have hy2:y<(a+b) / 2+1:=hy;cases hpy:p y with
    |false=>rfl
    |true=>have:=hmono y ((a+b) / 2) jD jD hpy;simp_all
   ·show b-((a+b) / 2+1)<b-a;omega
  ·simp only [Bool.not_eq_true',Bool.not_eq_false'] at hc2;have hP:=hc2;refine S5 ?_;refine VX (a':=[(5,_),(6,_)]) ((a,(a+b) / 2)) (.cons (k:=5) rfl (.cons (k:=6) rfl (.cons (k:=4) rfl (.cons (k:=1) rfl (.nil))))) (fun w hw=>by first|exact hw|exact hw.c) ?_ ?_
   ·exact ⟨rfl,(by show a≤(a+b) / 2;omega),(by show (a+b) / 2≤n;omega),h3,fun _=>by simpa using hP⟩
   ·show (a+b) / 2-a<b-a;omega
 ·skip
  replace hc1:=dF hc1;refine S12 ?_;refine ZH fun w hw=>?_;refine ⟨_,M,rfl,Mem.le.refl M,hw.c,rfl,?_⟩;refine A9 (Value.int .i64) ?_;have e:a=b:=by omega
  subst e;exact A9 Nat.cast (JD h2 h3 h4).symm
theorem Zst (M:Mem) (b1 b2:Nat) (l:Sl Zr) (x:Plc) (s_l:SlM M l.a (l.l.map Zr.segs) 21) (i:Nat) (hi:i<l.l.length):Fo Tryz.prog 98 ([.int .i64 (i:Int)]++[.pointer (some ⟨b1,0,none⟩),.pointer (some ⟨b2,0,none⟩)]) M [(b2,Yp [ZU x] 36),(b1,Yp [.one l.val] 39)] (fun M' v=>M'=M∧v=.bool (pO l.l x i)):=by
 obtain ⟨l_a,l_c,l_l⟩:=l;simp only at s_l hi;refine VT Tryz.func98 rfl Tryz.ntmps98 rfl ?_;intro H;refine S6 ?_;refine Ya (l:=[0,1,2,3,4,5,6,7,8]) #[0,0,3,7,15,0,63,127,255] _ rfl jI jI St.drawn (fun _ h=>h) ?_;refine S6 ?_;refine Vn (Ox _ _ _) ?_;rintro _ rfl;refine S5 ?_;refine ZH fun w hw=>?_;exact ⟨_,M,rfl,Mem.le.refl M,hw.c,rfl,A9 Value.bool (by rw [Zgk hi];simp)⟩
theorem owner_ok (M:Mem) (l:(Sl Zr)) (x:Plc) (hl0:SlK M Zr.segs 21 l) (hc:Xk l.l):Fs Tryz.prog 56 [Sl.val l,WX [ZU x]] M (fun v=>v=Value.int .i64 (((Ve l.l x:Nat):Int))):=by
 obtain ⟨l_a,l_c,l_l⟩:=l;have k_l:SlK M Zr.segs 21 ⟨l_a,l_c,l_l⟩:=hl0;have s_l:SlM M l_a (l_l.map Zr.segs) 21:=k_l.h1;have hc1:=hc.1;simp only at hc1;refine Xa Tryz.func56 rfl Tryz.ntmps56 rfl ?_;intro H;refine S3 ?_;intro b1;refine Stp ?_;intro b2;refine S4 ?_;refine Ya (l:=[0,1,2,3,4,5,6,7]) #[0,1,0,7,0,16,63,127] _ rfl jI jI St.drawn (fun _ h=>h) ?_;refine S3 ?_;refine PG (Zlk _ _ 98 [_,_] (pO l_l x) l_l.length jD F.ok98 (fun i hi=>Zst M _ _ ⟨l_a,l_c,l_l⟩ x s_l i hi) (Zss hc.2)) ?_;rintro _ M1 _ ⟨hM1,rfl⟩;subst M1;refine S7 ?_;refine ZH fun w hw=>?_;refine ⟨_,rfl,(hw.c),?_⟩;exact A9 (Value.int .i64) (Int.natCast_emod _ _).symm
theorem Owner_ok (M:Mem) (l:(Sl Zr)) (x:Plc) (hl0:SlK M Zr.segs 21 l):Fs Tryz.prog 25 [Sl.val l,WX [ZU x]] M (fun v=>v=Zyx (EG l.l x)):=by
 obtain ⟨l_a,l_c,l_l⟩:=l;have k_l:SlK M Zr.segs 21 ⟨l_a,l_c,l_l⟩:=hl0;refine Xa Tryz.func25 rfl Tryz.ntmps25 rfl ?_;intro H;refine S3 ?_;intro b1;refine S8 ?_;refine Vn (Circ_ok _ ⟨_,_,_⟩ jE) ?_;rintro _ rfl;refine S3 ?_;refine Xb (eT fun hc2=>?_) (eF fun hc2=>?_)
 ·refine S8 ?_;refine ZH fun w hw=>?_;refine ⟨_,rfl,(hw.c),?_⟩;refine A9 Zyx (a:=(_,_)) ?_;grind [w64,EG]
 ·refine S6 ?_;refine Vn (owner_ok _ ⟨_,_,_⟩ _ jE jE) ?_;rintro _ rfl;refine S5 ?_;refine ZH fun w hw=>?_;refine ⟨_,rfl,(hw.c),?_⟩;refine A9 Zyx (a:=(_,_)) ?_;grind [w64,EG]
end Go.Proofs.YtglnjnacodgmaaaGreatDoor.K
namespace Go.Esp
def Ci (s:Zr) (id:Plc) (avoid:List Int) (p:Zr):Prop:=Uh s.id p.id id∧p.addr∉avoid
instance (s:Zr) (id:Plc) (avoid:List Int) (p:Zr):Decidable (Ci s id avoid p):=by unfold Ci;exact inferInstance
structure NearOk (s:Zr) (id:Plc) (avoid:List Int) (l:List Zr) (r:Zr×Bool):Prop where
  no:r.2=false→r.1=Yj∧∀ x∈l,¬Ci s id avoid x
  yes:r.2=true→r.1∈l∧Ci s id avoid r.1∧∀ x∈l,Ci s id avoid x→¬Uh r.1.id x.id id
theorem Zgw {s:Zr} {id:Plc} {avoid:List Int} {l:List Zr} {r:Zr×Bool} {p:Zr} (h:NearOk s id avoid l r):NearOk s id avoid (l++[p]) (Vb s id avoid r p):=by
 obtain ⟨b,f⟩:=r;unfold Vb;by_cases hc:p.addr∈avoid∨¬Uh s.id p.id id
 ·rw [A6 hc];have hn:¬Ci s id avoid p:=fun h9=>hc.elim h9.2 (fun h8=>h8 h9.1);refine ⟨fun h1=>⟨(h.no h1).1,fun x hx=>?_⟩,fun h1=>⟨C5 _ (h.yes h1).1,(h.yes h1).2.1,fun x hx hcx=>?_⟩⟩
  ·rcases B8.1 hx with hx|hx
   ·exact (h.no h1).2 x hx
   ·grind
  ·rcases B8.1 hx with hx|hx
   ·exact (h.yes h1).2.2 x hx hcx
   ·grind
 ·rw [A4 hc];have hp:Ci s id avoid p:=⟨C2 fun h9=>hc (.inr h9),fun h9=>hc (.inl h9)⟩
  by_cases hd:f=false∨Uh b.id p.id id
  ·rw [A6 (show (b,f).2=false∨Uh (b,f).1.id p.id id from hd)];refine ⟨fun h1=>(by cases h1),fun _=>⟨D0 _ (B0.2 rfl),hp,fun x hx hcx ho=>?_⟩⟩;rcases B8.1 hx with hx|hx
   ·cases f with
    | false=>exact (h.no rfl).2 x hx hcx
    | true =>
     have hb:=h.yes rfl;have ho2:Uh b.id p.id id:=hd.resolve_left jQ;have h1:=(KZ hb.2.1.1 hp.1).1 ho2;have h2:=(KZ hp.1 hcx.1).1 ho;exact hb.2.2 x hx hcx ((KZ hb.2.1.1 hcx.1).2 (Nat.lt_trans h1 h2))
   ·rw [B0.1 hx] at ho;exact ho.1 rfl
  ·rw [A4 (show ¬((b,f).2=false∨Uh (b,f).1.id p.id id) from hd)];refine ⟨fun h1=>(hd (.inl h1)).elim,fun h1=>⟨C5 _ (h.yes h1).1,(h.yes h1).2.1,fun x hx hcx=>?_⟩⟩;rcases B8.1 hx with hx|hx
   ·exact (h.yes h1).2.2 x hx hcx
   ·grind
theorem EP {s:Zr} {id:Plc} {avoid:List Int}:∀ {xs l:List Zr} {r:Zr×Bool},NearOk s id avoid l r→NearOk s id avoid (l++xs) (xs.foldl (Vb s id avoid) r)
 | [],l,r,h=>by rw [E0];exact h
 | p::xs,l,r,h=>by
  have:=EP (xs:=xs) (Zgw (p:=p) h);rw [B5] at this;exact this
theorem CP {t:Tb} {id:Plc} {avoid:List Int}:NearOk t.self id avoid (Wy t) (YJ t id avoid) :=
 EP (l:=[]) ⟨fun _=>⟨rfl,by simp⟩,fun h=>by cases h⟩
theorem KR {s p:Zr} {k:Nat}:∀ {n j:Nat},∀ i,k<i→j≤i→i<WA s p k j n→Gh s p i=true
 | 0,j,i,_,h1,h2=>by unfold WA at h2;omega
 | n+1,j,i,h0,h1,h2=>by
  unfold WA at h2;split at h2
  ·omega
  ·rename_i hc;rcases C7 j i with h|h
   ·exact KR i h0 h h2
   ·obtain rfl:i=j:=by omega
    cases ha:Gh s p i with
    | true=>rfl
    | false=>exact (hc ⟨h0,ha⟩).elim
end Go.Esp
namespace Go.Esp
def Tj (l:List ZK):IM:=l.foldl (fun m t=>VS m t.self.addr t.enc) []
theorem Jp {l:List ZK} {t:ZK}:Tj (l++[t])=VS (Tj l) t.self.addr t.enc:=by
 unfold Tj;rw [I4];rfl
theorem Dh {k:Int} {v:Value}:∀ {l:IM},(PM l k v).length=l.length
 | []=>rfl
 | (j,u)::l=>by
  unfold PM;split
  ·rfl
  ·simp [Dh]
theorem IV {k:Int} {v:Value}:∀ {l:IM},(PM l k v).map Prod.fst=l.map Prod.fst
 | []=>rfl
 | (j,u)::l=>by
  unfold PM;split
  ·rfl
  ·simp [IV]
theorem OL {k:Int}:∀ {l:IM},Xw l k=none↔k∉l.map Prod.fst
 | []=>by simp [Xw]
 | (j,u)::l=>by
  unfold Xw;by_cases h:k=j
  ·simp [h]
  ·simp [h,OL (l:=l)]
theorem Zcl {k:Int} {v:Value} {l:IM}:∀ a,a∈(VS l k v).map Prod.fst↔a∈l.map Prod.fst∨a=k:=by
 intro a;unfold VS;cases h:Xw l k with
 | none=>simp
 | some u =>
  simp only [IV];have hk:k∈l.map Prod.fst:=by
   apply C2;intro hn;rw [OL.2 hn] at h;cases h
  constructor
  ·exact .inl
  ·rintro (h|rfl)
   ·exact h
   ·exact hk
theorem Jq {l:List ZK}:∀ a,a∈(Tj l).map Prod.fst↔a∈l.map (fun t=>t.self.addr):=by
 intro a;have key:∀ (l:List ZK) (m:IM),a∈(l.foldl (fun m t=>VS m t.self.addr t.enc) m).map Prod.fst↔a∈m.map Prod.fst∨a∈l.map (fun t=>t.self.addr):=by
  intro l
  induction l with
  | nil=>intro m;simp
  | cons t l ih =>
   intro m;rw [G6,ih,Zcl,D3,B7,or_assoc]
 have:=key l [];simpa [Tj] using this
theorem Be {l:List ZK} {k:Nat} (hk:k<l.length):Tj (l.take (k+1))=VS (Tj (l.take k)) l[k].self.addr l[k].enc:=by
 rw [C9,A7 hk];exact Jp
theorem Zib {l:List ZK} {t:ZK}:(t.self.addr∉l.map (fun t=>t.self.addr)∧Tj (l++[t])=Tj l++[(t.self.addr,t.enc)])∨(t.self.addr∈l.map (fun t=>t.self.addr)∧(Tj (l++[t])).length=(Tj l).length):=by
 rw [Jp];unfold VS;cases h:Xw (Tj l) t.self.addr with
 | none=>exact .inl ⟨by rw [← Jq];exact OL.1 h,rfl⟩
 | some u =>
  refine .inr ⟨?_,by simp only [Dh]⟩;apply C2;intro hn;rw [← Jq] at hn;rw [OL.2 hn] at h;cases h
theorem Di:∀ (l:List ZK),((l.map (fun t=>t.self.addr)).Nodup→Tj l=l.map fun t=>(t.self.addr,t.enc))∧(Tj l).length≤l.length∧(¬(l.map (fun t=>t.self.addr)).Nodup→(Tj l).length<l.length):=by
 intro l;have key:∀ n,n=l.length→((l.map (fun t=>t.self.addr)).Nodup→Tj l=l.map fun t=>(t.self.addr,t.enc))∧(Tj l).length≤l.length∧(¬(l.map (fun t=>t.self.addr)).Nodup→(Tj l).length<l.length):=by
  intro n
  induction n generalizing l with
  | zero =>
   intro h;obtain rfl:=D4 h.symm;exact ⟨fun _=>rfl,B9 _,fun h=>absurd J1 h⟩
  | succ n ih =>
   intro h;rcases List.eq_nil_or_concat l with rfl|⟨r,t,rfl⟩
   ·cases h
   ·rw [List.concat_eq_append] at *;obtain ⟨h1,h2,h3⟩:=ih r (by simp at h;omega);rw [C6,List.map_singleton,H3,B3,I6];rcases Zib (l:=r) (t:=t) with ⟨g1,g2⟩|⟨g1,g2⟩
    ·rw [g2,B3,I6];refine ⟨fun ⟨hn,_⟩=>by rw [h1 hn,C6];rfl,by omega,fun hn=>?_⟩;have:¬(r.map (fun t=>t.self.addr)).Nodup:=fun h9=>hn ⟨h9,by simp,fun a ha b hb e=>by rw [B0] at hb;subst e;subst hb;exact g1 ha⟩;have:=h3 this;omega
    ·rw [g2];exact ⟨fun ⟨_,_,hn⟩=>(hn _ g1 _ (B0.2 rfl) rfl).elim,by omega,fun _=>by omega⟩
 grind
def SM (l:List ZK) (a:Int):Option ZK:=l.find? fun t=>decide (t.self.addr=a)
def Ug (l:List Tb) (a:Int):Option Tb:=l.find? fun t=>decide (t.self.addr=a)
theorem Ql {l:List ZK} {a:Int}:Ug (l.map ZK.tb) a=(SM l a).map ZK.tb:=by
 unfold Ug SM;rw [List.find?_map];rfl
theorem Mm {l:List ZK} {a:Int}:Xw (l.map fun t=>(t.self.addr,t.enc)) a=(SM l a).map ZK.enc:=by
 unfold SM
 induction l with
 | nil=>rfl
 | cons t l ih =>
  unfold Xw;by_cases h:t.self.addr=a
  ·simp [h]
  ·have h2:¬a=t.self.addr:=fun e=>h e.symm;simp [h,h2,ih]
theorem Gi {l:List ZK} {a:Int}:(Xw (l.map fun t=>(t.self.addr,t.enc)) a).isSome=(SM l a).isSome:=by
 rw [Mm];simp
theorem JE {l:List ZK} {a:Int} {t:ZK} (h:SM l a=some t):t∈l∧t.self.addr=a:=⟨List.mem_of_find?_eq_some h,by simpa using List.find?_some h⟩
def UI (l:List Tb):Prop:=l.length≤16∧(∀ t∈l,TG t)∧(l.map fun t=>t.self.addr).Nodup
instance (l:List Tb):Decidable (UI l):=by unfold UI;exact inferInstance
structure Rt where
  hops:List Int
  end_:Zr
  deriving DecidableEq
def Rt.zero:Rt:=⟨[],⟨0,0⟩⟩
def Wp (l:List Tb) (id:Plc) (most:Nat):Nat→Tb→List Int→Rt×Int
 | 0,_,_=>(Rt.zero,2)
 | n+1,t,hops =>
  if (WV t id).2 then (⟨hops,(WV t id).1⟩,0)
  else if (YJ t id []).2=false then (Rt.zero,7)
  else if most<hops.length then (Rt.zero,2)
  else match Ug l (YJ t id []).1.addr with
   | none=>(Rt.zero,5)
   | some u=>Wp l id most n u (hops++[(YJ t id []).1.addr])
section
variable {l:List Tb} {id:Plc} {most n:Nat} {t u:Tb} {hops:List Int} {p q:Zr}
theorem Pr (h:WV t id=(p,true)):Wp l id most (n+1) t hops=(⟨hops,p⟩,0):=by
 unfold Wp;rw [h];rfl
theorem Kw (h:WV t id=(p,false)) (h2:YJ t id []=(q,false)):Wp l id most (n+1) t hops=(Rt.zero,7):=by
 unfold Wp;rw [h,h2];rfl
theorem PT (h:WV t id=(p,false)) (h2:YJ t id []=(q,true)) (h3:most<hops.length):Wp l id most (n+1) t hops=(Rt.zero,2):=by
 unfold Wp;rw [h,h2];grind
theorem Lz (h:WV t id=(p,false)) (h2:YJ t id []=(q,true)) (h3:¬most<hops.length) (h4:Ug l q.addr=none):Wp l id most (n+1) t hops=(Rt.zero,5):=by
 unfold Wp;rw [h,h2];grind
theorem Pq (h:WV t id=(p,false)) (h2:YJ t id []=(q,true)) (h3:¬most<hops.length) (h4:Ug l q.addr=some u):Wp l id most (n+1) t hops=Wp l id most n u (hops++[q.addr]):=by
 conv=>lhs;unfold Wp
 grind
end
def Vk (l:List Tb) (frm:Int) (id:Plc) (most:Int):Rt×Int :=
 if UI l∧0≤most∧most≤64 then match Ug l frm with
  | none=>(Rt.zero,1)
  | some t=>Wp l id most.toNat (most.toNat+1) t [frm]
 else (Rt.zero,1)
theorem Pp {l:List Tb} {frm:Int} {id:Plc} {most:Int} (h:¬UI l):Vk l frm id most=(Rt.zero,1):=A4 fun h9=>h h9.1
theorem Ku {l:List Tb} {frm:Int} {id:Plc} {most:Int} (h:most<0∨64<most):Vk l frm id most=(Rt.zero,1):=A4 fun ⟨_,h1,h2⟩=>by omega
theorem Oy {l:List Tb} {frm:Int} {id:Plc} {most:Int} (h:Ug l frm=none):Vk l frm id most=(Rt.zero,1):=by
 unfold Vk;grind
theorem Qt {l:List Tb} {frm:Int} {id:Plc} {most:Nat} {t:Tb} (h:UI l) (hm:most≤64) (hf:Ug l frm=some t):Vk l frm id (most:Int)=Wp l id most (most+1) t [frm]:=by
 unfold Vk;grind
def BI (M:Mem) (v:Value) (r:Rt):Prop:=∃ x:YT,v=x.enc∧(⟨x.hops.l,x.end_⟩:Rt)=r∧YT.ok M x
def Ca (M:Mem) (v:Value) (r:Rt×Int):Prop:=∃ u,v=.tuple #[u,.int .i64 r.2]∧BI M u r.1
theorem TS {M:Mem}:BI M (WX [.one (.slice none 0 0),.one (.int .i64 0),ZU 0]) Rt.zero:=⟨YT.zero,rfl,rfl,YT.zero_ok M⟩
theorem Zbj {M:Mem} {s:Sl Int} {v:Value} {a:Int} {i:Plc} {r:Rt} (h:v=s.val) (k:SlK M (WC .i64) 1 s) (hr:(⟨s.l,⟨a,i⟩⟩:Rt)=r):BI M (WX [.one v,.one (.int .i64 a),ZU i]) r:=by
 subst h;exact ⟨⟨s,⟨a,i⟩⟩,rfl,hr,⟨k⟩⟩
end Go.Esp
namespace Go.Proofs.YtglnjnacodgmaaaGreatDoor
open Go.Esp
theorem F.elem66:Na Tryz.prog 66=some (41,44,112):=by kernel_rfl
theorem F.map108:RI Tryz.prog 108=some (3,41):=by kernel_rfl
theorem AI (M:Mem) (l:(Sl ZK)) (hl0:SlK M ZK.segs 44 l) (hl1:∀ y∈(l).l,ZK.ok M y):Fh Tryz.prog 57 [Sl.val l] M [] (fun M' v Hout=>M'=M∧((UI (l.l.map ZK.tb)∧∃ b o,v=.map (some b)∧Hout=[(b,o)]∧imO o (l.l.map fun t=>(t.self.addr,t.enc)))∨(¬UI (l.l.map ZK.tb)∧v=.map none∧Hout=[]))):=by
 obtain ⟨l_a,l_c,l_l⟩:=l;have k_l:SlK M ZK.segs 44 ⟨l_a,l_c,l_l⟩:=hl0;have s_l:SlM M l_a (l_l.map ZK.segs) 44:=k_l.h1;have n_l:(l_l.map ZK.segs).length=l_l.length:=A8 ..;have m_l:l_l.length≤9223372036854775807:=k_l.h2;have c_l:l_l.length≤l_c:=k_l.h3;have elt_l:∀ y∈l_l,ZK.ok M y:=hl1;refine Uu Tryz.func57 rfl Tryz.ntmps57 rfl ?_;intro H;refine S13 ?_;refine Xb (cT fun hc1=>?_) (cF fun hc1=>?_)
 ·refine S7 ?_;refine ZH fun w hw=>?_;exact ⟨_,M,[],rfl,Mem.le.refl _,hw.c,rfl,.inr ⟨fun h9=>absurd h9.1 (by rw [A8];show ¬l_l.length≤16;omega),rfl,rfl⟩⟩
 ·refine S5 ?_;intro b2;refine S12 ?_;refine VG [12,11,10,3,2,0] ?_;refine XV (Hin:=[(b2,.map #[] 0)]) (.succ .zero) jA (fun (k:Nat) M1 h1 z=>∃ o,M1=M∧z=[(12,.int .i64 (k:Int))]∧k≤l_l.length∧h1=[(b2,o)]∧imO o (Tj (l_l.take k))∧∀ j (h2:j<l_l.length),j<k→TG l_l[j].tb) (fun k=>l_l.length-k) (0) (⟨_,rfl,rfl,by omega,rfl,⟨#[],0,rfl,rfl⟩,by intro j h2 hj;omega⟩) ?_;rintro k M1 h1 z hm1 ⟨o0,hM1,rfl,hk,rfl,him,hI⟩;subst hM1;refine S6 ?_;refine Xb (cT fun hc3=>?_) (cF fun hc3=>?_)
  ·refine S9 ?_;intro b4;refine S7 ?_;refine Vn (Ce _ l_l[k] (hl1 _ (show l_l[k]∈l_l from C1 jD))) ?_;rintro _ rfl;refine S3 ?_;refine Xb (eT fun hc5=>?_) (eF fun hc5=>?_)
   ·refine S12 ?_;refine ZH fun w hw=>?_;exact ⟨_,M1,[],rfl,Mem.le.refl _,hw.c,rfl,.inr ⟨fun h9=>absurd (h9.2.1 _ (G8 (show l_l[k]∈l_l from C1 jD))) jE,rfl,rfl⟩⟩
   ·refine S8 ?_;refine LS rfl rfl rfl rfl rfl F.map108 jE jB ?_;intro o6 him7;refine ⟨_,jH,?_⟩;refine S7 ?_;refine YO (a':=[(12,_)]) (k+1) ([(b2,o6)]) (.cons (k:=12) rfl (.cons (k:=11) rfl (.cons (k:=10) rfl (.cons (k:=3) rfl (.cons (k:=2) rfl (.cons (k:=0) rfl (.nil))))))) jO (fun w hw=>by first|exact hw|exact hw.c) ?_ ?_
    ·refine ⟨_,rfl,rfl,by omega,rfl,by rw [Be (by omega:k<l_l.length)];exact him7,fun j h2 hj=>?_⟩;rcases C7 j k with h9|h9
     ·exact hI j h2 h9
     ·obtain rfl:j=k:=by omega
      assumption
    ·omega
  ·refine S9 ?_;refine Zky rfl rfl rfl rfl F.map108 jB him rfl ?_;refine S5 ?_;refine Xb (cT fun hc8=>?_) (cF fun hc8=>?_)
   ·refine S7 ?_;refine ZH fun w hw=>?_;obtain rfl:k=l_l.length:=by omega
    simp only [G0] at *;obtain ⟨q1,q2,q3⟩:=Di l_l;have hnn:((l_l.map ZK.tb).map fun t=>t.self.addr)=l_l.map fun t=>t.self.addr:=by rw [I2];rfl
    exact ⟨_,M1,[],rfl,Mem.le.refl _,hw.c,rfl,.inr ⟨fun h9=>by have h8:=h9.2.2;rw [hnn] at h8;have h7:=A9 List.length (q1 h8);rw [A8] at h7;omega,rfl,rfl⟩⟩
   ·refine S9 ?_;refine ZH fun w hw=>?_;obtain rfl:k=l_l.length:=by omega
    simp only [G0] at *;obtain ⟨q1,q2,q3⟩:=Di l_l;have hnn:((l_l.map ZK.tb).map fun t=>t.self.addr)=l_l.map fun t=>t.self.addr:=by rw [I2];rfl
    have hnd:(l_l.map fun t=>t.self.addr).Nodup:=C2 fun h9=>by have:=q3 h9;omega
    rw [q1 hnd] at him;refine ⟨_,M1,_,rfl,Mem.le.refl M1,hw.c,rfl,.inl ⟨⟨by rw [A8];(show l_l.length≤16);omega,fun t ht=>?_,by rw [hnn];exact hnd⟩,_,_,rfl,rfl,him⟩⟩;obtain ⟨x,hx,rfl⟩:=C0.1 ht;obtain ⟨j,hj,rfl⟩:=E2 hx;exact hI j hj hj
theorem F.bld68:Bld Tryz.prog 68 [[.one (.slice none 0 0)],[.one (.int .i64 0),ZU 0]]:=by rw [Uz];exact ⟨by kernel_rfl,by kernel_rfl⟩
theorem Dg (M:Mem) (l:Sl ZK) (hl0:SlK M ZK.segs 44 l) (hl1:∀ y∈l.l,ZK.ok M y) (h:UI (l.l.map ZK.tb)):Fh Tryz.prog 57 [Sl.val l] M [] (fun M' v Hout=>M'=M∧∃ b o,v=.map (some b)∧Hout=[(b,o)]∧imO o (l.l.map fun t=>(t.self.addr,t.enc))):=fun H w hw =>
 (AI M l hl0 hl1 H w hw).mono fun e w2 ⟨v,M2,Ho,g1,g2,g3,g4,g5⟩=>⟨v,M2,Ho,g1,g2,g3,g4,(g5.resolve_right (fun g6=>g6.1 h)).2⟩
theorem Zos (M:Mem) (l:Sl ZK) (hl0:SlK M ZK.segs 44 l) (hl1:∀ y∈l.l,ZK.ok M y) (h:¬UI (l.l.map ZK.tb)):Fh Tryz.prog 57 [Sl.val l] M [] (fun M' v Hout=>M'=M∧v=.map none∧Hout=[]):=fun H w hw =>
 (AI M l hl0 hl1 H w hw).mono fun e w2 ⟨v,M2,Ho,g1,g2,g3,g4,g5⟩=>⟨v,M2,Ho,g1,g2,g3,g4,(g5.resolve_left (fun g6=>h g6.1)).2⟩
theorem Zea (M:Mem) (l:(Sl ZK)) (frm:Int) (id:Plc) (most:Int) (hl0:SlK M ZK.segs 44 l) (hl1:∀ y∈(l).l,ZK.ok M y) (h:¬UI (l.l.map ZK.tb)):Esp.Fn Tryz.prog 26 [Sl.val l,.int .i64 frm,WX [ZU id],.int .i64 most] M (fun M' v=>Ca M' v (Vk (l.l.map ZK.tb) frm id most)):=by
 obtain ⟨l_a,l_c,l_l⟩:=l;have k_l:SlK M ZK.segs 44 ⟨l_a,l_c,l_l⟩:=hl0;refine WE Tryz.func26 rfl Tryz.ntmps26 rfl ?_;intro H;refine S3 ?_;intro b1;refine Stp ?_;intro b2;refine S3 ?_;refine BQ rfl ?_;refine S3 ?_;refine We (Zos M ⟨l_a,l_c,l_l⟩ k_l hl1 h) ?_;rintro vm M1 hsm hm1 ⟨hM1,rfl,rfl⟩;subst M1;refine S7 ?_;refine GM rfl rfl rfl rfl F.map108 F.zero41 rfl ?_;refine S4 ?_;intro b3;refine S10 ?_;refine YE 28 (fun hc4=>?_) (fun hc4=>?_)
 ·skip
  refine S19 ?_;refine QL ?_;refine ZH fun w hw=>?_;refine ⟨_,M,rfl,Mem.le.refl M,hw.c,?_⟩;rw [show Vk (l_l.map ZK.tb) frm id most=(Rt.zero,1) from Pp h];exact ⟨_,rfl,TS⟩
 ·skip
  (exfalso;simp [eqX] at hc4;done)
theorem Zlj (M:Mem) (l:(Sl ZK)) (frm:Int) (id:Plc) (most:Int) (hl0:SlK M ZK.segs 44 l) (hl1:∀ y∈(l).l,ZK.ok M y) (hR:UI (l.l.map ZK.tb)) (hf:SM l.l frm=none):Esp.Fn Tryz.prog 26 [Sl.val l,.int .i64 frm,WX [ZU id],.int .i64 most] M (fun M' v=>Ca M' v (Vk (l.l.map ZK.tb) frm id most)):=by
 obtain ⟨l_a,l_c,l_l⟩:=l;have k_l:SlK M ZK.segs 44 ⟨l_a,l_c,l_l⟩:=hl0;refine WE Tryz.func26 rfl Tryz.ntmps26 rfl ?_;intro H;refine S3 ?_;intro b1;refine Stp ?_;intro b2;refine S3 ?_;refine BQ rfl ?_;refine S3 ?_;refine We (Dg M ⟨l_a,l_c,l_l⟩ k_l hl1 hR) ?_;rintro vm M1 hsm hm1 ⟨hM1,bm,om,rfl,rfl,him⟩;subst M1;refine S7 ?_;refine JO (v:=(WX [.one (.int .i64 0),ZU 0,.one (.int .i64 0),ZU 0,.one (.slice none 0 0),.one (.slice none 0 0)])) (c:=false) rfl rfl rfl rfl F.map108 F.zero41 jB him ((congrArg (fun o=>Option.getD o _) (Mm (l:=l_l) (a:=frm))).trans (by rw [hf];rfl)) ((Gi (l:=l_l) (a:=frm)).trans (by rw [hf];rfl)) rfl ?_;refine S4 ?_;intro b3;refine S10 ?_;refine YE 28 (fun hc4=>?_) (fun hc4=>?_)
 ·skip
  refine S19 ?_;refine QL ?_;refine ZH fun w hw=>?_;refine ⟨_,M,rfl,Mem.le.refl M,hw.c,?_⟩;rw [show Vk (l_l.map ZK.tb) frm id most=(Rt.zero,1) from Oy (by rw [Ql,hf];rfl)];exact ⟨_,rfl,TS⟩
 ·skip
  (exfalso;simp [eqX] at hc4;done)
theorem Zli (M:Mem) (l:(Sl ZK)) (frm:Int) (id:Plc) (most:Int) (hl0:SlK M ZK.segs 44 l) (hl1:∀ y∈(l).l,ZK.ok M y) (t0:ZK) (hR:UI (l.l.map ZK.tb)) (hf:SM l.l frm=some t0):Esp.Fn Tryz.prog 26 [Sl.val l,.int .i64 frm,WX [ZU id],.int .i64 most] M (fun M' v=>Ca M' v (Vk (l.l.map ZK.tb) frm id most)):=by
 obtain ⟨l_a,l_c,l_l⟩:=l;have k_l:SlK M ZK.segs 44 ⟨l_a,l_c,l_l⟩:=hl0;obtain ⟨⟨t0a,t0i⟩,⟨t0q,t0j⟩,⟨t0sa,t0sc,t0sl⟩,⟨t0fa,t0fc,t0fl⟩⟩:=t0;have ht0:ZK.ok M (ZK.mk ⟨t0a,t0i⟩ ⟨t0q,t0j⟩ ⟨t0sa,t0sc,t0sl⟩ ⟨t0fa,t0fc,t0fl⟩):=hl1 _ (JE hf).1;have hTb0:TG (ZK.tb (ZK.mk ⟨t0a,t0i⟩ ⟨t0q,t0j⟩ ⟨t0sa,t0sc,t0sl⟩ ⟨t0fa,t0fc,t0fl⟩)):=hR.2.1 _ (List.mem_map_of_mem (JE hf).1);refine WE Tryz.func26 rfl Tryz.ntmps26 rfl ?_;intro H;refine S3 ?_;intro b1;refine Stp ?_;intro b2;refine S3 ?_;refine BQ rfl ?_;refine S3 ?_;refine We (Dg M ⟨l_a,l_c,l_l⟩ k_l hl1 hR) ?_;rintro vm M1 hsm hm1 ⟨hM1,bm,om,rfl,rfl,him⟩;subst M1;refine S7 ?_;refine JO (v:=(WX [.one (.int .i64 t0a),ZU t0i,.one (.int .i64 t0q),ZU t0j,.one (Sl.val ⟨t0sa,t0sc,t0sl⟩),.one (Sl.val ⟨t0fa,t0fc,t0fl⟩)])) (c:=true) rfl rfl rfl rfl F.map108 F.zero41 jB him ((congrArg (fun o=>Option.getD o _) (Mm (l:=l_l) (a:=frm))).trans (by rw [hf];rfl)) ((Gi (l:=l_l) (a:=frm)).trans (by rw [hf];rfl)) rfl ?_;refine S4 ?_;intro b3;refine S10 ?_;refine YE 28 (fun hc4=>?_) (fun hc4=>?_)
 ·skip
  (exfalso;simp [eqX] at hc4;done)
 ·skip
  refine S4 ?_;refine YE 32 (cT fun hc5=>?_) (cF fun hc5=>?_)
  ·refine S15 ?_;refine QL ?_;refine ZH fun w hw=>?_;refine ⟨_,M,rfl,Mem.le.refl M,hw.c,?_⟩;rw [show Vk (l_l.map ZK.tb) frm id most=(Rt.zero,1) from Ku jD];exact ⟨_,rfl,TS⟩
  ·refine S5 ?_;refine Xb (cT fun hc6=>?_) (cF fun hc6=>?_)
   ·refine S9 ?_;refine QL ?_;refine ZH fun w hw=>?_;refine ⟨_,M,rfl,Mem.le.refl M,hw.c,?_⟩;rw [show Vk (l_l.map ZK.tb) frm id most=(Rt.zero,1) from Ku jD];exact ⟨_,rfl,TS⟩
   ·refine S4 ?_;obtain ⟨mn,rfl⟩:∃ mn:Nat,most=mn:=⟨most.toNat,by omega⟩
    refine Stp ?_;refine YK rfl rfl F.elem32 F.zero3 rfl rfl (.cons rfl jG .nil) rfl rfl jK rfl ?_;intro b7 hob8;refine XN rfl rfl F.bld68 (.cons rfl jG .nil) rfl rfl ?_;refine Stp ?_;intro b9;refine S8 ?_;refine VG [12,13,11,10,9,8,6,3] ?_;refine XV (Hin:=[(b9,Yp [.one (.slice (some ⟨b7,0,none⟩) 1 1),.one (.int .i64 0),ZU 0] 68),(b7,_),(b3,Yp [.one (.int .i64 t0a),ZU t0i,.one (.int .i64 t0q),ZU t0j,.one (Sl.val ⟨t0sa,t0sc,t0sl⟩),.one (Sl.val ⟨t0fa,t0fc,t0fl⟩)] 41)]) (.succ .zero) jA (fun (k:Nat) M1 h1 z=>∃ (t:ZK) (hops:List Int) (v:Value) (hs:Hp) (b0:Bool),z=[(12,.bool b0)]∧h1=(b9,Yp [.one v,.one (.int .i64 0),ZU 0] 68)::(hs++[(b3,Yp [.one (.int .i64 t.self.addr),ZU t.self.id,.one (.int .i64 t.pred.addr),ZU t.pred.id,.one t.succ.val,.one t.fingers.val] 41)])∧ZK.ok M1 t∧TG t.tb∧hops.length=k+1∧k≤mn∧OSl 3 1 v hs (hops.map (WC .i64))∧Wp (l_l.map ZK.tb) id mn (mn+1) (ZK.tb (ZK.mk ⟨t0a,t0i⟩ ⟨t0q,t0j⟩ ⟨t0sa,t0sc,t0sl⟩ ⟨t0fa,t0fc,t0fl⟩)) [frm]=Wp (l_l.map ZK.tb) id mn (mn+1-k) t.tb hops) (fun k=>mn+1-k) (0) (⟨(ZK.mk ⟨t0a,t0i⟩ ⟨t0q,t0j⟩ ⟨t0sa,t0sc,t0sl⟩ ⟨t0fa,t0fc,t0fl⟩),[frm],_,_,_,rfl,rfl,ht0,hTb0,rfl,by omega,hob8,rfl⟩) ?_;rintro k M1 h1 z hm1 ⟨⟨⟨ta,ti⟩,⟨tq,tj⟩,⟨tsa,tsc,tsl⟩,⟨tfa,tfc,tfl⟩⟩,hops,v0,hs0,b0,rfl,rfl,hok,hTb,hhl,hk,ho,hI⟩;obtain ⟨ad0,cp0,rfl⟩:=ho.valL;have hbig:=MY (t:=(ZK.mk ⟨ta,ti⟩ ⟨tq,tj⟩ ⟨tsa,tsc,tsl⟩ ⟨tfa,tfc,tfl⟩)) hTb;rw [show mn+1-k=(mn-k)+1 by omega] at hI;simp only [List.cons_append,List.nil_append,List.append_assoc];refine S5 ?_;refine Vn (GY _ (ZK.mk ⟨ta,ti⟩ ⟨tq,tj⟩ ⟨tsa,tsc,tsl⟩ ⟨tfa,tfc,tfl⟩) id hok) ?_;rintro _ hv;obtain ⟨⟨⟨da,di⟩,db⟩,hdd⟩:∃ r,WV (ZK.tb (ZK.mk ⟨ta,ti⟩ ⟨tq,tj⟩ ⟨tsa,tsc,tsl⟩ ⟨tfa,tfc,tfl⟩)) id=r:=⟨_,rfl⟩
    rw [hdd] at hv;subst hv;refine S4 ?_;intro b10;refine S10 ?_;refine Xb (fun hc11=>?_) (fun hc11=>?_)
    ·skip
     refine Stp ?_;have hdb:db=true:=by assumption
     refine S8 ?_;refine Qr jM ?_;refine S11 ?_;refine QL ?_;refine ZH fun w hw=>?_;have hgo:=Qt (id:=id) (most:=mn) hR jD (show Ug (l_l.map ZK.tb) frm=some (ZK.tb (ZK.mk ⟨t0a,t0i⟩ ⟨t0q,t0j⟩ ⟨t0sa,t0sc,t0sl⟩ ⟨t0fa,t0fc,t0fl⟩)) by rw [Ql,hf];rfl);rw [hI] at hgo;obtain ⟨M9,s1,g1,g2,g3,g4,g5⟩:=OSl.freezeK (f:=WC .i64) (H:=H) (l:=hops) ho (hw.c);refine ⟨_,M9,rfl,hm1.trans g1,g2,?_⟩;rw [show Vk (l_l.map ZK.tb) frm id (mn:Int)=(⟨hops,⟨da,di⟩⟩,0) from hgo.trans (Pr (by rw [hdd,hdb]))];exact ⟨_,rfl,Zbj g3 g5 (by rw [g4])⟩
    ·skip
     refine S3 ?_;have hdb:db=false:=by assumption
     refine S3 ?_;refine PH (OY _ (ZK.mk ⟨ta,ti⟩ ⟨tq,tj⟩ ⟨tsa,tsc,tsl⟩ ⟨tfa,tfc,tfl⟩) id ⟨none,0,[]⟩ hok SlK.nil hbig) ?_;rintro _ M2 hm2 hv;obtain ⟨⟨⟨na,ni⟩,nb⟩,hnn⟩:∃ r,YJ (ZK.tb (ZK.mk ⟨ta,ti⟩ ⟨tq,tj⟩ ⟨tsa,tsc,tsl⟩ ⟨tfa,tfc,tfl⟩)) id []=r:=⟨_,rfl⟩
     rw [hnn] at hv;subst hv;refine S4 ?_;intro b12;refine S13 ?_;refine Xb (fun hc13=>?_) (fun hc13=>?_)
     ·skip
      refine Stp ?_;have hnb:nb=false:=by simp_all
      refine S13 ?_;refine QL ?_;refine ZH fun w hw=>?_;have hgo:=Qt (id:=id) (most:=mn) hR jD (show Ug (l_l.map ZK.tb) frm=some (ZK.tb (ZK.mk ⟨t0a,t0i⟩ ⟨t0q,t0j⟩ ⟨t0sa,t0sc,t0sl⟩ ⟨t0fa,t0fc,t0fl⟩)) by rw [Ql,hf];rfl);rw [hI] at hgo;refine ⟨_,M2,rfl,hm1.trans hm2,hw.c,?_⟩;rw [show Vk (l_l.map ZK.tb) frm id (mn:Int)=(Rt.zero,7) from hgo.trans (Kw (q:=⟨na,ni⟩) (by rw [hdd,hdb]) (by rw [hnn,hnb]))];exact ⟨_,rfl,TS⟩
     ·skip
      refine Stp ?_;have hnb:nb=true:=by simp_all
      refine S9 ?_;refine Xb (cT fun hc14=>?_) (cF fun hc14=>?_)
      ·refine S14 ?_;refine QL ?_;refine ZH fun w hw=>?_;have hgo:=Qt (id:=id) (most:=mn) hR jD (show Ug (l_l.map ZK.tb) frm=some (ZK.tb (ZK.mk ⟨t0a,t0i⟩ ⟨t0q,t0j⟩ ⟨t0sa,t0sc,t0sl⟩ ⟨t0fa,t0fc,t0fl⟩)) by rw [Ql,hf];rfl);rw [hI] at hgo;refine ⟨_,M2,rfl,hm1.trans hm2,hw.c,?_⟩;rw [show Vk (l_l.map ZK.tb) frm id (mn:Int)=(Rt.zero,2) from hgo.trans (PT (q:=⟨na,ni⟩) (by rw [hdd,hdb]) (by rw [hnn,hnb]) jD)];exact ⟨_,rfl,TS⟩
      ·refine S9 ?_;obtain ⟨⟨⟨ua,ui⟩,⟨uq,uj⟩,⟨usa,usc,usl⟩,⟨ufa,ufc,ufl⟩⟩,hu⟩:∃ t,(SM l_l na).getD ZK.zero=t:=⟨_,rfl⟩
       refine JO (v:=(WX [.one (.int .i64 ua),ZU ui,.one (.int .i64 uq),ZU uj,.one (Sl.val ⟨usa,usc,usl⟩),.one (Sl.val ⟨ufa,ufc,ufl⟩)])) (c:=(SM l_l na).isSome) rfl rfl rfl rfl F.map108 F.zero41 jB him ((congrArg (fun o=>Option.getD o _) (Mm (l:=l_l) (a:=na))).trans (by rw [show (Option.map ZK.enc (SM l_l na)).getD _=((SM l_l na).getD ZK.zero).enc from (by cases SM l_l na <;> rfl),hu];rfl)) ((Gi (l:=l_l) (a:=na)).trans zH) rfl ?_;refine S13 ?_;refine Xb (fun hc15=>?_) (fun hc15=>?_)
       ·skip
        refine Stp ?_;have hfu:SM l_l na=none:=by
         cases hq:SM l_l na with
         |none=>rfl
         |some q=>simp [hq] at *
        refine S12 ?_;refine QL ?_;refine ZH fun w hw=>?_;have hgo:=Qt (id:=id) (most:=mn) hR jD (show Ug (l_l.map ZK.tb) frm=some (ZK.tb (ZK.mk ⟨t0a,t0i⟩ ⟨t0q,t0j⟩ ⟨t0sa,t0sc,t0sl⟩ ⟨t0fa,t0fc,t0fl⟩)) by rw [Ql,hf];rfl);rw [hI] at hgo;refine ⟨_,M2,rfl,hm1.trans hm2,hw.c,?_⟩;rw [show Vk (l_l.map ZK.tb) frm id (mn:Int)=(Rt.zero,5) from hgo.trans (Lz (q:=⟨na,ni⟩) (by rw [hdd,hdb]) (by rw [hnn,hnb]) jD (by rw [Ql,hfu];rfl))];exact ⟨_,rfl,TS⟩
       ·skip
        refine S2 ?_;have hfu:SM l_l na=some (ZK.mk ⟨ua,ui⟩ ⟨uq,uj⟩ ⟨usa,usc,usl⟩ ⟨ufa,ufc,ufl⟩):=by
         cases hq:SM l_l na with
         |none=>simp [hq] at *
         |some q=>rw [hq] at hu;exact congrArg some hu
        obtain ⟨hm9,_⟩:=JE hfu;refine S5 ?_;refine YK rfl rfl F.elem32 F.zero3 rfl rfl (.cons rfl jG .nil) rfl rfl jK rfl ?_;intro b16 hob17;refine Vc (m:=1000000) rfl rfl rfl rfl rfl F.elem32 F.zero3 zH rfl jE jA (Src.own hob17.lens jN rfl jB) jX jM rfl ?_;intro v20 hs19 ho18;obtain ⟨adv20,cpv20,rfl⟩:=ho18.valAt (n:=hops.length+1) zS;refine S4 ?_;refine YO (a':=[(12,_)]) (k+1) ((b9,Yp [.one (.slice adv20 (hops.length+1) cpv20),.one (.int .i64 0),ZU 0] 68)::(hs19++[(b3,Yp [.one (.int .i64 ua),ZU ui,.one (.int .i64 uq),ZU uj,.one (Sl.val ⟨usa,usc,usl⟩),.one (Sl.val ⟨ufa,ufc,ufl⟩)] 41)])) (.cons (k:=12) rfl (.cons (k:=13) rfl (.cons (k:=11) rfl (.cons (k:=10) rfl (.cons (k:=9) rfl (.cons (k:=8) rfl (.cons (k:=6) rfl (.cons (k:=3) rfl (.nil))))))))) (hm1.trans hm2) (fun w hw=>by first|exact hw|exact hw.c) ?_ ?_
        ·refine ⟨(ZK.mk ⟨ua,ui⟩ ⟨uq,uj⟩ ⟨usa,usc,usl⟩ ⟨ufa,ufc,ufl⟩),hops++[na],_,_,_,rfl,rfl,(hl1 _ hm9).mono (hm1.trans hm2),hR.2.1 _ (List.mem_map_of_mem hm9),by simp;omega,by omega,by rw [List.map_append];exact ho18,?_⟩;rw [hI,Pq (p:=⟨da,di⟩) (q:=⟨na,ni⟩) (u:=ZK.tb (ZK.mk ⟨ua,ui⟩ ⟨uq,uj⟩ ⟨usa,usc,usl⟩ ⟨ufa,ufc,ufl⟩)) (by rw [hdd,hdb]) (by rw [hnn,hnb]) jD (by rw [Ql,hfu];rfl)];rw [show mn+1-(k+1)=mn-k by omega]
        ·omega
theorem Zuv (M:Mem) (l:(Sl ZK)) (frm:Int) (id:Plc) (most:Int) (hl0:SlK M ZK.segs 44 l) (hl1:∀ y∈(l).l,ZK.ok M y):Esp.Fn Tryz.prog 26 [Sl.val l,.int .i64 frm,WX [ZU id],.int .i64 most] M (fun M' v=>Ca M' v (Vk (l.l.map ZK.tb) frm id most)):=by
 by_cases hR:UI (l.l.map ZK.tb)
 ·cases hf:SM l.l frm with
  |none=>exact Zlj M l frm id most hl0 hl1 hR hf
  |some t=>exact Zli M l frm id most hl0 hl1 t hR hf
 ·exact Zea M l frm id most hl0 hl1 hR
end Go.Proofs.YtglnjnacodgmaaaGreatDoor
namespace Go.Esp
def QE (l:List Zr) (p:Zr) (k:Nat):Int:=((Ve l (p.id+To k):Nat):Int)
def Rj (l:List Zr) (i:Int):List Int×Int:=if h:Xk l∧0≤i∧i<l.length then ((List.range 160).map (QE l (l[i.toNat]'(by omega))),0) else ([],1)
theorem Om {l:List Zr} {i:Nat} (h:Xk l) (hi:i<l.length):Rj l (i:Int)=((List.range 160).map (QE l l[i]),0):=by
 unfold Rj;rw [dif_pos ⟨h,by omega,by omega⟩];simp only [Int.toNat_natCast]
theorem NA {l:List Zr} {i:Int} (h:¬(Xk l∧0≤i∧i<l.length)):Rj l i=([],1):=dif_neg h
def PO (f:Nat→Int) (k:Nat):List Int:=(List.range 160).map fun j=>if j<k then f j else 0
theorem Zdb (f:Nat→Int):PO f 0=List.replicate 160 0:=by
 unfold PO;simp only [Nat.not_lt_zero,if_false];exact List.map_const' ..
theorem Zjm (f:Nat→Int):PO f 160=(List.range 160).map f:=by
 unfold PO;refine List.map_congr_left fun j hj=>?_;rw [A6 (G7.1 hj)]
theorem Zjl (f:Nat→Int) (k:Nat):(PO f k).length=160:=by unfold PO;simp
theorem Zjk (f:Nat→Int) {k:Nat} (hk:k<160) {v:Int} (hv:v=f k):(PO f k).set k v=PO f (k+1):=by
 unfold PO;refine J4 jQ fun j h1 h2=>?_;rw [List.getElem_set];simp only [I7,List.getElem_range];split
 ·rename_i h;subst h;rw [A6 jD];exact hv
 ·rename_i h;by_cases h3:j<k
  ·rw [A6 h3,A6 jD]
  ·rw [A4 h3,A4 jD]
def Zvm (M:Mem) (v:Value) (r:List Int×Int):Prop:=∃ s:Sl Int,v=.tuple #[s.val,.int .i64 r.2]∧s.l=r.1∧SlK M (WC .i64) 1 s
end Go.Esp
namespace Go.Proofs.YtglnjnacodgmaaaGreatDoor
open Go.Esp
theorem HC (M:Mem) (l:(Sl Zr)) (i:Int) (hl0:SlK M Zr.segs 21 l):Esp.Fn Tryz.prog 90 [Sl.val l,.int .i64 i] M (fun M' v=>Zvm M' v (Rj l.l i)):=by
 obtain ⟨l_a,l_c,l_l⟩:=l;have k_l:SlK M Zr.segs 21 ⟨l_a,l_c,l_l⟩:=hl0;have s_l:SlM M l_a (l_l.map Zr.segs) 21:=k_l.h1;have n_l:(l_l.map Zr.segs).length=l_l.length:=A8 ..;have m_l:l_l.length≤9223372036854775807:=k_l.h2;have c_l:l_l.length≤l_c:=k_l.h3;refine WE Tryz.func90 rfl Tryz.ntmps90 rfl ?_;intro H;refine S10 ?_;refine Vn (K.Circ_ok _ ⟨_,_,_⟩ jE) ?_;rintro _ rfl;refine S2 ?_;refine YE 13 (eT fun hc1=>?_) (eF fun hc1=>?_)
 ·simp only [Zr.eta,ZK.eta,ZM.eta,ZI.eta,YD.eta,YQ.eta,XM.eta,YT.eta,ZW.eta,XF.eta,Yk.eta] at hc1;refine S20 ?_;refine ZH fun w hw=>?_;refine ⟨_,M,rfl,Mem.le.refl M,hw.c,?_⟩;rw [show Rj l_l i=([],1) from NA yE];exact ⟨⟨none,0,[]⟩,rfl,rfl,SlK.nil⟩
 ·simp only [Zr.eta,ZK.eta,ZM.eta,ZI.eta,YD.eta,YQ.eta,XM.eta,YT.eta,ZW.eta,XF.eta,Yk.eta] at hc1;refine S4 ?_;refine YE 17 (cT fun hc2=>?_) (cF fun hc2=>?_)
  ·refine S16 ?_;refine ZH fun w hw=>?_;refine ⟨_,M,rfl,Mem.le.refl M,hw.c,?_⟩;rw [show Rj l_l i=([],1) from NA yE];exact ⟨⟨none,0,[]⟩,rfl,rfl,SlK.nil⟩
  ·refine S7 ?_;refine Xb (cT fun hc3=>?_) (cF fun hc3=>?_)
   ·refine S8 ?_;refine ZH fun w hw=>?_;refine ⟨_,M,rfl,Mem.le.refl M,hw.c,?_⟩;rw [show Rj l_l i=([],1) from NA yE];exact ⟨⟨none,0,[]⟩,rfl,rfl,SlK.nil⟩
   ·refine S4 ?_;obtain ⟨n,rfl⟩:∃ n:Nat,i=n:=⟨i.toNat,by omega⟩
    have hc:Xk l_l:=by assumption
    have hn:n<l_l.length:=by omega
    have hc1:=hc.1;refine QI (k:=160) (zr:=WC .i64 0) rfl rfl rfl rfl F.elem32 F.zero3 rfl rfl rfl jM jM rfl ?_;intro b1 hs1 ho1;refine S12 ?_;refine VG [26,25,6,5,4,0,1] ?_;refine XV (Hin:=hs1) (.succ .zero) jA (fun (k:Nat) M1 h1 z=>M1=M∧z=[(26,.int .i64 (k:Int))]∧k≤160∧OSl 3 1 (.slice (some ⟨b1,0,none⟩) 160 160) h1 ((PO (QE l_l l_l[n]) (k)).map (WC .i64))) (fun k=>160-k) (0) (⟨rfl,rfl,by omega,by rw [Zdb,List.map_replicate];exact ho1⟩) ?_;rintro k M1 h1 z hm1 ⟨hM1,rfl,hk,ho⟩;subst hM1;have hfl:=Zjl (QE l_l l_l[n]) k;have hml:((PO (QE l_l l_l[n]) (k)).map (WC .i64)).length=160:=by rw [A8];exact hfl
    refine S6 ?_;refine Xb (cT fun hc4=>?_) (cF fun hc4=>?_)
    ·refine S13 ?_;refine Vn (PJ _ k jD) ?_;rintro _ rfl;refine S4 ?_;intro b5;refine S4 ?_;refine Ya (l:=[0,1,2,3,4,5,6,7,8,9,10,11,12]) #[0,0,0,0,0,24,56,120,0,504,1020,2047,4095] _ rfl jI jI St.drawn (fun _ h=>h) ?_;refine S9 ?_;refine Vn (GU _ _ _) ?_;rintro _ rfl;refine Vn (K.owner_ok _ ⟨_,_,_⟩ _ jE jE) ?_;rintro _ rfl;refine Stp ?_;refine Tw (b:=b1) (j:=k) rfl rfl rfl rfl jG (Yi rfl YS) F.lay3 rfl rfl ho jA jD ?_;intro hs2 ho2;replace ho2:OSl 3 1 (.slice (some ⟨b1,0,none⟩) 160 160) hs2 ((PO (QE l_l l_l[n]) (k+1)).map (WC .i64)):=by rw [← Zjk (QE l_l l_l[n]) jD rfl,List.map_set];exact ho2.aZ (by simp [hml])
     refine S7 ?_;refine YO (a':=[(26,_)]) (k+1) (hs2) (.cons (k:=26) rfl (.cons (k:=25) rfl (.cons (k:=6) rfl (.cons (k:=5) rfl (.cons (k:=4) rfl (.cons (k:=0) rfl (.cons (k:=1) rfl (.nil)))))))) jO (fun w hw=>by first|exact hw|exact hw.c) ?_ ?_
     ·exact ⟨rfl,rfl,by omega,ho2⟩
     ·omega
    ·refine S13 ?_;refine ZH fun w hw=>?_;obtain rfl:k=160:=by omega
     obtain ⟨M9,s1,g1,g2,g3,g4,g5⟩:=OSl.freezeK (f:=WC .i64) (H:=H) (l:=(List.range 160).map (QE l_l l_l[n])) (by rw [← Zjm];exact ho) (hw.c);refine ⟨_,M9,rfl,g1,g2,?_⟩;rw [show Rj l_l ((n:Nat):Int)=_ from Om hc hn];exact ⟨s1,by rw [← g3];rfl,g4,g5⟩
end Go.Proofs.YtglnjnacodgmaaaGreatDoor
namespace Go.Esp
theorem AV {rows:List (Sl Zr)} {i:Nat} {a:Option Addr} {c:Nat} {l:List Zr} (hi:i<rows.length) (hr:rows[i]=⟨a,c,l⟩):((rows.take i).map Sl.l).flatten.length+l.length≤(rows.map Sl.l).flatten.length:=by
 have h:=Mw hi hr;have h2:(rows.map Sl.l).flatten=((rows.take (i+1)).map Sl.l).flatten++((rows.drop (i+1)).map Sl.l).flatten:=by
  rw [← List.flatten_append,← C6,F0]
 grind
def Wf (l:List Zr) (i:Nat):List Zr:=l.drop (i+1)++l.take i
theorem QW {l:List Zr} {i:Nat} (hi:i<l.length):(Wf l i).length=l.length-1:=by
 unfold Wf;simp;omega
theorem Ex {l:List Zr} {i k:Nat} (hi:i<l.length) (hk:k+1<l.length):(Wf l i)[k]?=l[(i+(k+1)) % l.length]?:=by
 unfold Wf;rcases C7 (i+(k+1)) l.length with h|h
 ·rw [F5 jU,List.getElem?_drop,E3 h];grind
 ·rw [G2 jU,Nat.mod_eq_sub_mod h,E3 jD,List.getElem?_take_of_lt jU];grind
theorem Ge {l:List Zr} {d:Zr} (h:0<l.length):l.getLastD d=l[l.length-1]'(by omega):=by
 grind
def Qm (f:Nat→Zr) (d:Zr) (k:Nat):List Zr:=(List.range 160).map fun j=>if j<k then f j else d
theorem Hj (f:Nat→Zr) (d:Zr):Qm f d 0=List.replicate 160 d:=by
 rfl
theorem DA (f:Nat→Zr) (d:Zr):Qm f d 160=(List.range 160).map f:=by
 rfl
theorem Dz (f:Nat→Zr) (d:Zr) (k:Nat):(Qm f d k).length=160:=by unfold Qm;simp
theorem Zjj (f:Nat→Zr) (d:Zr) {k:Nat} (hk:k<160) {v:Zr} (hv:v=f k):(Qm f d k).set k v=Qm f d (k+1):=by
 unfold Qm;refine J4 jQ fun j h1 h2=>?_;grind
theorem Hk (f:Nat→Zr) (d:Zr) {k:Nat} (hv:d=f k):Qm f d k=Qm f d (k+1):=by
 unfold Qm;grind
def MN (l:List Zr) (i:Nat) (p:Zr) (k:Nat):Zr:=if Ve l (p.id+To k)=i then Yj else l[Ve l (p.id+To k)]?.getD Yj
def RH (l:List Zr) (r:Nat) (i:Nat) (p:Zr):Tb :=
 ⟨p,(Wf l i).getLastD Yj,(Wf l i).take r,(List.range 160).map (MN l i p)⟩
def Nb (l:List Zr) (r:Nat):List Tb:=l.mapIdx (RH l r)
def Re (l:List Zr) (r:Int):List Tb×Int:=if Xk l∧1≤r∧r≤8 then (Nb l r.toNat,0) else ([],1)
theorem LB {l:List Zr} {r:Nat} (h:Xk l) (h1:1≤r) (h2:r≤8):Re l (r:Int)=(Nb l r,0):=by
 unfold Re;grind
theorem Ns {l:List Zr} {r:Int} (h:¬(Xk l∧1≤r∧r≤8)):Re l r=([],1):=A4 h
theorem Es {l:List Zr} {r k:Nat} (hk:k<l.length):(Nb l r).take (k+1)=(Nb l r).take k++[RH l r k l[k]]:=by
 rw [C9];unfold Nb;grind
theorem Tp {l:List Zr} {r:Nat}:(Nb l r).length=l.length:=by unfold Nb;simp
def Zzw (M:Mem) (v:Value) (l:List Tb):Prop:=∃ s:Sl ZK,v=s.val∧s.l.map ZK.tb=l∧SlK M ZK.segs 44 s∧∀ t∈s.l,ZK.ok M t
def Yaj (M:Mem) (v:Value) (r:List Tb×Int):Prop:=∃ u,v=.tuple #[u,.int .i64 r.2]∧Zzw M u r.1
end Go.Esp
namespace Go.Proofs.YtglnjnacodgmaaaGreatDoor
open Go.Esp
theorem F.ok146:Ta Tryz.prog 146=true:=by kernel_rfl
theorem Zvk (M:Mem) (p:Zr) (h:Yf p.addr):Fh Tryz.prog 87 [p.enc] M [] (fun M' v Hout=>M'=M∧∃ v2,v=.tuple #[WX [.one (.int .i64 p.addr),ZU p.id,.one (.int .i64 (-1)),ZU 0,.one (.slice none 0 0),.one v2],.int .i64 0]∧OSl 38 21 v2 Hout (List.replicate 160 Yj.segs)):=by
 obtain ⟨YB,p_id⟩:=p;refine Uu Tryz.func87 rfl Tryz.ntmps87 rfl ?_;intro H;refine S3 ?_;intro b1;refine Stp ?_;intro b2;refine S8 ?_;refine Vn (Zoo _ _) ?_;rintro _ rfl;refine S3 ?_;refine Xb (eT fun hc3=>?_) (eF fun hc3=>?_)
 ·contradiction
 ·refine S3 ?_;refine Ya (l:=[0,1,2,3,4,5,6,7]) #[0,0,2,6,14,31,63,127] _ rfl jI jI St.drawn (fun _ h=>h) ?_;refine Stp ?_;refine Vn (VD _) ?_;rintro _ rfl;refine Xs 10 rfl (show _=WX [.one (.int .i64 (-1)),ZU 0] from rfl) ?_;refine Vn (VD _) ?_;rintro _ rfl;refine Xs 11 rfl (show _=WX [.one (.int .i64 (-1)),ZU 0] from rfl) ?_;refine YK rfl rfl F.elem39 F.zero38 rfl rfl (.cons rfl jG .nil) rfl rfl jK rfl ?_;intro b4 hob5;refine We (Cb M _ _ hob5) ?_;rintro v9 M1 hs9 hm1 ⟨hM1,ho9⟩;subst M1;obtain ⟨ad9,cp9,rfl⟩:=ho9.val;refine XN rfl rfl F.bld41 (.cons rfl jG (.cons rfl jG (.cons rfl jG .nil))) rfl rfl ?_;refine S5 ?_;refine ZH fun w hw=>?_;exact ⟨_,M,_,rfl,Mem.le.refl M,hw.c,rfl,_,rfl,ho9⟩
theorem Zls (M:Mem) (n:Nat) (hn:n≤1000000):Fh Tryz.prog 146 [.slice none 0 0,.int .i64 (n:Int)] M [] (fun M' v Hout=>M'=M∧OSl 38 21 v Hout []):=by
 refine Uu Tryz.func146 rfl Tryz.ntmps146 rfl ?_;intro H;refine S12 ?_;refine Xb (cT fun hc1=>?_) (cF fun hc1=>?_)
 ·(exfalso;omega)
 ·refine S7 ?_;refine X_cap_sl rfl rfl rfl rfl F.elem39 rfl ?_;refine S4 ?_;rw [show ((n:Int)-(((0:Nat):Int)-((0:Nat):Int)))=(n:Int) by omega];refine S9 ?_;refine Xb (cT fun hc2=>?_) (cF fun hc2=>?_)
  ·refine S3 ?_;refine X_cap_sl rfl rfl rfl rfl F.elem39 rfl ?_;refine WL rfl rfl rfl .none (.some (k:=0) rfl rfl) .none F.elem39 jQ jQ jQ jQ (show WK none 21 0 0 0=.slice none 0 0 from rfl) rfl ?_;refine Stp ?_;refine Zle (k:=n) rfl rfl rfl rfl F.elem39 Tryz.underlying3 F.zero38 (VV rfl) rfl jD jD jD rfl ?_;intro b1 c1 hs1 hc1 ho1;refine S2 ?_;refine WL rfl rfl rfl .none (.some (k:=0) rfl rfl) .none F.elem39 jQ jQ jQ jQ (show WK (some ⟨b1,0,none⟩) 21 0 0 c1=.slice (some ⟨b1,0,none⟩) 0 c1 from SV) rfl ?_;refine S10 ?_;refine ZH fun w hw=>?_;exact ⟨_,M,hs1,rfl,Mem.le.refl M,hw.c,rfl,ho1⟩
  ·refine S9 ?_;refine ZH fun w hw=>?_;exact ⟨_,M,[],rfl,Mem.le.refl M,hw.c,rfl,OSl.nil⟩
theorem Zlv (M:Mem) (Hin:Hp) (ad:Option Addr) (c:Nat) (rs:List (Sl Zr)) (hl:RdS M Hin ad (rs.map (fun s=>[.one s.val])) 1) (hks:∀ s∈rs,SlK M Zr.segs 21 s) (hn:rs.length≤1000000) (hb:((rs.map Sl.l).flatten).length≤1000000):Fh Tryz.prog 88 [.slice ad rs.length c] M Hin (fun M' v Hout=>M'=M∧∃ hs,Hout=hs++Hin∧OSl 38 21 v hs (((rs.map Sl.l).flatten).map Zr.segs)):=by
 refine Uu Tryz.func88 rfl Tryz.ntmps88 rfl ?_;intro H;have hrd:=hl.app H;have nrs:(rs.map (fun s:Sl Zr=>[Seg.one s.val])).length=rs.length:=A8 ..;refine S19 ?_;refine VG [11,3,10,9,2,0] ?_;refine Un (.succ (.succ .zero)) (fun (k:Nat) z=>z=[(11,.int .i64 (k:Int)),(3,.int .i64 ((((rs.take k).map Sl.l).flatten.length:Nat):Int))]∧k≤rs.length) (fun k=>rs.length-k) (0) (⟨rfl,by omega⟩) ?_;rintro k _ ⟨rfl,hk⟩;refine S6 ?_;refine Xb (cT fun hc1=>?_) (cF fun hc1=>?_)
 ·refine S5 ?_;have hi2:k<rs.length:=by omega
  obtain ⟨⟨r_a,r_c,r_l⟩,hr⟩:∃ s,rs[k]=s:=⟨_,rfl⟩
  have k_r:SlK M Zr.segs 21 ⟨r_a,r_c,r_l⟩:=hr ▸ hks rs[k] (C1 hi2);have hfl:=AV hi2 hr;have n_r:(r_l.map Zr.segs).length=r_l.length:=A8 ..;refine S3 ?_;rw [hr];refine S18 ?_;refine Xb (cT fun hc2=>?_) (cF fun hc2=>?_)
  ·(exfalso;omega)
  ·refine S7 ?_;refine VX (a':=[(11,_),(3,_)]) (k+1) (.cons (k:=11) rfl (.cons (k:=3) rfl (.cons (k:=10) rfl (.cons (k:=9) rfl (.cons (k:=2) rfl (.cons (k:=0) rfl (.nil))))))) (fun w hw=>by first|exact hw|exact hw.c) ?_ ?_
   ·exact ⟨by rw [Mw hi2 hr,B3];rfl,by omega⟩
   ·omega
 ·refine S8 ?_;refine Zxy rfl rfl F.ok146 rfl (Zls M _ (by have h9:k=rs.length:=jD;rw [h9,G0];exact hb)) jA (fun _ _ _ hm hw=>(hw.lower (by exact hm)).c) (XK rfl) ?_;rintro v6 M1 hs6 hm1 ⟨hM1,ho6⟩;subst M1;refine S12 ?_;refine VG [27,6,26,25,2] ?_;refine XV (Hin:=hs6) (.succ (.succ .zero)) jA (fun (k:Nat) M1 h1 z=>∃ v,M1=M∧z=[(27,.int .i64 (k:Int)),(6,v)]∧k≤rs.length∧OSl 38 21 v h1 (((rs.take k).map Sl.l).flatten.map Zr.segs)) (fun k=>rs.length-k) (0) (⟨_,rfl,rfl,by omega,ho6⟩) ?_;rintro k M1 h1 z hm1 ⟨v0,hM1,rfl,hk,ho⟩;subst hM1;obtain ⟨ad0,cp0,rfl⟩:=ho.valL;have hml:(((rs.take k).map Sl.l).flatten.map Zr.segs).length=((rs.take k).map Sl.l).flatten.length:=A8 ..;have hrd2:RdS M1 (h1++(Hin++H)) ad (rs.map (fun s=>[.one s.val])) 1:=hrd.cnt (by intro zz;simp only [WG];omega);refine S6 ?_;refine Xb (cT fun hc3=>?_) (cF fun hc3=>?_)
  ·refine S5 ?_;have hi2:k<rs.length:=by omega
   obtain ⟨⟨r_a,r_c,r_l⟩,hr⟩:∃ s,rs[k]=s:=⟨_,rfl⟩
   have k_r:SlK M1 Zr.segs 21 ⟨r_a,r_c,r_l⟩:=hr ▸ hks rs[k] (C1 hi2);have hfl:=AV hi2 hr;have n_r:(r_l.map Zr.segs).length=r_l.length:=A8 ..;refine S3 ?_;rw [hr];refine S6 ?_;refine Zlf (m:=1000000) rfl rfl rfl rfl rfl F.elem39 F.zero38 zI rfl jE jA (k_r.h1) Zr.flat jD jM rfl ?_;intro v6 hs5 ho4;obtain ⟨adv6,cpv6,rfl⟩:=ho4.val;refine S8 ?_;refine YO (a':=[(27,_),(6,_)]) (k+1) (hs5) (.cons (k:=27) rfl (.cons (k:=6) rfl (.cons (k:=26) rfl (.cons (k:=25) rfl (.cons (k:=2) rfl (.nil)))))) jO (fun w hw=>by first|exact hw|exact hw.c) ?_ ?_
   ·refine ⟨_,rfl,rfl,by omega,?_⟩;rw [Mw hi2 hr,C6];exact ho4
   ·omega
  ·refine S12 ?_;refine ZH fun w hw=>?_;obtain rfl:k=rs.length:=by omega
   rw [G0] at ho ⊢;exact ⟨_,M1,h1++Hin,rfl,Mem.le.refl _,hw.c,rfl,h1,rfl,ho⟩
end Go.Proofs.YtglnjnacodgmaaaGreatDoor
