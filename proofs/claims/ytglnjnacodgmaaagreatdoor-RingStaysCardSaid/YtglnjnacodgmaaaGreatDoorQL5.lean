/-
  Texts of this claim, one behind the other: RingH, MapsI, RingI, R1, R2, R3, SortN, SortIL, R4, KT1, KT2, KT3, TableN, WalkM, V1, V2, CircleN, V6, SetM, V7, V8, KT5, ShaN, KT6, ShaL, KT7, ShaS, KT8, KT9, RepL, RepM, PadL, KT10, SumL, KT11, ItoaL, ItoaM, KT12, KT13, KT14, RingJ, R5, R6.
-/
import Derived.Test.YtglnjnacodgmaaaGreatDoorQL4
import Derived.Maps.RangeRun
import Derived.Shelf.Sort.Plain
import Derived.Shelf.Slices.In.SortNone
import Derived.Ground.NamesProg
import Derived.Test.YtglnjnacodgmaaaGreatDoorRows
import Derived.KernelRfl
import Derived.Shelf.Strings.Repeat
import Derived.Shelf.Strconv.Itoa3
set_option linter.unusedSimpArgs false
set_option linter.unusedVariables false
set_option linter.unnecessarySimpa false
set_option maxRecDepth 8000
set_option maxHeartbeats 1000000
namespace Go.Esp
def WX (m:Ml):Yv:=⟨m.frm,m.zto,body m.lt⟩
def okMl (m:Ml):Prop:=IsLt m.lt∧Ts m.lt.req
theorem body_size {l:Lt} (h:IsLt l) (hr:Ts l.req):(body l).size≤4096:=by
  unfold body;rw [Vr]
  have:=(bA_len h hr).2.2.2.2.2.2
  omega
theorem putC_mail {m:Ml} (h:okMl m) (most:Int) (l:List Ml):putC (WX m) most (l.map WX)=if most≤l.length then 12 else 0:=by
  have h1:=body_size h.1 h.2
  unfold putC
  rw [if_neg (show ¬(WX m).body.size > 4096 from by show ¬(body m.lt).size > 4096;omega),List.length_map]
def Tw (most:Int) (b:List Ml) (m:Ml):List Ml:=if IsLt m.lt∧(b.length:Int)<most then b++[m] else b
theorem putL_mail {m:Ml} (h:okMl m) (most:Int) (l:List Ml):putL (WX m) most (l.map WX)=(Tw most l m).map WX:=by
  unfold putL Tw
  rw [putC_mail h]
  by_cases h2:most≤(l.length:Int)
  · rw [if_pos h2,if_neg jJ,if_neg (by intro h9;omega)]
  · rw [if_neg h2,if_pos rfl,if_pos ⟨h.1,by omega⟩,List.map_append];rfl
theorem bagPut_no {m:Ml} (h:¬IsLt m.lt) (most:Int) (l:List Ml):Tw most l m=l:=if_neg (fun h9=>h h9.1)
theorem bagPut_ok {m:Ml} {most:Int} {l:List Ml} (hl:∀ x∈l,okMl x) (hr:Ts m.lt.req):∀ x∈Tw most l m,okMl x:=by
  unfold Tw
  split
  · intro x hx
    rcases List.mem_append.1 hx with h|h
    · exact hl x h
    · rw [List.mem_singleton.1 h];exact ⟨by rename_i h9;exact h9.1,hr⟩
  · exact hl
def bagSend (most:Int) (frm:Int) (b:List Ml) (l:List Snd):List Ml:=l.foldl (fun b s=>Tw most b ⟨frm,s.to,s.letter⟩) b
theorem putR_bag (r:Rg) (frm:Int) (s:Snd):putR r frm s={ r with bag:=Tw r.most r.bag ⟨frm,s.to,s.letter⟩ }:=by
  unfold putR Tw
  split <;> rfl
theorem sendR_bag (frm:Int):∀ (l:List Snd) (r:Rg),UO r frm l={ r with bag:=bagSend r.most frm r.bag l }
  | [],r=>rfl
  | s::l,r=>by
    show UO (putR r frm s) frm l=_
    rw [sendR_bag frm l,putR_bag]
    rfl
end Go.Esp
namespace Go.Esp
variable {α:Type}
abbrev JM (α:Type):=List (Int×α)
def Wg:JM α→Int→Option α
  | [],_=>none
  | (j,v)::r,k=>if k=j then some v else Wg r k
def Tv:JM α→Int→α→JM α
  | [],k,v=>[(k,v)]
  | (j,u)::r,k,v=>if k=j then (j,v)::r else (j,u)::Tv r k v
def keyI (x:Int):Value:=.int .i64 x
def enJ (en:α→Value) (p:Int×α):Value×Value:=(keyI p.1,en p.2)
def jmO (en:α→Value) (o:Obj) (l:JM α):Prop:=∃ es clock,o=.map es clock∧kvs es=l.map (enJ en)∧(∀ x∈es.toList,x.born<clock)∧(es.toList.map (·.born)).Nodup
theorem jmO.nil (en:α→Value):jmO en (.map #[] 0) []:=⟨#[],0,rfl,rfl,fun x h=>(by cases h),List.nodup_nil⟩
structure IntK (P:Program) (k:TypeId):Prop where
  ku:P.underlying k=some (.int .i64)
section
variable {P:Program} {w:World} {k:TypeId} {en:α→Value}
theorem kvs_im {en:α→Value} {es:Array MapEntry} {l:JM α} (h:kvs es=l.map (enJ en)):kvs es=(l.map fun p=>(p.1,en p.2)).map fun p=>(Value.int .i64 p.1,p.2):=by
  rw [h,List.map_map];rfl
theorem imGet_jm {en:α→Value} {x:Int}:∀ {l:JM α},Wa (l.map fun p=>(p.1,en p.2)) x=(Wg l x).map en
  | []=>rfl
  | (j,v)::l=>by
    simp only [List.map_cons,Wa,Wg]
    split
    · rfl
    · exact imGet_jm
theorem run_findKey_jm (hK:IntK P k) (x:Int) {es:Array MapEntry} {l:JM α} (h:kvs es=l.map (enJ en)) :
    (Instr.findKey k (keyI x) es.toList).run P w=.ok (match Wg l x with|some v=>some (l.findIdx fun p=>x=p.1,en v)|none=>none) w:=by
  have h1:=run_findKey (w:=w) (k:=x) hK.ku (kvs_im h)
  unfold keyI
  rw [h1,imGet_jm,List.findIdx_map]
  cases Wg l x <;> rfl
theorem run_checkKey_jm (hK:IntK P k) (b:Bool) (x:Int):(Instr.checkKey b 10000 k (keyI x)).run P w=.ok () w:=run_checkKey_int hK.ku
theorem jmGet_lt {x:Int}:∀ {l:JM α} {v:α},Wg l x=some v→l[l.findIdx fun p=>x=p.1]?=some (x,v)
  | [],_,h=>by simp [Wg] at h
  | (j,u)::l,v,h=>by
    unfold Wg at h
    by_cases e:x=j
    · subst e;simp at h;subst h;simp [List.findIdx_cons]
    · simp only [e,if_false] at h
      simp only [List.findIdx_cons,e,decide_false,cond_false]
      simpa using jmGet_lt h
theorem jmGet_mem {x:Int} {l:JM α} {v:α} (h:Wg l x=some v):(x,v)∈l:=List.mem_of_getElem? (jmGet_lt h)
theorem kvs_modify_jm {x:Int} {v:α}:∀ {l:JM α} {es:List MapEntry},es.map (fun x=>(x.key,x.val))=l.map (enJ en)→(Wg l x).isSome=true →
    (es.modify (l.findIdx fun p=>x=p.1) fun y=>{ y with key:=keyI x,val:=en v }).map (fun x=>(x.key,x.val))=(Tv l x v).map (enJ en)
  | [],_,_,h=>by simp [Wg] at h
  | _::_,[],h,_=>by simp at h
  | (j,u)::l,y::es,h,hs=>by
    simp only [List.map_cons,List.cons.injEq,enJ,Prod.mk.injEq] at h
    obtain ⟨⟨h1,h2⟩,h3⟩:=h
    by_cases e:x=j
    · subst e
      simp [List.findIdx_cons,Tv,enJ]
      exact h3
    · simp only [Wg,e,if_false] at hs
      have ih:=kvs_modify_jm (v:=v) h3 hs
      simp only [List.findIdx_cons,e,decide_false,cond_false,Tv,if_false,List.modify_succ_cons,List.map_cons,h1,h2,ih]
      rfl
theorem modify_born {es:List MapEntry} {j:Nat} {a b:Value}:(es.modify j fun y=>{ y with key:=a,val:=b }).map (·.born)=es.map (·.born):=by
  induction es generalizing j with
  | nil=>simp
  | cons y es ih =>
    cases j with
    | zero=>simp
    | succ j=>simp [ih]
theorem jmPut_none {x:Int} {v:α}:∀ {l:JM α},Wg l x=none→Tv l x v=l++[(x,v)]
  | [],_=>rfl
  | (j,u)::l,h=>by
    unfold Wg at h
    by_cases e:x=j
    · simp [e] at h
    · simp only [e,if_false] at h
      simp [Tv,e,jmPut_none h]
theorem run_lookup_jm {t el:TypeId} {b:Nat} {o:Obj} {l:JM α} {x:Int} {z:α} (hK:IntK P k) (ht:P.underlying t=some (.map k el)) (hz:XW P el=some (en z)) (hb:w.heap[b]?=some o) (ho:jmO en o l) :
    (Instr.lookup t (.map (some b)) (keyI x) true).run P w=.ok (.tuple #[en ((Wg l x).getD z),.bool (Wg l x).isSome]) w:=by
  obtain ⟨es,c,rfl,hk,_,_⟩:=ho
  have hzv:(zeroValue el).run P w=.ok (en z) w:=by
    unfold XW at hz
    split at hz
    · rename_i it hit;simp [zeroValue,typeInfo,hit,hz]
    · cases hz
  unfold Instr.lookup
  rw [Yf (Xf ht)]
  simp only []
  rw [Yf (run_getObj' hb)]
  simp only []
  rw [Yf (show (pure es:Sem (Array MapEntry)).run P w=.ok es w from rfl),Yf (run_checkKey_jm hK _ x),Yf (run_findKey_jm hK x hk)]
  cases hg:Wg l x with
  | some v=>rfl
  | none =>
    simp only []
    rw [Yf hzv]
    rfl
theorem run_lookup1_jm {t el:TypeId} {b:Nat} {o:Obj} {l:JM α} {x:Int} {z:α} (hK:IntK P k) (ht:P.underlying t=some (.map k el)) (hz:XW P el=some (en z)) (hb:w.heap[b]?=some o) (ho:jmO en o l) :
    (Instr.lookup t (.map (some b)) (keyI x) false).run P w=.ok (en ((Wg l x).getD z)) w:=by
  obtain ⟨es,c,rfl,hk,_,_⟩:=ho
  have hzv:(zeroValue el).run P w=.ok (en z) w:=by
    unfold XW at hz
    split at hz
    · rename_i it hit;simp [zeroValue,typeInfo,hit,hz]
    · cases hz
  unfold Instr.lookup
  rw [Yf (Xf ht)]
  simp only []
  rw [Yf (run_getObj' hb)]
  simp only []
  rw [Yf (show (pure es:Sem (Array MapEntry)).run P w=.ok es w from rfl),Yf (run_checkKey_jm hK _ x),Yf (run_findKey_jm hK x hk)]
  cases hg:Wg l x with
  | some v=>rfl
  | none =>
    simp only []
    rw [Yf hzv]
    rfl
theorem sameBits_jm (x:Int):Instr.sameBits 10000 (keyI x) (keyI x)=true:=by
  show Instr.sameBits (9999+1) _ _=true
  simp [Instr.sameBits,keyI]
theorem run_mapUpdate_jm {t el:TypeId} {b:Nat} {o:Obj} {l:JM α} {x:Int} {v:α} (hK:IntK P k) (ht:P.underlying t=some (.map k el)) (hb:w.heap[b]?=some o) (ho:jmO en o l) :
    ∃ o',(Instr.mapUpdate t (.map (some b)) (keyI x) (en v)).run P w=.ok () { w with heap:=w.heap.setIfInBounds b o' }∧jmO en o' (Tv l x v):=by
  obtain ⟨es,c,rfl,hk,hlt,hnd⟩:=ho
  unfold Instr.mapUpdate
  rw [Yf (Xf ht)]
  simp only []
  rw [Yf (run_getObj' hb)]
  simp only []
  rw [Yf (run_checkKey_jm hK _ x),Yf (run_findKey_jm hK x hk)]
  cases hg:Wg l x with
  | some v0 =>
    simp only []
    have hq:=jmGet_lt hg
    obtain ⟨y,hy,hyk⟩:∃ y,es[l.findIdx fun p=>x=p.1]?=some y∧y.key=keyI x:=by
      have h3:(kvs es)[l.findIdx fun p=>x=p.1]?=some (keyI x,en v0):=by rw [hk];simp [hq,enJ]
      simp only [kvs,List.getElem?_map,Option.map_eq_some_iff] at h3
      obtain ⟨y,hy,hyy⟩:=h3
      simp only [Prod.mk.injEq] at hyy
      exact ⟨y,by simpa using hy,hyy.1⟩
    have hst:(Instr.keyThatStays (((es[l.findIdx fun p=>x=p.1]?).map (·.key)).getD (keyI x)) (keyI x)).run P w=.ok (keyI x) w:=by
      rw [hy]
      simp only [Option.map_some,Option.getD_some,hyk]
      unfold Instr.keyThatStays
      simp only [sameBits_jm,if_true]
      rfl
    rw [Yf hst]
    have hm:(es.modify (l.findIdx fun p=>x=p.1) fun e=>{ e with key:=keyI x,val:=en v }).toList=es.toList.modify (l.findIdx fun p=>x=p.1) (fun e=>{ e with key:=keyI x,val:=en v }):=by simp
    have hbn:=modify_born (es:=es.toList) (j:=l.findIdx fun p=>x=p.1) (a:=keyI x) (b:=en v)
    refine ⟨_,run_setObj' hb _,_,_,rfl,?_,?_,?_⟩
    · unfold kvs
      rw [hm]
      exact kvs_modify_jm hk (by simp [hg])
    · intro y hy
      rw [hm] at hy
      have h1:y.born∈es.toList.map (·.born):=by rw [← hbn];exact List.mem_map_of_mem hy
      obtain ⟨y',hy',he⟩:=List.mem_map.1 h1
      rw [← he];exact hlt y' hy'
    · rw [hm,hbn];exact hnd
  | none =>
    simp only []
    refine ⟨_,run_setObj' hb _,_,_,rfl,?_,?_,?_⟩
    · rw [jmPut_none hg,kvs_push,hk];simp [enJ]
    · intro y hy
      simp only [Array.toList_push,List.mem_append,List.mem_singleton] at hy
      rcases hy with hy|rfl
      · have:=hlt y hy;omega
      · exact Nat.lt_succ_self _
    · simp only [Array.toList_push,List.map_append,List.map_cons,List.map_nil,List.nodup_append]
      refine ⟨hnd,by simp,?_⟩
      intro a ha b hb e
      simp only [List.mem_singleton] at hb
      obtain ⟨y,hy,rfl⟩:=List.mem_map.1 ha
      have:=hlt y hy;omega
def Sk:JM α→Int→JM α
  | [],_=>[]
  | (j,u)::r,k=>if k=j then r else (j,u)::Sk r k
theorem imDel_jm {en:α→Value} {x:Int}:∀ {l:JM α},Sm (l.map fun p=>(p.1,en p.2)) x=(Sk l x).map fun p=>(p.1,en p.2)
  | []=>rfl
  | (j,v)::l=>by
    simp only [List.map_cons,Sm,Sk]
    split
    · rfl
    · rw [List.map_cons,imDel_jm]
theorem run_delete_jm {t el ty:TypeId} {b:Nat} {o:Obj} {l:JM α} {z:Int} {ats:Array TypeId} (hat:ats[0]?=some t) (hK:IntK P k) (ht:P.underlying t=some (.map k el)) (hb:w.heap[b]?=some o) (ho:jmO en o l) :
    ∃ o',(Builtin.delete_ ats ty #[.map (some b),.int .i64 z]).run P w=.ok (.tuple #[]) { w with heap:=w.heap.setIfInBounds b o' }∧jmO en o' (Sk l z):=by
  have h1:=ht
  have h2:=hK.ku
  obtain ⟨es,c,rfl,hk,hlt,hnd⟩:=ho
  have hk2:=kvs_im hk
  unfold Builtin.delete_
  have e1:(#[Value.map (some b),Value.int .i64 z])[0]?=some (.map (some b)):=rfl
  have e2:(#[Value.map (some b),Value.int .i64 z])[1]?=some (.int .i64 z):=rfl
  simp only [hat,e1,e2]
  rw [Yf (Xf h1)]
  simp only []
  rw [Yf (run_getObj' hb)]
  simp only []
  rw [Yf (run_checkKey_int h2),Yf (run_findKey h2 hk2)]
  cases hg:Wa (l.map fun p=>(p.1,en p.2)) z with
  | some u =>
    refine ⟨.map (es.eraseIdxIfInBounds ((l.map fun p=>(p.1,en p.2)).findIdx fun p=>z=p.1)) c,?_,_,_,rfl,?_,?_,?_⟩
    · simp only []
      rw [Yf (run_setObj' hb _)];rfl
    · have:=kvs_erase (k:=z) (es:=es.toList) hk2 (by rw [hg];rfl)
      have h3:(es.eraseIdxIfInBounds ((l.map fun p=>(p.1,en p.2)).findIdx fun p=>z=p.1)).toList=es.toList.eraseIdx ((l.map fun p=>(p.1,en p.2)).findIdx fun p=>z=p.1):=by simp
      simp only [kvs,h3]
      rw [this,imDel_jm,List.map_map];rfl
    · intro y hy
      simp only [Array.toList_eraseIdxIfInBounds] at hy
      exact hlt y (List.mem_of_mem_eraseIdx hy)
    · simp only [Array.toList_eraseIdxIfInBounds]
      exact hnd.sublist ((List.eraseIdx_sublist _ _).map _)
  | none =>
    refine ⟨.map es c,?_,_,_,rfl,?_,hlt,hnd⟩
    · simp only []
      rw [Yf (run_setObj' hb _)];rfl
    · rw [hk2]
      have:=imDel_none hg
      rw [imDel_jm] at this
      rw [← this,List.map_map];rfl
end
inductive Al2 {β:Type} (R:Nat→β→Prop):List Nat→List β→Prop
  | nil:Al2 R [] []
  | cons {j:Nat} {p:β} {js:List Nat} {sv:List β}:R j p→Al2 R js sv→Al2 R (j::js) (p::sv)
def itJ (en:α→Value) (b:Nat) (oi om:Obj) (l sv:JM α):Prop :=
  ∃ (es:Array MapEntry) (clock:Nat) (sn:Array Nat) (js:List Nat),om=.map es clock∧kvs es=l.map (enJ en)∧(∀ x∈es.toList,x.born<clock)∧(es.toList.map (·.born)).Nodup ∧
    oi=.mapIter (some b) clock sn clock∧js.Nodup∧sn.toList=js.filterMap (fun j=>es[j]?.map (·.born))∧Al2 (fun j p=>l[j]?=some p) js sv
theorem itJ.start {en:α→Value} {b:Nat} {om:Obj} {l:JM α} (h:jmO en om l):∃ es c,om=.map es c∧itJ en b (.mapIter (some b) c #[] c) om l []:=by
  obtain ⟨es,c,rfl,h1,h2,h3⟩:=h
  exact ⟨es,c,rfl,es,c,#[],[],rfl,h1,h2,h3,rfl,List.nodup_nil,rfl,.nil⟩
theorem forall2_getD {l:JM α} {p0:Int×α}:∀ {js:List Nat} {sv:JM α},Al2 (fun j p=>l[j]?=some p) js sv→sv=js.map fun j=>l[j]?.getD p0
  | [],_,h=>by cases h;rfl
  | j::js,_,h=>by
    cases h with
    | cons h1 h2=>simp [h1,← forall2_getD h2]
theorem forall2_lt {l:JM α}:∀ {js:List Nat} {sv:JM α},Al2 (fun j p=>l[j]?=some p) js sv→∀ j∈js,j<l.length
  | [],_,h=>fun j hj=>by cases hj
  | i::js,_,h=>fun j hj=>by
    cases h with
    | cons h1 h2 =>
      rcases List.mem_cons.1 hj with rfl|hj
      · exact (List.getElem?_eq_some_iff.1 h1).1
      · exact forall2_lt h2 j hj
theorem forall2_app {R:Nat→Int×α→Prop}:∀ {js:List Nat} {sv:JM α} {j:Nat} {p:Int×α},Al2 R js sv→R j p→Al2 R (js++[j]) (sv++[p])
  | [],_,_,_,h,h2=>by cases h;exact .cons h2 .nil
  | _::_,_,_,_,h,h2=>by
    cases h with
    | cons g1 g2=>exact .cons g1 (forall2_app g2 h2)
theorem forall2_unapp {R:Nat→Int×α→Prop}:∀ {js:List Nat} {sv:JM α} {p:Int×α},Al2 R js (sv++[p])→∃ js' j,js=js'++[j]∧Al2 R js' sv∧R j p
  | _,[],_,h=>by
    cases h with
    | cons g1 g2=>cases g2;exact ⟨[],_,rfl,.nil,g1⟩
  | _,s::sv,p,h=>by
    cases h with
    | cons g1 g2 =>
      obtain ⟨js',j,rfl,h1,h2⟩:=forall2_unapp g2
      exact ⟨_::js',j,rfl,.cons g1 h1,h2⟩
theorem born_inj {es:List MapEntry} (hn:(es.map (·.born)).Nodup) {i j:Nat} (hi:i<es.length) (hj:j<es.length) (h:es[i].born=es[j].born):i=j:=by
  have h1:(es.map (·.born))[i]'zT=(es.map (·.born))[j]'zS:=by simpa using h
  rcases Nat.lt_trichotomy i j with h9|h9|h9
  · exact absurd h1 ((List.pairwise_iff_getElem.1 hn) i j zT zS h9)
  · exact h9
  · exact absurd h1.symm ((List.pairwise_iff_getElem.1 hn) j i zS zT h9)
theorem kvs_len {en:α→Value} {es:Array MapEntry} {l:JM α} (h:kvs es=l.map (enJ en)):es.toList.length=l.length:=by have:=congrArg List.length h;simpa [kvs] using this
theorem seen_iff {es:Array MapEntry} {sn:Array Nat} {js:List Nat} (hn:(es.toList.map (·.born)).Nodup) (hs:sn.toList=js.filterMap (fun j=>es[j]?.map (·.born))) (hl:∀ j∈js,j<es.toList.length) {j:Nat} (hj:j<es.toList.length) :
    es.toList[j].born∈sn.toList↔j∈js:=by
  rw [hs,List.mem_filterMap]
  constructor
  · rintro ⟨i,hi,he⟩
    have hil:=hl i hi
    have h1:es[i]?=some es.toList[i]:=by simp
    rw [h1] at he
    simp only [Option.map_some,Option.some.injEq] at he
    rw [← born_inj hn hil hj he];exact hi
  · intro h
    have h1:es[j]?=some es.toList[j]:=by simp
    exact ⟨j,h,by rw [h1];rfl⟩
theorem all_seen {es:Array MapEntry} {sn:Array Nat} (h:(leftOf es sn).size=0) {x:MapEntry} (hx:x∈es.toList):x.born∈sn.toList:=by
  apply Decidable.byContradiction
  intro hc
  have h1:x∈leftOf es sn:=by
    unfold leftOf
    rw [Array.mem_filter]
    exact ⟨by simpa using hx,by simpa using hc⟩
  have h2:leftOf es sn=#[]:=Array.eq_empty_of_size_eq_zero h
  rw [h2] at h1
  simp at h1
theorem itJ.done {en:α→Value} {b:Nat} {oi om:Obj} {l sv:JM α} {es:Array MapEntry} {clock:Nat} {sn:Array Nat} (h:itJ en b oi om l sv) (h1:om=.map es clock) (h2:oi=.mapIter (some b) clock sn clock) (h0:(leftOf es sn).size=0):sv.Perm l:=by
  obtain ⟨es',c',sn',js,e1,hk,hlt,hnd,e2,hjn,hs,hf⟩:=h
  subst e1
  obtain ⟨rfl,rfl⟩:=Obj.map.inj h1
  subst e2
  have e3:sn'=sn:=(Obj.mapIter.inj h2).2.2.1
  subst e3
  have hlen:=kvs_len hk
  have hjl:∀ j∈js,j<es'.toList.length:=fun j hj=>by rw [hlen];exact forall2_lt hf j hj
  have hp:js.Perm (List.range l.length):=by
    refine (List.perm_ext_iff_of_nodup hjn List.nodup_range).2 fun j=>?_
    rw [List.mem_range]
    constructor
    · intro hj;exact forall2_lt hf j hj
    · intro hj
      have hj':j<es'.toList.length:=by omega
      exact (seen_iff hnd hs hjl hj').1 (all_seen h0 (List.getElem_mem hj'))
  cases l with
  | nil =>
    have:js=[]:=by simpa using hp
    subst this
    cases hf
    exact .refl _
  | cons p0 l' =>
    rw [forall2_getD (p0:=p0) hf]
    have h9:=hp.map fun j=>((p0::l')[j]?).getD p0
    refine h9.trans (List.Perm.of_eq ?_)
    apply List.ext_getElem jU
    intro i g1 g2
    simp only [List.getElem_map,List.getElem_range,List.getElem?_eq_getElem g2,Option.getD_some]
theorem itJ.step {en:α→Value} {b:Nat} {oi om:Obj} {l sv:JM α} {es:Array MapEntry} {clock:Nat} {sn:Array Nat} {x:MapEntry} (h:itJ en b oi om l sv) (h1:om=.map es clock) (h2:oi=.mapIter (some b) clock sn clock) (hx:x∈(leftOf es sn).toList) :
    ∃ p,p∈l∧x.key=keyI p.1∧x.val=en p.2∧itJ en b (.mapIter (some b) clock (sn.push x.born) clock) om l (sv++[p]):=by
  obtain ⟨es',c',sn',js,e1,hk,hlt,hnd,e2,hjn,hs,hf⟩:=h
  subst e1
  obtain ⟨rfl,rfl⟩:=Obj.map.inj h1
  subst e2
  have e3:sn'=sn:=(Obj.mapIter.inj h2).2.2.1
  subst e3
  obtain ⟨hxe,hxs⟩:=mem_left hx
  obtain ⟨j,hj,rfl⟩:=List.getElem_of_mem hxe
  have hlen:=kvs_len hk
  have hjl:j<l.length:=by omega
  have hjs:j∉js:=fun hc=>by
    have:=(seen_iff hnd hs (fun i hi=>by rw [hlen];exact forall2_lt hf i hi) hj).2 hc
    have h3:es'.toList[j].born∈sn':=by simpa using this
    have h4:sn'.contains es'.toList[j].born=true:=by simpa using h3
    rw [h4] at hxs;cases hxs
  have hkv:(es'.toList[j].key,es'.toList[j].val)=enJ en l[j]:=by
    have h5:(kvs es')[j]?=(l.map (enJ en))[j]?:=by rw [hk]
    simp only [kvs,List.getElem?_map,List.getElem?_eq_getElem hj,List.getElem?_eq_getElem hjl,Option.map_some,Option.some.injEq] at h5
    exact h5
  simp only [enJ,Prod.mk.injEq] at hkv
  refine ⟨l[j],List.getElem_mem hjl,hkv.1,hkv.2,es',_,_,js++[j],rfl,hk,hlt,hnd,rfl,?_,?_,forall2_app hf (List.getElem?_eq_getElem hjl)⟩
  · rw [List.nodup_append]
    exact ⟨hjn,by simp,fun a ha b hb e=>hjs (by simp at hb;subst hb;subst e;exact ha)⟩
  · rw [Array.toList_push,hs,List.filterMap_append]
    have h1:es'[j]?=some es'.toList[j]:=by simp
    simp [h1]
theorem itJ.len {en:α→Value} {b:Nat} {oi om:Obj} {l sv:JM α} (h:itJ en b oi om l sv):sv.length≤l.length:=by
  obtain ⟨es,c,sn,js,e1,hk,hlt,hnd,e2,hjn,hs,hf⟩:=h
  have h1:js.length=sv.length:=by
    clear hs hjn
    induction hf with
    | nil=>rfl
    | cons _ _ ih=>simp [ih]
  have h2:js.length≤(List.range l.length).length:=by
    have hp:js.Perm ((List.range l.length).filter fun j=>decide (j∈js)):=(List.perm_ext_iff_of_nodup hjn (List.nodup_range.sublist List.filter_sublist)).2 fun j=>by
      rw [List.mem_filter,List.mem_range]
      exact ⟨fun hj=>⟨forall2_lt hf j hj,by simpa using hj⟩,fun hj=>by simpa using hj.2⟩
    rw [hp.length_eq]
    exact List.length_filter_le _ _
  rw [List.length_range] at h2
  omega
theorem itJ.last {en:α→Value} {b:Nat} {oi om:Obj} {l sv:JM α} {p:Int×α} (h:itJ en b oi om l (sv++[p])):∃ (es:Array MapEntry) (clock:Nat) (sn:Array Nat) (x:MapEntry),om=.map es clock∧oi=.mapIter (some b) clock (sn.push x.born) clock∧x∈es.toList∧(es.toList.map (·.born)).Nodup∧x.key=keyI p.1∧x.val=en p.2:=by
  obtain ⟨es,c,sn,js,rfl,hk,hlt,hnd,rfl,hjn,hs,hf⟩:=h
  obtain ⟨js',j,rfl,hf',hj⟩:=forall2_unapp hf
  have hlen:=kvs_len hk
  obtain ⟨hjl,hjp⟩:=List.getElem?_eq_some_iff.1 hj
  have hje:j<es.toList.length:=by omega
  have h1:es[j]?=some es.toList[j]:=by simp
  rw [List.filterMap_append] at hs
  simp only [List.filterMap_cons,h1,Option.map_some,List.filterMap_nil] at hs
  have hkv:(es.toList[j].key,es.toList[j].val)=enJ en l[j]:=by
    have h5:(kvs es)[j]?=(l.map (enJ en))[j]?:=by rw [hk]
    simp only [kvs,List.getElem?_map,List.getElem?_eq_getElem hje,List.getElem?_eq_getElem hjl,Option.map_some,Option.some.injEq] at h5
    exact h5
  simp only [enJ,Prod.mk.injEq,hjp] at hkv
  refine ⟨es,c,(js'.filterMap (fun j=>es[j]?.map (·.born))).toArray,es.toList[j],rfl,?_,List.getElem_mem hje,hnd,hkv.1,hkv.2⟩
  congr 1
  apply Array.toList_inj.1
  rw [hs];simp
section
variable {P:Program} {n:Sh} {ops:Array Oper} {Q:Exit→Act→World→Prop} {rest:List Nat} {M M':Mem} {H H' H0:Hp} {e:Env} {J S:World→Prop} {A:As} {i:Nat}
  {dst:Option Tmp} {d:Tmp} {op:Op} {ty:TypeId} {pos:String} {af:Array Edge} {gd:Option (Nat×Bool)} {k:TypeId} {en:α→Value}
theorem X_lookup2J {t el:TypeId} {x y:Operand} {b:Nat} {p:Int} {z:α} {o:Obj} {l:JM α} {MJ:Mem} {HJ:Hp} (hi:ops[i]?=some ⟨some d,.lookup t x y true,ty,pos,af,gd⟩) (hg:want ops e gd=some true)
    (hx:ev e x=some (.map (some b))) (hy:ev e y=some (keyI p)) (hK:IntK P k) (ht:P.underlying t=some (.map k el)) (hz:XW P el=some (en z)) (hb:(b,o)∈HJ) (ho:jmO en o l) (hd:Nat.ble (d+1) n.sz=true)
    (hk:XD P n ops Q rest (St MJ HJ) A ((d,.tuple #[en ((Wg l p).getD z),.bool (Wg l p).isSome])::e)):XD P n ops Q (i::rest) (St MJ HJ) A e :=
  Ux hi rfl hg (fun a' w ha hw=>XJ (by
    simp only [execOp,ha.ev hx,ha.ev hy]
    exact Wp (run_lookup_jm hK ht hz (hw.own _ _ hb) ho))) (fun a ha=>ha.put hd _) hk
theorem X_lookupJ {t el:TypeId} {x y:Operand} {b:Nat} {p:Int} {z:α} {o:Obj} {l:JM α} {MJ:Mem} {HJ:Hp} (hi:ops[i]?=some ⟨some d,.lookup t x y false,ty,pos,af,gd⟩) (hg:want ops e gd=some true)
    (hx:ev e x=some (.map (some b))) (hy:ev e y=some (keyI p)) (hK:IntK P k) (ht:P.underlying t=some (.map k el)) (hz:XW P el=some (en z)) (hb:(b,o)∈HJ) (ho:jmO en o l) (hd:Nat.ble (d+1) n.sz=true)
    (hk:XD P n ops Q rest (St MJ HJ) A ((d,en ((Wg l p).getD z))::e)):XD P n ops Q (i::rest) (St MJ HJ) A e :=
  Ux hi rfl hg (fun a' w ha hw=>XJ (by
    simp only [execOp,ha.ev hx,ha.ev hy]
    exact Wp (run_lookup1_jm hK ht hz (hw.own _ _ hb) ho))) (fun a ha=>ha.put hd _) hk
theorem X_len_mapJ {t el:TypeId} {x:Operand} {b:Nat} {o:Obj} {l:JM α} {MJ:Mem} {HJ:Hp} {ats:Array TypeId} (hi:ops[i]?=some ⟨some d,.call ⟨.builtin .len,#[x],ats⟩,ty,pos,af,gd⟩) (hg:want ops e gd=some true)
    (hx:ev e x=some (.map (some b))) (hat:ats[0]?=some t) (ht:P.underlying t=some (.map k el)) (hb:(b,o)∈HJ) (ho:jmO en o l) (hd:Nat.ble (d+1) n.sz=true) (hk:XD P n ops Q rest (St MJ HJ) A ((d,.int .i64 (l.length:Int))::e)):XD P n ops Q (i::rest) (St MJ HJ) A e :=
  Ux hi rfl hg (fun a' w ha hw=>XJ (by
    obtain ⟨es,c,rfl,hkv,_,_⟩:=ho
    have hl:es.size=l.length:=by have:=congrArg List.length hkv;simpa [kvs] using this
    simp only [execOp,resolve]
    simp [invoke,builtin,Builtin.len_,ha.ev hx,hat,Xf ht,run_getObj' (hw.own _ _ hb),goInt,hl])) (fun a ha=>ha.put hd _) hk
theorem X_mapUpdateJ {t el:TypeId} {x y z:Operand} {b:Nat} {p:Int} {v:α} {o:Obj} {l:JM α} (hi:ops[i]?=some ⟨none,.mapUpdate t x y z,ty,pos,af,gd⟩) (hg:want ops e gd=some true)
    (hx:ev e x=some (.map (some b))) (hy:ev e y=some (keyI p)) (hz:ev e z=some (en v)) (hK:IntK P k) (ht:P.underlying t=some (.map k el)) (ho:jmO en o l) (hb:(b,o)∈H)
    (hk:∀ o',jmO en o' (Tv l p v)→∃ H2,Upd b o o' H H2∧XD P n ops Q rest (St M H2) ⟨M,H2⟩ e) (hnw:n.wrs.contains i=false:=by rfl):XD P n ops Q (i::rest) J ⟨M,H⟩ e:=by
  refine Tz hi rfl hg (fun a w ha hw=>?_) hnw
  have hb:=hw.own b o hb
  obtain ⟨o',hr,ho'⟩:=run_mapUpdate_jm (P:=P) (x:=p) (v:=v) hK ht hb ho
  unfold Oper.does
  have:(execOp a.eval ⟨none,.mapUpdate t x y z,ty,pos,af,gd⟩).run P w=.ok .skip { w with heap:=w.heap.setIfInBounds b o' }:=by
    simp only [execOp,ha.ev hx,ha.ev hy,ha.ev hz]
    rw [Yf hr];rfl
  rw [this]
  obtain ⟨H2,hH,hk⟩:=hk o' ho'
  exact ⟨⟨M,H2⟩,e,St.upd hw hH (setIn_self hb) (fun c hc q hq=>by rw [setIn_other hc];exact hq) (VM.refl _),ha,hk⟩
theorem X_rangeJ {t el:TypeId} {x:Operand} {b:Nat} {o:Obj} {l:JM α} (hi:ops[i]?=some ⟨some d,.range t x,ty,pos,af,gd⟩) (hg:want ops e gd=some true)
    (hx:ev e x=some (.map (some b))) (ht:P.underlying t=some (.map k el)) (hb:(b,o)∈H) (ho:jmO en o l) (hd:Nat.ble (d+1) n.sz=true)
    (hk:∀ r oi,itJ en b oi o l []→XD P n ops Q rest (St M ((r,oi)::H)) ⟨M,(r,oi)::H⟩ ((d,.pointer (some ⟨r,0,Option.none⟩))::e)) (hnw:n.wrs.contains i=false:=by rfl):XD P n ops Q (i::rest) J ⟨M,H⟩ e:=by
  refine Tz hi rfl hg (fun a w ha hw=>?_) hnw
  have hb':=hw.own b o hb
  obtain ⟨es,c,rfl,hit⟩:=itJ.start (b:=b) ho
  unfold Oper.does
  have:(execOp a.eval ⟨some d,.range t x,ty,pos,af,gd⟩).run P w=.ok (.value (.pointer (some ⟨w.heap.size,0,Option.none⟩))) (w.alloc (.mapIter (some b) c #[] c)):=by
    simp only [execOp,ha.ev hx]
    refine Wp ?_
    unfold Instr.range
    rw [Yf (Xf ht)]
    simp only []
    rw [Yf (run_getObj' hb')]
    rfl
  rw [this]
  exact ⟨⟨M,(w.heap.size,_)::H⟩,_,St.alloc hw _,ha.put hd _,hk _ _ hit⟩
theorem X_nextJ {x:Operand} {b r:Nat} {oi om:Obj} {l sv:JM α} (hi:ops[i]?=some ⟨some d,.next x false,ty,pos,af,gd⟩) (hg:want ops e gd=some true)
    (hx:ev e x=some (.pointer (some ⟨r,0,Option.none⟩))) (hr:(r,oi)∈H) (hb:(b,om)∈H) (hit:itJ en b oi om l sv) (hd:Nat.ble (d+1) n.sz=true)
    (hk1:∀ p oi',p∈l→itJ en b oi' om l (sv++[p])→∃ H2,Upd r oi oi' H H2∧XD P n ops Q rest (St M H2) ⟨M,H2⟩ ((d,.tuple #[.bool true,keyI p.1,en p.2])::e))
    (hk0:sv.Perm l→XD P n ops Q rest (St M H) ⟨M,H⟩ ((d,.tuple #[.bool false])::e)) (hnw:n.wrs.contains i=false:=by rfl):XD P n ops Q (i::rest) J ⟨M,H⟩ e:=by
  refine Tz hi rfl hg (fun a w ha hw=>?_) hnw
  have hr':=hw.own r oi hr
  have hb':=hw.own b om hb
  have hit':=hit
  obtain ⟨es,c,sn,js,e1,hkv,hlt,hnd,e2,hjn,hs,hf⟩:=hit'
  rw [e2] at hr'
  rw [e1] at hb'
  unfold Oper.does
  rcases run_next_at (P:=P) w ty r b c c sn es c hr' hb' hlt (Nat.le_refl _) with ⟨h0,hrun⟩|⟨y,hy,w1,hw1,hrun⟩
  · have:(execOp a.eval ⟨some d,.next x false,ty,pos,af,gd⟩).run P w=.ok (.value (.tuple #[.bool false])) w:=by
      simp only [execOp,ha.ev hx]
      exact Wp hrun
    rw [this]
    exact ⟨⟨M,H⟩,_,hw,ha.put hd _,hk0 (hit.done e1 e2 h0)⟩
  · obtain ⟨p,hp,g1,g2,g3⟩:=hit.step e1 e2 hy
    rw [g1,g2] at hrun
    have:(execOp a.eval ⟨some d,.next x false,ty,pos,af,gd⟩).run P w=.ok (.value (.tuple #[.bool true,keyI p.1,en p.2])) { w1 with heap:=w1.heap.setIfInBounds r (.mapIter (some b) c (sn.push y.born) c) }:=by
      simp only [execOp,ha.ev hx]
      exact Wp hrun
    rw [this]
    obtain ⟨H2,hH,hk⟩:=hk1 p _ hp g3
    have hst:St M H w1:=by
      rcases hw1 with rfl|rfl
      · exact hw
      · exact St.drawn _ hw
    have hr1:=hst.own r oi hr
    exact ⟨⟨M,H2⟩,_,St.upd hst hH (setIn_self hr1) (fun c hc q hq=>by rw [setIn_other hc];exact hq) (VM.refl _),ha.put hd _,hk⟩
theorem X_entryJ {x:Operand} {b r:Nat} {oi om:Obj} {l sv:JM α} {p:Int×α} {MJ:Mem} {HJ:Hp} (hi:ops[i]?=some ⟨some d,.entry x,ty,pos,af,gd⟩) (hg:want ops e gd=some true)
    (hx:ev e x=some (.pointer (some ⟨r,0,Option.none⟩))) (hr:(r,oi)∈HJ) (hb:(b,om)∈HJ) (hit:itJ en b oi om l (sv++[p])) (hd:Nat.ble (d+1) n.sz=true)
    (hk:XD P n ops Q rest (St MJ HJ) A ((d,.tuple #[keyI p.1,en p.2])::e)):XD P n ops Q (i::rest) (St MJ HJ) A e :=
  Ux hi rfl hg (fun a' w ha hw=>XJ (by
    obtain ⟨es,c,sn,y,rfl,rfl,g1,g2,g3,g4⟩:=hit.last
    simp only [execOp,ha.ev hx]
    have:=run_entry_at (P:=P) w r b c sn es c y (hw.own _ _ hr) (hw.own _ _ hb) g1 g2
    rw [g3,g4] at this
    exact Wp this)) (fun a ha=>ha.put hd _) hk
theorem X_deleteJ {t el:TypeId} {x y:Operand} {b:Nat} {z:Int} {o:Obj} {l:JM α} {ats:Array TypeId} (hi:ops[i]?=some ⟨none,.call ⟨.builtin .delete,#[x,y],ats⟩,ty,pos,af,gd⟩) (hg:want ops e gd=some true)
    (hx:ev e x=some (.map (some b))) (hy:ev e y=some (.int .i64 z)) (hat:ats[0]?=some t) (hK:IntK P k) (ht:P.underlying t=some (.map k el)) (ho:jmO en o l) (hb:(b,o)∈H)
    (hk:∀ o',jmO en o' (Sk l z)→∃ H2,Upd b o o' H H2∧XD P n ops Q rest (St M H2) ⟨M,H2⟩ e) (hnw:n.wrs.contains i=false:=by rfl):XD P n ops Q (i::rest) J ⟨M,H⟩ e:=by
  refine Tz hi rfl hg (fun a w ha hw=>?_) hnw
  have hb:=hw.own b o hb
  obtain ⟨o',hr,ho'⟩:=run_delete_jm (P:=P) (ty:=ty) (z:=z) hat hK ht hb ho
  unfold Oper.does
  have:(execOp a.eval ⟨none,.call ⟨.builtin .delete,#[x,y],ats⟩,ty,pos,af,gd⟩).run P w=.ok (.value (.tuple #[])) { w with heap:=w.heap.setIfInBounds b o' }:=by
    simp only [execOp,resolve]
    simp only [invoke,builtin]
    have e1:#[x,y].map a.eval=#[.map (some b),.int .i64 z]:=by simp [ha.ev hx,ha.ev hy]
    rw [e1,Sem.run_bind]
    show (Result.ok _ w).andThen _=_
    rw [Result.andThen_ok]
    exact Wp hr
  rw [this]
  obtain ⟨H2,hH,hk⟩:=hk o' ho'
  exact ⟨⟨M,H2⟩,e,St.upd hw hH (setIn_self hb) (fun c hc q hq=>by rw [setIn_other hc];exact hq) (VM.refl _),ha,hk⟩
end
end Go.Esp
namespace Go.Esp
section
variable {α:Type}
theorem getA_put (a b:Int) (x:α):∀ l:List (Int×α),(l.map (·.1)).Pairwise (·<·)→getA b (putA a x l)=if b=a then some x else getA b l
  | [],_=>by
    by_cases e:b=a
    · subst e;simp [putA,getA]
    · simp [putA,getA,Ne.symm e,e]
  | (c,y)::l,h=>by
    have h2:=List.pairwise_cons.1 h
    have hn:∀ d,d<c→getA d l=none:=fun d hd=>getA_low (fun q hq=>by have:=h2.1 q.1 (List.mem_map_of_mem hq);simp only at this;omega)
    unfold putA
    by_cases h1:a<c
    · rw [if_pos h1]
      by_cases e:b=a
      · subst e;simp [getA]
      · simp [getA,Ne.symm e,e]
    · rw [if_neg h1]
      by_cases e1:c=a
      · rw [if_pos e1]
        subst e1
        by_cases e:b=c
        · subst e;simp [getA]
        · simp [getA,Ne.symm e,e]
      · rw [if_neg e1]
        unfold getA
        by_cases e:c=b
        · rw [if_pos e,if_neg jC,if_pos e]
        · rw [if_neg e,if_neg e]
          exact getA_put a b x l h2.2
 where
  getA_low:∀ {l:List (Int×α)} {d:Int},(∀ q∈l,d<q.1)→getA d l=none
    | [],_,_=>rfl
    | (c,y)::l,d,h=>by
      unfold getA
      rw [if_neg (by have:=h (c,y) (List.mem_cons_self);simp only at this;omega)]
      exact getA_low fun q hq=>h q (List.mem_cons_of_mem _ hq)
theorem getA_mem {a:Int} {x:α}:∀ {l:List (Int×α)},getA a l=some x→(a,x)∈l
  | [],h=>by cases h
  | (c,y)::l,h=>by
    unfold getA at h
    split at h
    · rename_i e;subst e;cases h;exact List.mem_cons_self
    · exact List.mem_cons_of_mem _ (getA_mem h)
theorem getA_none {a:Int}:∀ {l:List (Int×α)},getA a l=none↔a∉l.map (·.1)
  | []=>by simp [getA]
  | (c,y)::l=>by
    unfold getA
    split
    · rename_i e;subst e;simp
    · rename_i e
      rw [getA_none (l:=l),List.map_cons,List.mem_cons,not_or]
      exact ⟨fun h=>⟨fun h2=>e h2.symm,h⟩,fun h=>h.2⟩
theorem putA_keys {a b:Int} {x:α}:∀ {l:List (Int×α)},b∈(putA a x l).map (·.1)↔b=a∨b∈l.map (·.1)
  | []=>by simp [putA]
  | (c,y)::l=>by
    unfold putA
    split
    · simp
    · split
      · rename_i e;subst e;simp
      · have:=putA_keys (a:=a) (b:=b) (x:=x) (l:=l)
        rw [List.map_cons,List.mem_cons,this,List.map_cons,List.mem_cons]
        constructor
        · rintro (h|h|h)
          · exact .inr (.inl h)
          · exact .inl h
          · exact .inr (.inr h)
        · rintro (h|h|h)
          · exact .inr (.inl h)
          · exact .inl h
          · exact .inr (.inr h)
theorem putA_rise {a:Int} {x:α}:∀ {l:List (Int×α)},(l.map (·.1)).Pairwise (·<·)→((putA a x l).map (·.1)).Pairwise (·<·)
  | [],_=>by simp [putA]
  | (c,y)::l,h=>by
    have h2:=List.pairwise_cons.1 h
    unfold putA
    split
    · rename_i e
      refine List.pairwise_cons.2 ⟨fun q hq=>?_,h⟩
      rcases List.mem_cons.1 hq with rfl|hq
      · exact e
      · have:=h2.1 q hq;simp only at this e ⊢;omega
    · rename_i e
      split
      · rename_i e1;subst e1;exact h
      · rename_i e1
        refine List.pairwise_cons.2 ⟨fun q hq=>?_,putA_rise h2.2⟩
        rcases putA_keys.1 hq with rfl|hq
        · simp only at e e1 ⊢;omega
        · exact h2.1 q hq
theorem putA_len {a:Int} {x:α}:∀ {l:List (Int×α)},(l.map (·.1)).Pairwise (·<·)→(putA a x l).length=if (getA a l).isSome then l.length else l.length+1
  | [],_=>rfl
  | (c,y)::l,h=>by
    have h2:=List.pairwise_cons.1 h
    unfold putA getA
    by_cases e:a<c
    · rw [if_pos e,if_neg (show ¬c=a by omega),getA_put.getA_low (fun q hq=>by have:=h2.1 q.1 (List.mem_map_of_mem hq);simp only at this;omega)]
      simp
    · rw [if_neg e]
      by_cases e1:c=a
      · rw [if_pos e1,if_pos e1];simp
      · rw [if_neg e1,if_neg e1,List.length_cons,putA_len h2.2]
        split <;> simp
theorem delA_rise {a:Int} {l:List (Int×α)} (h:(l.map (·.1)).Pairwise (·<·)):((delA a l).map (·.1)).Pairwise (·<·):=h.sublist (List.filter_sublist.map _)
theorem getA_del (a b:Int):∀ l:List (Int×α),getA b (delA a l)=if b=a then none else getA b l
  | []=>by simp [delA,getA]
  | (c,y)::l=>by
    have ih:=getA_del a b l
    unfold delA at *
    rw [List.filter_cons]
    by_cases e:c=a
    · rw [if_neg (by simpa using e),ih]
      split
      · rfl
      · unfold getA;rw [if_neg jC]
        cases l <;> rfl
    · rw [if_pos (by simpa using e)]
      unfold getA
      by_cases e1:c=b
      · rw [if_pos e1,if_neg jC,if_pos e1]
      · rw [if_neg e1,if_neg e1]
        have h9:getA b (l.filter fun p=>decide (p.1≠a))=if b=a then none else getA b l:=ih
        cases hl:(l.filter fun p=>decide (p.1≠a)) with
        | nil=>rw [hl] at h9;exact h9
        | cons q r=>rw [hl] at h9;exact h9
end
section
variable {α:Type}
theorem jmGet_put (l:JM α) (k k':Int) (v:α):Wg (Tv l k v) k'=if k'=k then some v else Wg l k':=by
  induction l with
  | nil=>simp only [Tv,Wg]
  | cons p l ih =>
    obtain ⟨j,u⟩:=p
    unfold Tv
    by_cases e:k=j
    · subst e
      rw [if_pos rfl]
      unfold Wg
      split <;> rfl
    · rw [if_neg e]
      unfold Wg
      by_cases h:k'=j
      · rw [if_pos h,if_neg jC,if_pos h]
      · rw [if_neg h,if_neg h];exact ih
theorem jmPut_keys {l:JM α} {k:Int} {v:α}:(Tv l k v).map (·.1)=if (Wg l k).isSome then l.map (·.1) else l.map (·.1)++[k]:=by
  induction l with
  | nil=>rfl
  | cons p l ih =>
    obtain ⟨j,u⟩:=p
    unfold Tv Wg
    split
    · rfl
    · rw [List.map_cons,ih]
      split <;> simp
theorem jmGet_none {k:Int}:∀ {l:JM α},Wg l k=none↔k∉l.map (·.1)
  | []=>by simp [Wg]
  | (c,y)::l=>by
    unfold Wg
    split
    · rename_i e;subst e;simp
    · rename_i e
      rw [jmGet_none (l:=l),List.map_cons,List.mem_cons,not_or]
      exact ⟨fun h=>⟨e,h⟩,fun h=>h.2⟩
theorem jmPut_nodup {l:JM α} {k:Int} {v:α} (h:(l.map (·.1)).Nodup):((Tv l k v).map (·.1)).Nodup:=by
  rw [jmPut_keys]
  split
  · exact h
  · rename_i e
    rw [List.nodup_append]
    refine ⟨h,by simp,fun a ha b hb e2=>?_⟩
    rw [List.mem_singleton] at hb
    subst hb;subst e2
    exact jmGet_none.1 (by simpa using e) ha
theorem jmPut_mem {l:JM α} {k:Int} {v:α} {p:Int×α} (h:p∈Tv l k v):p=(k,v)∨p∈l:=by
  induction l with
  | nil=>simpa [Tv] using h
  | cons q l ih =>
    obtain ⟨j,u⟩:=q
    unfold Tv at h
    split at h
    · rename_i e;subst e
      rcases List.mem_cons.1 h with rfl|h
      · exact .inl rfl
      · exact .inr (List.mem_cons_of_mem _ h)
    · rcases List.mem_cons.1 h with rfl|h
      · exact .inr List.mem_cons_self
      · rcases ih h with h|h
        · exact .inl h
        · exact .inr (List.mem_cons_of_mem _ h)
theorem jmDel_sub (k:Int):∀ l:JM α,List.Sublist (Sk l k) l
  | []=>List.Sublist.refl _
  | (j,u)::l=>by
    unfold Sk
    split
    · exact List.sublist_cons_self _ _
    · exact (jmDel_sub k l).cons_cons _
theorem jmGet_del (k k':Int):∀ l:JM α,(l.map (·.1)).Nodup→Wg (Sk l k) k'=if k'=k then none else Wg l k'
  | [],_=>by simp [Sk,Wg]
  | (j,u)::l,h=>by
    have h2:=List.nodup_cons.1 h
    unfold Sk
    by_cases e:k=j
    · subst e
      rw [if_pos rfl]
      by_cases e2:k'=k
      · subst e2;rw [if_pos rfl];exact jmGet_none.2 h2.1
      · rw [if_neg e2];unfold Wg;rw [if_neg e2];cases l <;> rfl
    · rw [if_neg e]
      unfold Wg
      by_cases e2:k'=j
      · rw [if_pos e2,if_neg jC,if_pos e2]
      · rw [if_neg e2,if_neg e2]
        have:=jmGet_del k k' l h2.2
        cases hl:Sk l k with
        | nil=>rw [hl] at this;exact this
        | cons q r=>rw [hl] at this;exact this
end
structure RIs (M:Mem) (r:Rg) (l:JM ZJ):Prop where
  ok:∀ p∈l,ZJ.ok M p.2
  key:(l.map (·.1)).Nodup
  get:∀ a,(Wg l a).map ZJ.nd=getA a r.nodes
  mail:∀ m∈r.bag,okMl m
  rise:(Tc r).Pairwise (·<·)
  few:r.nodes.length≤16
  cop:1≤r.copies∧r.copies≤8
theorem RIs.mono {M M':Mem} {r:Rg} {l:JM ZJ} (h:RIs M r l) (hm:M.le M'):RIs M' r l:=⟨fun p hp=>(h.ok p hp).mono hm,h.key,h.get,h.mail,h.rise,h.few,h.cop⟩
theorem RIs.nil (M:Mem) (c k:Int) (hc:1≤c∧c≤8):RIs M ⟨c,k,[],[]⟩ []:=⟨fun p h=>(by cases h),List.nodup_nil,fun a=>rfl,fun m h=>(by cases h),List.Pairwise.nil,Nat.zero_le _,hc⟩
theorem RIs.put {M:Mem} {r:Rg} {l:JM ZJ} (h:RIs M r l) {a:Int} {n:ZJ} (hn:ZJ.ok M n) (hf:(getA a r.nodes).isSome∨r.nodes.length<16):RIs M { r with nodes:=putA a n.nd r.nodes } (Tv l a n):=by
  refine ⟨fun p hp=>?_,jmPut_nodup h.key,fun b=>?_,h.mail,putA_rise h.rise,?_,h.cop⟩
  · rcases jmPut_mem hp with rfl|hp
    · exact hn
    · exact h.ok p hp
  · show (Wg (Tv l a n) b).map ZJ.nd=getA b (putA a n.nd r.nodes)
    rw [jmGet_put,getA_put _ _ _ _ h.rise,← h.get b]
    split <;> rfl
  · show (putA a n.nd r.nodes).length≤16
    rw [putA_len h.rise]
    have:=h.few
    split
    · exact this
    · rcases hf with hf|hf
      · contradiction
      · omega
theorem RIs.del {M:Mem} {r:Rg} {l:JM ZJ} (h:RIs M r l) (a:Int):RIs M { r with nodes:=delA a r.nodes } (Sk l a):=by
  refine ⟨fun p hp=>h.ok p ((jmDel_sub a l).subset hp),h.key.sublist ((jmDel_sub a l).map _),fun b=>?_,h.mail,delA_rise h.rise,Nat.le_trans (List.length_filter_le _ _) h.few,h.cop⟩
  show (Wg (Sk l a) b).map ZJ.nd=getA b (delA a r.nodes)
  rw [jmGet_del _ _ _ h.key,getA_del,← h.get b]
  split <;> rfl
theorem RIs.bag {M:Mem} {r:Rg} {l:JM ZJ} (h:RIs M r l) {b:List Ml} (hb:∀ m∈b,okMl m):RIs M { r with bag:=b } l:=⟨h.ok,h.key,h.get,hb,h.rise,h.few,h.cop⟩
theorem RIs.keys {M:Mem} {r:Rg} {l:JM ZJ} (h:RIs M r l):(l.map (·.1)).Perm (Tc r):=by
  refine (List.perm_ext_iff_of_nodup h.key (h.rise.imp fun hx=>by omega)).2 fun a=>?_
  have h1:=jmGet_none (k:=a) (l:=l)
  have h2:=getA_none (a:=a) (l:=r.nodes)
  have h3:=h.get a
  unfold Tc
  constructor
  · intro ha
    apply Decidable.byContradiction
    intro hb
    rw [h2.2 hb] at h3
    cases hg:Wg l a with
    | none=>exact h1.1 hg ha
    | some v=>rw [hg] at h3;cases h3
  · intro ha
    apply Decidable.byContradiction
    intro hb
    rw [h1.2 hb] at h3
    exact h2.1 h3.symm ha
theorem RIs.len {M:Mem} {r:Rg} {l:JM ZJ} (h:RIs M r l):l.length=r.nodes.length:=by
  have:=h.keys.length_eq
  simpa [Tc] using this
theorem RIs.no {M:Mem} {r:Rg} {l:JM ZJ} (h:RIs M r l) {a:Int} (hn:getA a r.nodes=none):Wg l a=none:=by
  have h3:=h.get a
  rw [hn] at h3
  cases hg:Wg l a with
  | none=>rfl
  | some v=>rw [hg] at h3;cases h3
def YX (g:Nat) (N:Int) (r:Rg) (M:Mem) (Hb:Hp):Prop :=
  ∃ (mb bb:Nat) (o:Obj) (l:JM ZJ) (hb:Hp),
    Hb=(g,rowO [.one (.int .i64 r.copies),.one (.map (some mb)),.one (.pointer (some ⟨bb,0,none⟩))] 78)::(mb,o)::hb∧UQ bb r.most N (r.bag.map WX) hb∧jmO ZJ.enc o l∧RIs M r l
theorem YX.intro {g:Nat} {N:Int} {r:Rg} {M:Mem} {mb bb:Nat} {o:Obj} {l:JM ZJ} {hb:Hp} (h1:UQ bb r.most N (r.bag.map WX) hb) (h2:jmO ZJ.enc o l) (h3:RIs M r l) :
    YX g N r M ((g,rowO [.one (.int .i64 r.copies),.one (.map (some mb)),.one (.pointer (some ⟨bb,0,none⟩))] 78)::(mb,o)::hb):=⟨mb,bb,o,l,hb,rfl,h1,h2,h3⟩
theorem YX.mono {g:Nat} {N N':Int} {r:Rg} {M M':Mem} {Hb:Hp} (h:YX g N r M Hb) (hN:N≤N') (hm:M.le M'):YX g N' r M' Hb:=by
  obtain ⟨mb,bb,o,l,hb,rfl,h1,h2,h3⟩:=h
  exact YX.intro (h1.mono hN) h2 (h3.mono hm)
theorem YX.few {g:Nat} {N:Int} {r:Rg} {M:Mem} {Hb:Hp} (h:YX g N r M Hb):r.nodes.length≤16:=by
  obtain ⟨mb,bb,o,l,hb,rfl,h1,h2,h3⟩:=h
  exact h3.few
theorem YX.rise {g:Nat} {N:Int} {r:Rg} {M:Mem} {Hb:Hp} (h:YX g N r M Hb):(Tc r).Pairwise (·<·):=by
  obtain ⟨mb,bb,o,l,hb,rfl,h1,h2,h3⟩:=h
  exact h3.rise
theorem UY {c:Prop} [Decidable c] {a b:Nd×List Snd} (ha:a.2.length≤1) (hb:b.2.length≤1):(if c then a else b).2.length≤1:=by split <;> assumption
theorem len_stab (n:Nd):(TA n).2.length≤1:=by
  unfold TA
  refine UY (Nat.le_refl _) (UY (Nat.zero_le _) (Nat.le_refl _))
theorem len_fix (n:Nd):(fixN n).2.length≤1:=by
  unfold fixN
  refine UY (Nat.zero_le _) (UY (Nat.zero_le _) (UY (Nat.zero_le _) (Nat.le_refl _)))
theorem len_check (n:Nd):(Tg n).2.length≤1:=by
  unfold Tg
  generalize (if n.pingTo≠-1 then { n with table:=XK n.table n.pingTo,pingTo:=-1 } else n)=m
  dsimp only
  cases To m.table <;> simp
theorem len_tick (n:Nd) (k:Int):(Uh n k).2.1.length≤1:=by
  unfold Uh
  split
  · exact UY (len_stab n) (UY (len_fix n) (len_check n))
  · decide
theorem len_found (n:Nd) (l:Lt):(UK n l).2.length≤1:=by
  unfold UK
  refine UY (Nat.zero_le _) (UY (UY (Nat.zero_le _) (UY (Nat.zero_le _) (Nat.zero_le _))) (UY (Nat.zero_le _) (Nat.le_refl _)))
theorem len_told (n:Nd) (l:Lt):(TS n l).2.length≤1:=by
  unfold TS
  exact UY (Nat.zero_le _) (Nat.le_refl _)
theorem len_find (n:Nd) (l:Lt):(Sn n l).length≤1:=by
  unfold Sn
  split
  · decide
  · exact Nat.le_refl _
theorem len_take (n:Nd) (l:Lt):(VZ n l).2.1.length≤1:=by
  unfold VZ
  split
  · split
    · exact Nat.zero_le _
    split
    · exact len_find n l
    split
    · exact len_found n l
    split
    · show (if n.joined=true then _ else _:List Snd).length≤1
      split <;> simp
    split
    · exact len_told n l
    split
    · exact Nat.zero_le _
    split
    · exact Nat.le_refl _
    split
    · exact Nat.zero_le _
    · exact Nat.zero_le _
  · exact Nat.zero_le _
theorem len_leave (n:Nd):(TL n).1.length≤2:=by
  unfold TL
  split
  · rw [List.length_append]
    have h1:∀ (c:Prop) [Decidable c] (s:Snd),(if c then [] else [s]).length≤1:=fun c _ s=>by split <;> simp
    have h2:∀ (c:Prop) [Decidable c] (s:Snd),(if c then [s] else []).length≤1:=fun c _ s=>by split <;> simp
    have:=h1 (n.table.succ=[]) ⟨(Xy n.table).addr,{ lett n 8 0 with peer:=n.table.pred,peers:=n.table.succ }⟩
    have:=h2 (n.table.pred≠YD∧n.table.pred≠Xy n.table) ⟨n.table.pred.addr,{ lett n 8 0 with peer:=n.table.pred,peers:=n.table.succ }⟩
    omega
  · decide
theorem sendR_step {r:Rg} {frm:Int} {l:List Ym} {k:Nat} (hk:k<l.length):UO r frm (sndl (l.take (k+1)))=putR (UO r frm (sndl (l.take k))) frm (l[k]).snd:=by
  rw [List.take_add_one,List.getElem?_eq_getElem hk]
  unfold UO sndl
  rw [List.map_append,List.foldl_append]
  rfl
theorem YX.sent {g:Nat} {N:Int} {r:Rg} {M:Mem} {mb bb:Nat} {o:Obj} {l:JM ZJ} {hb:Hp} {frm:Int} {s:Snd} (h1:UQ bb r.most N ((Tw r.most r.bag ⟨frm,s.to,s.letter⟩).map WX) hb) (h2:jmO ZJ.enc o l) (h3:RIs M r l) (hq:Ts s.letter.req) :
    YX g N (putR r frm s) M ((g,rowO [.one (.int .i64 r.copies),.one (.map (some mb)),.one (.pointer (some ⟨bb,0,none⟩))] 78)::(mb,o)::hb):=by
  rw [putR_bag]
  exact YX.intro (r:={ r with bag:=Tw r.most r.bag ⟨frm,s.to,s.letter⟩ }) h1 h2 (h3.bag (bagPut_ok h3.mail hq))
theorem sent_yes {r:Rg} {N:Int} {bb:Nat} {hb:Hp} {frm to9:Int} {lt:Lt} {b:ByteArray} (hI:IsLt lt) (hq:Ts lt.req) (hb9:b=body lt) (h:UQ bb r.most N (putL ⟨frm,to9,b⟩ r.most (r.bag.map WX)) hb) :
    UQ bb r.most N ((Tw r.most r.bag ⟨frm,to9,lt⟩).map WX) hb:=by
  subst hb9
  rw [← putL_mail (m:=⟨frm,to9,lt⟩) ⟨hI,hq⟩]
  exact h
theorem sent_no {r:Rg} {N:Int} {bb:Nat} {hb:Hp} {frm to9:Int} {lt:Lt} (hI:¬IsLt lt) (h:UQ bb r.most N (r.bag.map WX) hb):UQ bb r.most N ((Tw r.most r.bag ⟨frm,to9,lt⟩).map WX) hb:=by
  rw [bagPut_no hI]
  exact h
theorem reqS_at {l:List Ym} (h:ReqS (sndl l)) {k:Nat} (hk:k<l.length):Ts (l[k]).letter.lt.req:=h (l[k]).snd (List.mem_map_of_mem (List.getElem_mem hk))
theorem sendR_most (r:Rg) (frm:Int) (l:List Snd):(UO r frm l).most=r.most∧(UO r frm l).copies=r.copies∧(UO r frm l).nodes=r.nodes:=by
  rw [sendR_bag];exact ⟨rfl,rfl,rfl⟩
theorem deliver_none {r:Rg} {i:Int} (h:¬(0≤i∧i<r.bag.length)):Ws r i=(r,7):=if_neg h
theorem deliver_at {r:Rg} {k:Nat} (h:k<r.bag.length):Ws r k=(match getA (r.bag[k]).zto r.nodes with
      | none=>({ r with bag:=r.bag.eraseIdx k },0)
      | some n=>if (VZ n (r.bag[k]).lt).2.2=0 then (UO { r with bag:=r.bag.eraseIdx k,nodes:=putA (r.bag[k]).zto (VZ n (r.bag[k]).lt).1 r.nodes } (r.bag[k]).zto (VZ n (r.bag[k]).lt).2.1,0) else ({ r with bag:=r.bag.eraseIdx k },0)):=by
  unfold Ws
  rw [if_pos ⟨by omega,by omega⟩]
  simp only [Int.toNat_natCast,List.getElem?_eq_getElem h] <;> cases getA (r.bag[k]).zto r.nodes <;> rfl
theorem bag_erase {r:Rg} {k:Nat}:((r.bag.map WX).eraseIdx k)=(r.bag.eraseIdx k).map WX:=by rw [eraseIdx_map']
theorem deliver_gone {r:Rg} {k:Nat} {m:Ml} (hk:k<r.bag.length) (hm:r.bag[k]=m) (h:getA m.zto r.nodes=none):Ws r k=({ r with bag:=r.bag.eraseIdx k },0):=by
  rw [deliver_at hk,hm,h]
theorem deliver_yes {r:Rg} {k:Nat} {m:Ml} {n n1:Nd} {s:List Snd} (hk:k<r.bag.length) (hm:r.bag[k]=m) (h:getA m.zto r.nodes=some n) (h1:n1=(VZ n m.lt).1) (h2:s=(VZ n m.lt).2.1) (h3:(VZ n m.lt).2.2=0) :
    Ws r k=(UO { r with bag:=r.bag.eraseIdx k,nodes:=putA m.zto n1 r.nodes } m.zto s,0):=by
  rw [deliver_at hk,hm,h,h1,h2]
  exact if_pos h3
theorem deliver_not {r:Rg} {k:Nat} {m:Ml} {n:Nd} (hk:k<r.bag.length) (hm:r.bag[k]=m) (h:getA m.zto r.nodes=some n) (h3:¬(VZ n m.lt).2.2=0):Ws r k=({ r with bag:=r.bag.eraseIdx k },0):=by
  rw [deliver_at hk,hm,h]
  exact if_neg h3
theorem deliver_bad {r:Rg} {i:Int} (h:¬(Ws r i).2=0):Ws r i=(r,7):=by
  by_cases hi:0≤i∧i<r.bag.length
  · obtain ⟨k,rfl⟩:∃ k:Nat,i=k:=⟨i.toNat,by omega⟩
    exfalso;apply h
    rw [deliver_at jC]
    cases getA (r.bag[k]'jC).zto r.nodes with
    | none=>rfl
    | some n=>simp only [];split <;> rfl
  · exact deliver_none hi
theorem RIs.some {M:Mem} {r:Rg} {l:JM ZJ} (h:RIs M r l) {a:Int} {x:ZJ} (hx:(Wg l a).getD ZJ.zero=x) (hs:(Wg l a).isSome=true):getA a r.nodes=some x.nd∧ZJ.ok M x:=by
  cases hg:Wg l a with
  | none=>rw [hg] at hs;cases hs
  | some v =>
    rw [hg] at hx
    simp only [Option.getD_some] at hx
    subst hx
    exact ⟨by rw [← h.get a,hg];rfl,h.ok _ (jmGet_mem hg)⟩
theorem RIs.none {M:Mem} {r:Rg} {l:JM ZJ} (h:RIs M r l) {a:Int} (hs:(Wg l a).isSome=false):getA a r.nodes=Option.none:=by
  rw [← h.get a]
  cases hg:Wg l a with
  | none=>rfl
  | some v=>rw [hg] at hs;cases hs
theorem flush_step {n:Nat} {r:Rg} (h:(Ws r 0).2=0):VX (n+1) r=VX n (Ws r 0).1:=if_pos h
theorem flush_end {n:Nat} {r:Rg} (h:¬(Ws r 0).2=0):VX n r=r:=by
  cases n with
  | zero=>rfl
  | succ n=>exact if_neg h
theorem tick_none {r:Rg} {a k:Int} (h:getA a r.nodes=none):TX r a k=(r,7):=by unfold TX;rw [h]
theorem tick_good {r:Rg} {a k:Int} {n n1:Nd} {s:List Snd} (h:getA a r.nodes=some n) (h1:n1=(Uh n k).1) (h2:s=(Uh n k).2.1) (h3:(Uh n k).2.2=0):TX r a k=(UO { r with nodes:=putA a n1 r.nodes } a s,0):=by
  unfold TX;rw [h,h1,h2]
  exact if_pos h3
theorem tick_bad {r:Rg} {a k:Int} {n:Nd} (h:getA a r.nodes=some n) (h3:¬(Uh n k).2.2=0):TX r a k=(r,(Uh n k).2.2):=by
  unfold TX;rw [h]
  exact if_neg h3
theorem isS_no {b:Bool} (h:(!b)=true):b=false:=by simpa using h
theorem isS_yes {b:Bool} (h:(!b)=false):b=true:=by simpa using h
def FlEq (F k:Nat) (r r1:Rg):Prop:=VX F r=VX (F-k) r1
theorem FlEq.step {F k:Nat} {r r1:Rg} (h:FlEq F k r r1) (hk:k<F) (h0:(Ws r1 0).2=0):FlEq F (k+1) r (Ws r1 0).1:=by
  unfold FlEq at *
  rw [h,show F-k=(F-(k+1))+1 by omega,flush_step h0]
theorem FlEq.ends {F k:Nat} {r r1:Rg} (h:FlEq F k r r1) (h0:¬(Ws r1 0).2=0):VX F r=r1:=by
  unfold FlEq at h
  rw [h,flush_end h0]
theorem FlEq.full {F:Nat} {r r1:Rg} (h:FlEq F F r r1):VX F r=r1:=by
  unfold FlEq at h
  rw [h,Nat.sub_self];rfl
theorem YX.cop {g:Nat} {N:Int} {r:Rg} {M:Mem} {Hb:Hp} (h:YX g N r M Hb):1≤r.copies∧r.copies≤8:=by
  obtain ⟨mb,bb,o,l,hb,rfl,h1,h2,h3⟩:=h
  exact h3.cop
theorem start_good {r:Rg} {a:Int} {X:Nd×Int} {n:Nd} (h:X.2=0) (e:n=X.1):UR r a X=({ r with nodes:=putA a n r.nodes },0):=by
  unfold UR;rw [if_pos h,e]
theorem start_bad {r:Rg} {a:Int} {X:Nd×Int} (h:¬X.2=0):UR r a X=(r,X.2):=if_neg h
theorem nodes_len {r:Rg}:r.nodes≠[]↔0<r.nodes.length:=by
  cases r.nodes <;> simp
theorem begin_bad {pn:Int→Zs} {r:Rg} {a:Int} (h:¬Yo a):Tp pn r a=(r,1):=if_pos h
theorem begin_kind {pn:Int→Zs} {r:Rg} {a:Int} (h:Yo a) (h1:0<r.nodes.length):Tp pn r a=(r,13):=by
  unfold Tp;rw [if_neg (fun h9=>h9 h),if_pos (nodes_len.2 h1)]
theorem begin_good {pn:Int→Zs} {r:Rg} {a:Int} (h:Yo a) (h1:¬0<r.nodes.length):Tp pn r a=UR r a (Uw (pn a) r.copies):=by
  unfold Tp;rw [if_neg (fun h9=>h9 h),if_neg (fun h9=>h1 (nodes_len.1 h9))]
section
variable {pn:Int→Zs} {r:Rg} {a b:Int}
theorem join_neg (h:Yo a∧Yo b∧¬a=b):¬(¬Yo a∨¬Yo b∨a=b):=fun h9=>h9.elim (fun q=>q h.1) (fun h9=>h9.elim (fun q=>q h.2.1) h.2.2)
theorem join_bad (h:¬Yo a∨¬Yo b∨a=b):UU pn r a b=(r,1):=if_pos h
theorem join_twice (h:Yo a∧Yo b∧¬a=b) (h1:(getA a r.nodes).isSome=true):UU pn r a b=(r,9):=by
  unfold UU;rw [if_neg (join_neg h),if_pos h1]
theorem join_full (h:Yo a∧Yo b∧¬a=b) (h1:(getA a r.nodes).isSome=false) (h2:16≤r.nodes.length):UU pn r a b=(r,12):=by
  unfold UU;rw [if_neg (join_neg h),if_neg (by rw [h1];decide),if_pos h2]
theorem join_none (h:Yo a∧Yo b∧¬a=b) (h1:(getA a r.nodes).isSome=false) (h2:¬16≤r.nodes.length) (h3:(getA b r.nodes).isSome=false):UU pn r a b=(r,7):=by
  unfold UU;rw [if_neg (join_neg h),if_neg (by rw [h1];decide),if_neg h2,if_pos h3]
theorem join_good (h:Yo a∧Yo b∧¬a=b) (h1:(getA a r.nodes).isSome=false) (h2:¬16≤r.nodes.length) (h3:(getA b r.nodes).isSome=true):UU pn r a b=UR r a (UT (pn a) r.copies b):=by
  unfold UU;rw [if_neg (join_neg h),if_neg (by rw [h1];decide),if_neg h2,if_neg (by rw [h3];decide)]
end
theorem RIs.isS {M:Mem} {r:Rg} {l:JM ZJ} (h:RIs M r l) (a:Int):(Wg l a).isSome=(getA a r.nodes).isSome:=by
  rw [← h.get a]
  cases Wg l a <;> rfl
theorem goes_none {r:Rg} {kind a:Int} (h:getA a r.nodes=none):Sa r kind a=(r,7):=by unfold Sa;rw [h]
theorem goes_leave {r:Rg} {a:Int} {n:Nd} {s:List Snd} (h:getA a r.nodes=some n) (hs:s=(TL n).1):Sa r 3 a=({ UO r a s with nodes:=delA a r.nodes },0):=by
  unfold Sa;rw [h,hs];rfl
theorem goes_crash {r:Rg} {kind a:Int} {n:Nd} (h:getA a r.nodes=some n) (hk:¬kind=3):Sa r kind a=({ r with nodes:=delA a r.nodes },0):=by
  unfold Sa;rw [h]
  exact if_neg hk
section
variable {pn:Int→Zs} {r:Rg} {t:Trn}
theorem do1 (h:t.kind=1):doR pn r t=Tp pn r t.a:=if_pos h
theorem do2 (h:t.kind=2):doR pn r t=UU pn r t.a t.b:=by unfold doR;rw [if_neg (by omega),if_pos h]
theorem do34 (h:t.kind=3∨t.kind=4):doR pn r t=Sa r t.kind t.a:=by unfold doR;rw [if_neg (by omega),if_neg (by omega),if_pos h]
theorem do5 (h:t.kind=5):doR pn r t=TX r t.a t.b:=by unfold doR;rw [if_neg (by omega),if_neg (by omega),if_neg (by omega),if_pos h]
theorem do6 (h:t.kind=6):doR pn r t=Ws r t.a:=by unfold doR;rw [if_neg (by omega),if_neg (by omega),if_neg (by omega),if_neg (by omega),if_pos h]
theorem do7 (h:t.kind=7):doR pn r t=dropR r t.a:=by unfold doR;rw [if_neg (by omega),if_neg (by omega),if_neg (by omega),if_neg (by omega),if_neg (by omega),if_pos h]
theorem do8 (h:t.kind=8):doR pn r t=TB r t.a:=by unfold doR;rw [if_neg (by omega),if_neg (by omega),if_neg (by omega),if_neg (by omega),if_neg (by omega),if_neg (by omega),if_pos h]
theorem do9 (h:t.kind=9):doR pn r t=(TC r,0):=by unfold doR;rw [if_neg (by omega),if_neg (by omega),if_neg (by omega),if_neg (by omega),if_neg (by omega),if_neg (by omega),if_neg (by omega),if_pos h]
theorem do0 (h:¬(1≤t.kind∧t.kind≤9)):doR pn r t=(r,13):=by unfold doR;rw [if_neg (by omega),if_neg (by omega),if_neg (by omega),if_neg (by omega),if_neg (by omega),if_neg (by omega),if_neg (by omega),if_neg (by omega)]
end
theorem drop_is (r:Rg) (i:Int):atC i (r.bag.map WX)=(dropR r i).2∧takB i (r.bag.map WX)=(dropR r i).1.bag.map WX∧(dropR r i).1={ r with bag:=(dropR r i).1.bag }∧∀ m∈(dropR r i).1.bag,m∈r.bag:=by
  unfold dropR
  by_cases h:0≤i∧i<r.bag.length
  · rw [if_pos h]
    obtain ⟨k,rfl⟩:∃ k:Nat,i=k:=⟨i.toNat,by omega⟩
    refine ⟨atC_zero.2 (by rw [List.length_map];exact h),?_,rfl,fun m hm=>List.mem_of_mem_eraseIdx hm⟩
    rw [takB_ok,bag_erase]
    rfl
  · rw [if_neg h]
    have h7:atC i (r.bag.map WX)=7:=by
      unfold atC
      rw [if_pos zF]
    exact ⟨h7,take_none (by rw [h7];decide),rfl,fun m hm=>hm⟩
theorem twice_is {r:Rg} (i:Int) (hm:∀ m∈r.bag,okMl m):twiceC i r.most (r.bag.map WX)=(TB r i).2∧twiceL i r.most (r.bag.map WX)=(TB r i).1.bag.map WX∧(TB r i).1={ r with bag:=(TB r i).1.bag }∧∀ m∈(TB r i).1.bag,m∈r.bag:=by
  unfold TB twiceC twiceL
  by_cases h:0≤i∧i<r.bag.length
  · rw [if_pos h]
    obtain ⟨k,rfl⟩:∃ k:Nat,i=k:=⟨i.toNat,by omega⟩
    have hk:k<r.bag.length:=by omega
    have h0:atC (k:Int) (r.bag.map WX)=0:=atC_zero.2 (by rw [List.length_map];exact h)
    have hat:atM (k:Int) (r.bag.map WX)=WX r.bag[k]:=by
      have h9:=(at_okN k (r.bag.map WX) (by rw [List.length_map];exact hk)).1
      rw [List.getElem_map] at h9
      exact h9
    rw [if_pos h0,if_pos h0,hat]
    simp only [Int.toNat_natCast,List.getElem?_eq_getElem hk]
    have h1:=body_size (hm _ (List.getElem_mem hk)).1 (hm _ (List.getElem_mem hk)).2
    have hsz:¬(4096:Int)<((WX r.bag[k]).body.size:Int):=by
      show ¬(4096:Int)<((body (r.bag[k]).lt).size:Int)
      omega
    by_cases hf:(r.bag.length:Int)<r.most
    · rw [if_pos hf]
      obtain ⟨g1,g2⟩:=put_ok (WX r.bag[k]) r.most (r.bag.map WX) hsz zF
      rw [g1,g2]
      refine ⟨rfl,by rw [List.map_append];rfl,rfl,fun m hm=>?_⟩
      rcases List.mem_append.1 hm with hm|hm
      · exact hm
      · rw [List.mem_singleton.1 hm];exact List.getElem_mem hk
    · rw [if_neg hf]
      obtain ⟨g1,g2⟩:=put_full (WX r.bag[k]) r.most (r.bag.map WX) hsz zF
      rw [g1,g2]
      exact ⟨rfl,rfl,rfl,fun m hm=>hm⟩
  · rw [if_neg h]
    have h7:atC i (r.bag.map WX)=7:=by
      unfold atC
      rw [if_pos zF]
    rw [if_neg (by rw [h7];decide),if_neg (by rw [h7];decide)]
    exact ⟨h7,rfl,rfl,fun m hm=>hm⟩
theorem YX.rebag {g:Nat} {N:Int} {r r2:Rg} {M:Mem} {mb bb:Nat} {o:Obj} {l:JM ZJ} {hb:Hp} (h1:UQ bb r.most N (r2.bag.map WX) hb) (h2:jmO ZJ.enc o l) (h3:RIs M r l) (he:r2={ r with bag:=r2.bag }) (hm:∀ m∈r2.bag,m∈r.bag) :
    YX g N r2 M ((g,rowO [.one (.int .i64 r.copies),.one (.map (some mb)),.one (.pointer (some ⟨bb,0,none⟩))] 78)::(mb,o)::hb):=by
  rw [he]
  exact YX.intro (r:={ r with bag:=r2.bag }) h1 h2 (h3.bag fun m h9=>h3.mail m (hm m h9))
end Go.Esp
namespace Go.Proofs.YtglnjnacodgmaaaGreatDoor
open Go.Esp
theorem F.bld78:Bld Tryz.prog 78 [[.one (.int .i64 0)],[.one (.map none)],[.one (.pointer none)]]:=⟨by kernel_rfl,by kernel_rfl⟩
theorem F.bld82:Bld Tryz.prog 82 [[.one (.int .i64 0)],[.one (.int .i64 0)],[.one (.string ⟨#[]⟩)]]:=⟨by kernel_rfl,by kernel_rfl⟩
theorem F.foff169_0:foff Tryz.prog 169 0=some 0:=by kernel_rfl
theorem F.foff169_1:foff Tryz.prog 169 1=some 1:=by kernel_rfl
theorem F.foff78_2:foff Tryz.prog 78 2=some 2:=by kernel_rfl
theorem F.lay169:lay Tryz.prog 169=some (true,68):=by kernel_rfl
theorem F.lay73:lay Tryz.prog 73=some (false,1):=by kernel_rfl
theorem F.ok104:okFn Tryz.prog 104=true:=by kernel_rfl
theorem F.ok27:okFn Tryz.prog 27=true:=by kernel_rfl
theorem F.ok72:okFn Tryz.prog 72=true:=by kernel_rfl
theorem rNew_ok (M:Mem) (c most:Int) (hc:1≤c∧c≤8) (hm:1≤most∧most≤1000):Fh Tryz.prog 8 [.int .i64 c,.int .i64 most] M [] (fun M' v Hb=>∃ gb,v=.tuple #[.pointer (some ⟨gb,0,none⟩),.int .i64 0]∧YX gb 0 ⟨c,most,[],[]⟩ M' Hb):=by
  refine YR (fun H=>[]++H) (fun _=>rfl) Tryz.func8 rfl Tryz.ntmps8 rfl ?_;intro H
  iterate 9 refine Stp ?_
  refine WE rfl rfl F.ok27 rfl (B.New_ok M most hm) jA (fun _ _ _ hm hw=>(hw.lower jV).c) (ZT rfl) ?_
  rintro _ M1 hb hm1 ⟨hM1,bb,rfl,hbag⟩;subst M1
  iterate 13 refine Stp ?_
  refine Yt 15 rfl (eT fun hc1=>?_) (eF fun hc1=>?_)
  ·simp only [Zs.eta,ZO.eta,ZJ.eta,ZF.eta,Ym.eta,Yv.eta,Yy.eta,Yq.eta,ZN.eta,YF.eta,ZU.eta] at hc1
   (exfalso;simp [eqX] at hc1;done)
  ·simp only [Zs.eta,ZO.eta,ZJ.eta,ZF.eta,Ym.eta,Yv.eta,Yy.eta,Yq.eta,ZN.eta,YF.eta,ZU.eta] at hc1
   iterate 4 refine Stp ?_
   refine Yt 19 rfl (cT fun hc2=>?_) (cF fun hc2=>?_)
   ·(exfalso;omega)
   ·iterate 5 refine Stp ?_
    refine ZW rfl (cT fun hc3=>?_) (cF fun hc3=>?_)
    ·(exfalso;omega)
    ·iterate 5 refine Stp ?_
     refine X_makeMap rfl rfl rfl ?_;intro b4
     refine Yk ?_;refine Xo rfl rfl F.bld78 (.cons rfl jG (.cons rfl jG (.cons rfl jG .nil))) rfl rfl ?_
     refine Xq ?_;intro b5
     iterate 5 refine Stp ?_
     refine ZV (.inr rfl) (.tmp rfl (.tmp rfl .nil)) (fun w hw=>?_)
     exact ⟨_,M,(b5,rowO [.one (.int .i64 c),.one (.map (some b4)),.one (.pointer (some ⟨bb,0,none⟩))] 78)::(b4,.map #[] 0)::hb,rfl,Mem.le.refl M,hw.c,_,rfl,YX.intro (r:=⟨c,most,[],[]⟩) (mb:=b4) hbag (jmO.nil _) (RIs.nil M c most hc)⟩
theorem rNew_no1 (M:Mem) (c most:Int) (hm:most<1∨1000<most):Fs Tryz.prog 8 [.int .i64 c,.int .i64 most] M (fun v=>v=.tuple #[.pointer none,.int .i64 1]):=by
  refine Xe Tryz.func8 rfl Tryz.ntmps8 rfl ?_;intro H
  iterate 9 refine Stp ?_
  refine X_fs rfl rfl F.ok27 rfl (B.New_no M most hm) rfl ?_
  rintro _ rfl
  iterate 13 refine Stp ?_
  refine Yt 15 rfl (eT fun hc1=>?_) (eF fun hc1=>?_)
  ·iterate 18 refine Stp ?_
   refine ZV (.inr rfl) (.tmp rfl (.tmp rfl .nil)) (fun w hw=>?_)
   exact ⟨_,rfl,hw.c,rfl⟩
  ·(exfalso;omega)
theorem rNew_no2 (M:Mem) (c most:Int) (hm:1≤most∧most≤1000) (hc:¬(1≤c∧c≤8)):Fs Tryz.prog 8 [.int .i64 c,.int .i64 most] M (fun v=>v=.tuple #[.pointer none,.int .i64 1]):=by
  refine Xe Tryz.func8 rfl Tryz.ntmps8 rfl ?_;intro H
  iterate 9 refine Stp ?_
  refine WE rfl rfl F.ok27 rfl (B.New_ok M most hm) jA (fun _ _ _ hm hw=>(hw.lower jV).c) (ZT rfl) ?_
  rintro _ M1 hb hm1 ⟨hM1,bb,rfl,hbag⟩;subst M1
  iterate 13 refine Stp ?_
  refine Yt 15 rfl (eT fun hc1=>?_) (eF fun hc1=>?_)
  ·simp only [Zs.eta,ZO.eta,ZJ.eta,ZF.eta,Ym.eta,Yv.eta,Yy.eta,Yq.eta,ZN.eta,YF.eta,ZU.eta] at hc1
   (exfalso;simp [eqX] at hc1;done)
  ·simp only [Zs.eta,ZO.eta,ZJ.eta,ZF.eta,Ym.eta,Yv.eta,Yy.eta,Yq.eta,ZN.eta,YF.eta,ZU.eta] at hc1
   iterate 4 refine Stp ?_
   refine Yt 19 rfl (cT fun hc2=>?_) (cF fun hc2=>?_)
   ·iterate 14 refine Stp ?_
    refine ZV (.inr rfl) (.tmp rfl (.tmp rfl .nil)) (fun w hw=>?_)
    exact ⟨_,rfl,hw.c,rfl⟩
   ·iterate 5 refine Stp ?_
    refine ZW rfl (cT fun hc3=>?_) (cF fun hc3=>?_)
    ·iterate 8 refine Stp ?_
     refine ZV (.inr rfl) (.tmp rfl (.tmp rfl .nil)) (fun w hw=>?_)
     exact ⟨_,rfl,hw.c,rfl⟩
    ·(exfalso;omega)
theorem Put_all (M:Mem) (l:ZF) (hl:ZF.ok M l) (hq:Ts l.lt.req):Fs Tryz.prog 104 [l.enc] M (fun v=>∃ (b:ByteArray) (e:Int),v=.tuple #[.string b,.int .i64 e]∧((IsLt l.lt∧e=0∧b=body l.lt)∨(¬IsLt l.lt∧e=1))):=by
  by_cases h:IsLt l.lt
  ·exact fun H w hw=>(Put_ok M l hl h hq H w hw).mono fun e w2 ⟨v,g1,g2,g3⟩=>⟨v,g1,g2,_,_,g3,.inl ⟨h,rfl,rfl⟩⟩
  ·exact fun H w hw=>(Put_no M l hl h H w hw).mono fun e w2 ⟨v,g1,g2,g3⟩=>⟨v,g1,g2,_,_,g3,.inr ⟨h,rfl⟩⟩
theorem send_okR (M:Mem) (gb:Nat) (N:Int) (r:Rg) (Hb:Hp) (hR:YX gb N r M Hb) (frm:Int) (l:Sl Ym) (k_l:SlK M Ym.segs 68 l) (o_l:∀ y∈l.l,Ym.ok M y) (hq:ReqS (sndl l.l)) (hN:N+l.l.length≤1000000000000000):Fh Tryz.prog 67 [.pointer (some ⟨gb,0,none⟩),.int .i64 frm,Sl.val l] M Hb (fun M' v Hb'=>M'=M∧v=.tuple #[]∧YX gb (N+l.l.length) (UO r frm (sndl l.l)) M Hb'):=by
  obtain ⟨l_a,l_c,l_l⟩:=l
  have s_l:SlM M l_a (l_l.map Ym.segs) 68:=k_l.h1
  have n_l:(l_l.map Ym.segs).length=l_l.length:=List.length_map ..
  have m_l:l_l.length≤9223372036854775807:=k_l.h2
  simp only at hq hN o_l ⊢
  refine YR (fun H=>Hb++H) (fun _=>rfl) Tryz.func67 rfl Tryz.ntmps67 rfl ?_;intro H
  iterate 3 refine Stp ?_
  refine YA F.elem121 ?_
  iterate 4 refine Stp ?_
  refine Y_pk [12,11,10,0,1] ?_;refine Wt (Hin:=Hb) (.succ .zero) jA (fun (k:Nat) M1 h1 z=>M1=M∧z=[(12,.int .i64 (k:Int))]∧k≤l_l.length∧YX gb (N+k) (UO r frm (sndl (l_l.take k))) M h1) (fun k=>l_l.length-k) (0) (⟨rfl,rfl,by omega,by simpa [sndl,UO] using hR⟩) ?_
  rintro k M1 h1 z hm1 ⟨hM1,rfl,hk,hR1⟩
  obtain rfl:=hM1.symm
  obtain ⟨r1,hr1⟩:∃ r1,UO r frm (sndl (l_l.take k))=r1:=⟨_,rfl⟩
  rw [hr1] at hR1
  obtain ⟨mb,bb,o,jl,hb,rfl,hbag,hom,hri⟩:=hR1
  iterate 6 refine Stp ?_
  refine ZW rfl (cT fun hc1=>?_) (cF fun hc1=>?_)
  ·iterate 5 refine Stp ?_
   obtain ⟨⟨s_to,⟨s_kind,⟨s_frm_addr,s_frm_id⟩,s_req,s_id,⟨s_avoid_a,s_avoid_c,s_avoid_l⟩,s_done,⟨s_peer_addr,s_peer_id⟩,⟨s_peers_a,s_peers_c,s_peers_l⟩⟩⟩,he9⟩:∃ s,l_l[k]'jC=s:=⟨_,rfl⟩
   have hq9:=reqS_at hq (show k<l_l.length by omega)
   have ho9:=o_l _ (List.getElem_mem (show k<l_l.length by omega))
   rw [he9] at hq9 ho9
   refine Stp ?_;refine Ys rfl rfl rfl rfl F.elem121 jR jC yB rfl ?_;refine Xm rfl rfl rfl jE yC F.lay169 rfl rfl rfl ?_
   simp only [List.get_eq_getElem,he9]
   refine Yz F.zero169 ?_;intro b2
   refine Ul rfl rfl rfl rfl jG jM jH F.lay169 jD (Tm (m:=68) rfl jD jD) ?_
   iterate 4 refine Stp ?_
   refine Zi F.foff169_1 ?_;refine Zy F.lay128 ?_;refine X_fs rfl rfl F.ok104 rfl (Put_all M ⟨s_kind,⟨s_frm_addr,s_frm_id⟩,s_req,s_id,⟨s_avoid_a,s_avoid_c,s_avoid_l⟩,s_done,⟨s_peer_addr,s_peer_id⟩,⟨s_peers_a,s_peers_c,s_peers_l⟩⟩ ho9.h0 hq9) rfl ?_
   rintro _ ⟨b9,e9,rfl,hp9⟩
   iterate 13 refine Stp ?_
   refine ZW rfl (cT fun hc3=>?_) (cF fun hc3=>?_)
   ·refine C_region_anyR (l:=[0,1,2,3,4,5,6,7,8,9]) (Hin:=hb) #[0,1,3,7,0,0,32,0,240,511] jA rfl jI jI ?_
    iterate 2 refine Stp ?_
    refine Zi F.foff78_2 ?_;refine Zy F.lay73 ?_;refine Yk ?_;refine Zi F.foff169_0 ?_;refine Zy F.lay3 ?_;refine Yk ?_;refine Xo rfl rfl F.bld82 (.cons rfl jG (.cons rfl jG (.cons rfl jG .nil))) rfl rfl ?_;refine WE rfl rfl F.ok72 rfl (B.Put_ok M bb _ _ _ hb ⟨frm,s_to,b9⟩ jC hbag) jA (fun _ _ _ hm hw=>(hw.lower jV).c) (ZT rfl) ?_
    rintro _ M2 hb2 hm2 ⟨hM2,rfl,hbag2⟩;subst M2
    iterate 4 refine Stp ?_
    refine YO rfl rfl rfl rfl rfl yA rfl ?_
    iterate 2 refine Stp ?_
    refine Xa (a':=[(12,_)]) (k+1) (((gb,rowO [.one (.int .i64 r1.copies),.one (.map (some mb)),.one (.pointer (some ⟨bb,0,none⟩))] 78)::(mb,o)::hb2)) (.cons (k:=12) rfl (.cons (k:=11) rfl (.cons (k:=10) rfl (.cons (k:=0) rfl (.cons (k:=1) rfl (.nil)))))) jP (fun w hw=>by first|exact hw|exact hw.c) ?_ ?_
    ·refine ⟨rfl,rfl,by omega,?_⟩
     rw [sendR_step jC,hr1,he9,show N+((k+1:Nat):Int)=N+k+1 by omega]
     rcases hp9 with ⟨g1,g2,g3⟩|⟨g1,g2⟩
     ·exact YX.sent (sent_yes g1 hq9 g3 hbag2) hom hri hq9
     ·exact absurd (show e9=0 by assumption) jC
    ·omega
   ·iterate 4 refine Stp ?_
    refine YO rfl rfl rfl rfl rfl yA rfl ?_
    iterate 2 refine Stp ?_
    refine Xa (a':=[(12,_)]) (k+1) (((gb,rowO [.one (.int .i64 r1.copies),.one (.map (some mb)),.one (.pointer (some ⟨bb,0,none⟩))] 78)::(mb,o)::hb)) (.cons (k:=12) rfl (.cons (k:=11) rfl (.cons (k:=10) rfl (.cons (k:=0) rfl (.cons (k:=1) rfl (.nil)))))) jP (fun w hw=>by first|exact hw|exact hw.c) ?_ ?_
    ·refine ⟨rfl,rfl,by omega,?_⟩
     rw [sendR_step jC,hr1,he9,show N+((k+1:Nat):Int)=N+k+1 by omega]
     rcases hp9 with ⟨g1,g2,g3⟩|⟨g1,g2⟩
     ·exact absurd g2 jE
     ·exact YX.sent (sent_no g1 (hbag.mono jC)) hom hri hq9
    ·omega
  ·iterate 4 refine Stp ?_
   refine ZV (.inl rfl) (.nil) (fun w hw=>?_)
   obtain rfl:k=l_l.length:=by omega
   rw [List.take_length] at hr1
   exact ⟨_,M,_,rfl,Mem.le.refl M,hw.c,rfl,rfl,by rw [hr1];exact YX.intro hbag hom hri⟩
theorem F.foff78_1:foff Tryz.prog 78 1=some 1:=by kernel_rfl
theorem F.foff82_1:foff Tryz.prog 82 1=some 1:=by kernel_rfl
theorem F.foff82_2:foff Tryz.prog 82 2=some 2:=by kernel_rfl
theorem F.lay76:lay Tryz.prog 76=some (false,1):=by kernel_rfl
theorem F.lay82:lay Tryz.prog 82=some (true,3):=by kernel_rfl
theorem F.ok33:okFn Tryz.prog 33=true:=by kernel_rfl
theorem F.ok67:okFn Tryz.prog 67=true:=by kernel_rfl
theorem F.ok69:okFn Tryz.prog 69=true:=by kernel_rfl
theorem F.ok70:okFn Tryz.prog 70=true:=by kernel_rfl
theorem F.zero82:XW Tryz.prog 82=some (aggV [.one (.int .i64 0),.one (.int .i64 0),.one (.string ⟨#[]⟩)]):=by kernel_rfl
theorem deliver_no (M:Mem) (gb:Nat) (N:Int) (r:Rg) (Hb:Hp) (hR:YX gb N r M Hb) (i:Int) (hi:¬(0≤i∧i<r.bag.length)):Fh Tryz.prog 32 [.pointer (some ⟨gb,0,none⟩),.int .i64 i] M Hb (fun M' v Hb'=>v=.int .i64 (Ws r i).2∧YX gb N (Ws r i).1 M' Hb'):=by
  obtain ⟨mb,bb,o,jl,hb,rfl,hbag,hom,hri⟩:=hR
  refine YR (fun H=>(gb,rowO [.one (.int .i64 r.copies),.one (.map (some mb)),.one (.pointer (some ⟨bb,0,none⟩))] 78)::(mb,o)::(hb++H)) (fun _=>by simp only [List.append_assoc,List.cons_append,List.nil_append]) Tryz.func32 rfl Tryz.ntmps32 rfl ?_;intro H
  iterate 6 refine Stp ?_
  refine Wh (l:=[0,1,2,3,4,5,6,7,8,9,10,11]) (Hin:=hb) jA rfl ?_
  iterate 2 refine Stp ?_
  refine Zi F.foff78_2 ?_;refine Zy F.lay73 ?_;refine Yk ?_;refine WE rfl rfl F.ok33 rfl (B.Take_ok M bb r.most N (r.bag.map WX) hb i hbag) jA (fun _ _ _ hm hw=>(hw.lower jV).c) (ZT rfl) ?_
  rintro v1 M1 hb1 hm1 ⟨hM1,hv1,hbag1⟩;subst M1
  have hat:atM i (r.bag.map WX)=Yv.zero∧atC i (r.bag.map WX)=7:=at_none i _ zF
  rw [hat.1,hat.2] at hv1
  subst hv1
  rw [take_none (by rw [hat.2];decide)] at hbag1
  iterate 3 refine Stp ?_
  refine Yz F.zero82 ?_;intro b1
  refine Ya F.lay82 ?_
  iterate 10 refine Stp ?_
  refine ZW rfl (eT fun hc2=>?_) (eF fun hc2=>?_)
  ·iterate 8 refine Stp ?_
   refine ZV (.inr rfl) (.tmp rfl .nil) (fun w hw=>?_)
   refine ⟨_,M,_,rfl,Mem.le.refl M,hw.cnt (H':=((gb,rowO [.one (.int .i64 r.copies),.one (.map (some mb)),.one (.pointer (some ⟨bb,0,none⟩))] 78)::(mb,o)::hb1)++H) jF,?_⟩
   rw [deliver_none hi]
   exact ⟨rfl,YX.intro hbag1 hom hri⟩
  ·(exfalso;omega)
theorem deliver_is (M:Mem) (gb:Nat) (N:Int) (r:Rg) (Hb:Hp) (hR:YX gb N r M Hb) (k:Nat) (hk:k<r.bag.length) (hN:N+1≤1000000000000000):Fh Tryz.prog 32 [.pointer (some ⟨gb,0,none⟩),.int .i64 (k:Int)] M Hb (fun M' v Hb'=>v=.int .i64 (Ws r k).2∧YX gb (N+1) (Ws r k).1 M' Hb'):=by
  obtain ⟨mb,bb,o,jl,hb,rfl,hbag,hom,hri⟩:=hR
  obtain ⟨⟨m_frm,m_to,m_lt⟩,hm⟩:∃ m,r.bag[k]=m:=⟨_,rfl⟩
  have hml:okMl ⟨m_frm,m_to,m_lt⟩:=by rw [← hm];exact hri.mail _ (List.getElem_mem _)
  have hri1:=hri.bag (b:=r.bag.eraseIdx k) (fun x hx=>hri.mail x (List.mem_of_mem_eraseIdx hx))
  refine YR (fun H=>(gb,rowO [.one (.int .i64 r.copies),.one (.map (some mb)),.one (.pointer (some ⟨bb,0,none⟩))] 78)::(mb,o)::(hb++H)) (fun _=>by simp only [List.append_assoc,List.cons_append,List.nil_append]) Tryz.func32 rfl Tryz.ntmps32 rfl ?_;intro H
  iterate 6 refine Stp ?_
  refine Wh (l:=[0,1,2,3,4,5,6,7,8,9,10,11]) (Hin:=hb) jA rfl ?_
  iterate 2 refine Stp ?_
  refine Zi F.foff78_2 ?_;refine Zy F.lay73 ?_;refine Yk ?_;refine WE rfl rfl F.ok33 rfl (B.Take_ok M bb r.most N (r.bag.map WX) hb (k:Int) hbag) jA (fun _ _ _ hm hw=>(hw.lower jV).c) (ZT rfl) ?_
  rintro v1 M1 hb1 hm1 ⟨hM1,hv1,hbag1⟩;subst M1
  have hat:atM (k:Int) (r.bag.map WX)=(⟨m_frm,m_to,body m_lt⟩:Yv)∧atC (k:Int) (r.bag.map WX)=0:=by
   have h9:=at_okN k (r.bag.map WX) zF
   rw [List.getElem_map,hm] at h9
   exact h9
  rw [hat.1,hat.2] at hv1
  subst hv1
  rw [takB_ok,bag_erase] at hbag1
  iterate 3 refine Stp ?_
  refine Yz F.zero82 ?_;intro b1
  refine Ya F.lay82 ?_
  iterate 10 refine Stp ?_
  refine ZW rfl (eT fun hc2=>?_) (eF fun hc2=>?_)
  ·simp only [Zs.eta,ZO.eta,ZJ.eta,ZF.eta,Ym.eta,Yv.eta,Yy.eta,Yq.eta,ZN.eta,YF.eta,ZU.eta] at hc2
   (exfalso;simp [eqX] at hc2;done)
  ·simp only [Zs.eta,ZO.eta,ZJ.eta,ZF.eta,Ym.eta,Yv.eta,Yy.eta,Yq.eta,ZN.eta,YF.eta,ZU.eta] at hc2
   iterate 3 refine Stp ?_
   refine Yg (l:=[0,1,2,3,4,5,6,7,8,9,10,11,12]) #[0,1,3,7,0,16,63,127,255,255,0,1535,4095] _ rfl jI jI St.drawn (fun _ h=>h) ?_
   iterate 2 refine Stp ?_
   refine Zi F.foff78_1 ?_;refine Zy F.lay76 ?_;refine Zi F.foff82_1 ?_;refine Zy F.lay3 ?_;refine X_lookup2J (en:=ZJ.enc) (z:=ZJ.zero) rfl rfl rfl rfl ⟨Tryz.underlying3⟩ Tryz.underlying76 (show _=some (ZJ.enc ZJ.zero) from F.zero44) jB hom rfl ?_
   obtain ⟨⟨⟨⟨Xd,XQ⟩,⟨XO,XZ⟩,⟨We,Wd,Wc⟩,⟨XH,XG,XF⟩⟩,UE,UA,TJ,UD,Sq,Tk,UF,Uz,Uc,UB,Ud,UC,⟨Ug,Uf,Ue⟩,TI,TH⟩,hx9⟩:∃ x:ZJ,(Wg jl (m_to)).getD ZJ.zero=x:=⟨_,rfl⟩
   rw [hx9]
   iterate 3 refine Stp ?_
   refine Yz F.zero44 ?_;intro b3
   refine Wf F.lay44 ?_
   iterate 5 refine Stp ?_
   refine Zi F.foff82_2 ?_;refine Zy F.lay9 ?_;refine X_fn rfl rfl F.ok69 rfl (Get_ok M m_lt hml.1 hml.2) rfl ?_
   rintro _ M2 hm2 ⟨⟨ZK,⟨ZH,ZY⟩,Yd,l_id,⟨ZS,ZR,ZG⟩,ZX,⟨ZA,ZL⟩,⟨ZQ,ZP,ZB⟩⟩,rfl,ok_l,el⟩
   iterate 3 refine Stp ?_
   refine Yz F.zero128 ?_;intro b4
   refine Ul rfl rfl rfl rfl jG jM jH F.lay128 jD (Tm (m:=67) rfl jD jD) ?_
   iterate 9 refine Stp ?_
   refine Yt 43 rfl (fun hc5=>?_) (fun hc5=>?_)
   ·skip
    iterate 13 refine Stp ?_
    refine ZV (.inr rfl) (.tmp rfl .nil) (fun w hw=>?_)
    have hno:getA m_to r.nodes=none:=hri.none (by exact isS_no jE)
    have e9:Ws r k=_:=deliver_gone hk hm hno
    exact ⟨_,M2,_,rfl,hm2,hw.cnt (H':=((gb,rowO [.one (.int .i64 r.copies),.one (.map (some mb)),.one (.pointer (some ⟨bb,0,none⟩))] 78)::(mb,o)::hb1)++H) jF,by rw [e9];rfl,by rw [e9];exact YX.intro (hbag1.mono jC) hom (hri1.mono hm2)⟩
   ·skip
    iterate 5 refine Stp ?_
    refine ZW rfl (eT fun hc6=>?_) (eF fun hc6=>?_)
    ·simp only [Zs.eta,ZO.eta,ZJ.eta,ZF.eta,Ym.eta,Yv.eta,Yy.eta,Yq.eta,ZN.eta,YF.eta,ZU.eta] at hc6
     (exfalso;simp [eqX] at hc6;done)
    ·simp only [Zs.eta,ZO.eta,ZJ.eta,ZF.eta,Ym.eta,Yv.eta,Yy.eta,Yq.eta,ZN.eta,YF.eta,ZU.eta] at hc6
     iterate 4 refine Stp ?_
     have hsm:=hri.some hx9 (by exact isS_yes jE)
     refine Stp ?_;refine Zy F.lay44 ?_;refine Zy F.lay128 ?_;refine X_fn rfl rfl F.ok70 rfl (Take_ok M2 ⟨⟨⟨Xd,XQ⟩,⟨XO,XZ⟩,⟨We,Wd,Wc⟩,⟨XH,XG,XF⟩⟩,UE,UA,TJ,UD,Sq,Tk,UF,Uz,Uc,UB,Ud,UC,⟨Ug,Uf,Ue⟩,TI,TH⟩ ⟨ZK,⟨ZH,ZY⟩,Yd,l_id,⟨ZS,ZR,ZG⟩,ZX,⟨ZA,ZL⟩,⟨ZQ,ZP,ZB⟩⟩ (hsm.2.mono hm2) ok_l) rfl ?_
     rintro _ M3 hm3 hv
     rw [el] at hv
     revert hv
     rintro ⟨⟨⟨⟨Xh,Xs⟩,⟨Xi,Xt⟩,⟨XB,XA,Xz⟩,⟨Xl,Xk,Xj⟩⟩,Vf,Vb,Uo,Ve,Tq,VF,Vg,Va,WL,Vc,WM,Vd,⟨WP,WO,WN⟩,Un,Um⟩,⟨q_a,q_c,q_l⟩,rfl,ey,sy,oky,kq,oq⟩
     simp only [Sl.val]
     try simp only at ey sy oky kq oq
     iterate 4 refine Stp ?_
     refine Yz F.zero44 ?_;intro b7
     refine Wf F.lay44 ?_
     iterate 10 refine Stp ?_
     refine ZW rfl (cT fun hc8=>?_) (cF fun hc8=>?_)
     ·refine VP ?_
      refine C_region_anyR (l:=[0,1,2,3,4,5,6,7]) (Hin:=[(mb,o)]) #[0,1,3,7,0,16,0,127] jA rfl jI jI ?_
      iterate 2 refine Stp ?_
      refine Zi F.foff78_1 ?_;refine Zy F.lay76 ?_;refine Zi F.foff82_1 ?_;refine Zy F.lay3 ?_;refine Zy F.lay44 ?_
      refine X_mapUpdateJ (en:=ZJ.enc) (v:=⟨⟨⟨Xh,Xs⟩,⟨Xi,Xt⟩,⟨XB,XA,Xz⟩,⟨Xl,Xk,Xj⟩⟩,Vf,Vb,Uo,Ve,Tq,VF,Vg,Va,WL,Vc,WM,Vd,⟨WP,WO,WN⟩,Un,Um⟩) rfl rfl rfl rfl rfl ⟨Tryz.underlying3⟩ Tryz.underlying76 hom jB ?_;intro o2 hom2;refine ⟨_,jH,?_⟩
      iterate 2 refine Stp ?_
      have hR2:YX gb N ({ r with bag:=r.bag.eraseIdx k,nodes:=putA m_to (ZJ.nd ⟨⟨⟨Xh,Xs⟩,⟨Xi,Xt⟩,⟨XB,XA,Xz⟩,⟨Xl,Xk,Xj⟩⟩,Vf,Vb,Uo,Ve,Tq,VF,Vg,Va,WL,Vc,WM,Vd,⟨WP,WO,WN⟩,Un,Um⟩) r.nodes }) M3 ((gb,rowO [.one (.int .i64 r.copies),.one (.map (some mb)),.one (.pointer (some ⟨bb,0,none⟩))] 78)::(mb,o2)::hb1):=YX.intro (r:={ r with bag:=r.bag.eraseIdx k,nodes:=putA m_to (ZJ.nd ⟨⟨⟨Xh,Xs⟩,⟨Xi,Xt⟩,⟨XB,XA,Xz⟩,⟨Xl,Xk,Xj⟩⟩,Vf,Vb,Uo,Ve,Tq,VF,Vg,Va,WL,Vc,WM,Vd,⟨WP,WO,WN⟩,Un,Um⟩) r.nodes }) hbag1 hom2 ((hri1.mono (hm2.trans hm3)).put (n:=⟨⟨⟨Xh,Xs⟩,⟨Xi,Xt⟩,⟨XB,XA,Xz⟩,⟨Xl,Xk,Xj⟩⟩,Vf,Vb,Uo,Ve,Tq,VF,Vg,Va,WL,Vc,WM,Vd,⟨WP,WO,WN⟩,Un,Um⟩) oky (.inl (by rw [hsm.1];rfl)))
      have hq9:ReqS (sndl q_l):=by rw [sy];exact req_take _ _ hml.2
      have hl9:(sndl q_l).length≤1:=by rw [sy];exact len_take _ _
      have hl8:(sndl q_l).length=q_l.length:=List.length_map ..
      refine YB (l:=[0,1,2,3,4]) [4] rfl ?_;refine Yk ?_;refine Zi F.foff82_1 ?_;refine Zy F.lay3 ?_;refine Yk ?_;refine X_fhWC H rfl rfl rfl F.ok67 rfl (send_okR M3 gb N _ _ hR2 m_to ⟨q_a,q_c,q_l⟩ kq oq hq9 (by show N+(q_l.length:Int)≤_;omega)) jF (ZT rfl) ?_
      rintro _ M5 hb5 hm5 ⟨hM5,rfl,hR5⟩;subst M5
      try simp only at hR5
      refine Xb (Xu ?_)
      iterate 7 refine Stp ?_
      refine ZV (.inr rfl) (.tmp rfl .nil) (fun w hw=>?_)
      have e9:Ws r k=(UO ({ r with bag:=r.bag.eraseIdx k,nodes:=putA m_to (ZJ.nd ⟨⟨⟨Xh,Xs⟩,⟨Xi,Xt⟩,⟨XB,XA,Xz⟩,⟨Xl,Xk,Xj⟩⟩,Vf,Vb,Uo,Ve,Tq,VF,Vg,Va,WL,Vc,WM,Vd,⟨WP,WO,WN⟩,Un,Um⟩) r.nodes }) m_to (sndl q_l),0):=deliver_yes hk hm hsm.1 ey sy jE
      exact ⟨_,M3,_,rfl,hm2.trans hm3,hw.cnt (H':=hb5++H) jF,by rw [e9];rfl,by rw [e9];exact hR5.mono jC (Mem.le.refl _)⟩
     ·iterate 8 refine Stp ?_
      refine ZV (.inr rfl) (.tmp rfl .nil) (fun w hw=>?_)
      have e9:Ws r k=_:=deliver_not hk hm hsm.1 jE
      exact ⟨_,M3,_,rfl,hm2.trans hm3,hw.cnt (H':=((gb,rowO [.one (.int .i64 r.copies),.one (.map (some mb)),.one (.pointer (some ⟨bb,0,none⟩))] 78)::(mb,o)::hb1)++H) jF,by rw [e9];rfl,by rw [e9];exact YX.intro (hbag1.mono jC) hom (hri1.mono (hm2.trans hm3))⟩
theorem deliver_okR (M:Mem) (gb:Nat) (N:Int) (r:Rg) (Hb:Hp) (hR:YX gb N r M Hb) (i:Int) (hN:N+1≤1000000000000000):Fh Tryz.prog 32 [.pointer (some ⟨gb,0,none⟩),.int .i64 i] M Hb (fun M' v Hb'=>v=.int .i64 (Ws r i).2∧YX gb (N+1) (Ws r i).1 M' Hb'):=by
  by_cases hi:0≤i∧i<r.bag.length
  ·obtain ⟨k,rfl⟩:∃ k:Nat,i=k:=⟨i.toNat,by omega⟩
   exact deliver_is M gb N r Hb hR k jC hN
  ·exact fun H w hw=>(deliver_no M gb N r Hb hR i hi H w hw).mono fun e w2 ⟨v,M2,H2,g1,g2,g3,g4,g5⟩=>⟨v,M2,H2,g1,g2,g3,g4,g5.mono jC (Mem.le.refl _)⟩
theorem F.ok32:okFn Tryz.prog 32=true:=by kernel_rfl
theorem F.ok68:okFn Tryz.prog 68=true:=by kernel_rfl
theorem flush_okR (M:Mem) (gb:Nat) (N:Int) (r:Rg) (Hb:Hp) (hR:YX gb N r M Hb) (fl:Nat) (hF:fl≤10000∧10000≤fl) (hN:N+10001≤1000000000000000):Fh Tryz.prog 73 [.pointer (some ⟨gb,0,none⟩)] M Hb (fun M' v Hb'=>v=.tuple #[]∧YX gb (N+fl) (VX fl r) M' Hb'):=by
  refine YR (fun H=>Hb++H) (fun _=>rfl) Tryz.func73 rfl Tryz.ntmps73 rfl ?_;intro H
  iterate 6 refine Stp ?_
  refine Y_pk [2,0] ?_;refine Wt (Hin:=Hb) (.succ .zero) jA (fun (k:Nat) M1 h1 z=>∃ r1,z=[(2,.int .i64 (k:Int))]∧k≤fl∧YX gb (N+k) r1 M1 h1∧FlEq fl k r r1) (fun k=>fl-k) (0) (⟨r,rfl,by omega,by simpa using hR,rfl⟩) ?_
  rintro k M1 h1 z hm1 ⟨r1,rfl,hk,hR1,hf1⟩
  iterate 6 refine Stp ?_
  refine ZW rfl (cT fun hc1=>?_) (cF fun hc1=>?_)
  ·iterate 5 refine Stp ?_
   refine Wh (l:=[0,1,2]) (Hin:=h1) jA rfl ?_;refine Yk ?_;refine WE rfl rfl F.ok32 rfl (deliver_okR M1 gb (N+k) r1 h1 hR1 0 jC) jA (fun _ _ _ hm hw=>(hw.lower jV).c) (ZT rfl) ?_
   rintro _ M2 hb2 hm2 ⟨rfl,hR2⟩
   iterate 3 refine Stp ?_
   refine ZW rfl (eT fun hc2=>?_) (eF fun hc2=>?_)
   ·iterate 5 refine Stp ?_
    refine ZV (.inr rfl) (.nil) (fun w hw=>?_)
    exact ⟨_,M2,hb2,rfl,hm1.trans hm2,hw.c,rfl,by rw [hf1.ends jE];rw [deliver_bad jE] at hR2;exact hR2.mono jC (Mem.le.refl _)⟩
   ·iterate 4 refine Stp ?_
    refine YO rfl rfl rfl rfl rfl yA rfl ?_
    iterate 2 refine Stp ?_
    refine Xa (a':=[(2,_)]) (k+1) (hb2) (.cons (k:=2) rfl (.cons (k:=0) rfl (.nil))) (hm1.trans hm2) (fun w hw=>by first|exact hw|exact hw.c) ?_ ?_
    ·refine ⟨(Ws r1 0).1,rfl,by omega,by rw [show N+((k+1:Nat):Int)=N+k+1 by omega];exact hR2,?_⟩
     exact hf1.step jC jC
    ·omega
  ·iterate 4 refine Stp ?_
   refine ZV (.inl rfl) (.nil) (fun w hw=>?_)
   obtain rfl:k=fl:=by omega
   exact ⟨_,M1,h1,rfl,hm1,hw.c,rfl,by rw [hf1.full];exact hR1⟩
theorem tick_okR (M:Mem) (gb:Nat) (N:Int) (r:Rg) (Hb:Hp) (hR:YX gb N r M Hb) (a kind:Int) (hN:N+1≤1000000000000000):Fh Tryz.prog 31 [.pointer (some ⟨gb,0,none⟩),.int .i64 a,.int .i64 kind] M Hb (fun M' v Hb'=>v=.int .i64 (TX r a kind).2∧YX gb (N+1) (TX r a kind).1 M' Hb'):=by
  obtain ⟨mb,bb,o,jl,hb,rfl,hbag,hom,hri⟩:=hR
  refine YR (fun H=>(gb,rowO [.one (.int .i64 r.copies),.one (.map (some mb)),.one (.pointer (some ⟨bb,0,none⟩))] 78)::(mb,o)::(hb++H)) (fun _=>by simp only [List.append_assoc,List.cons_append,List.nil_append]) Tryz.func31 rfl Tryz.ntmps31 rfl ?_;intro H
  iterate 9 refine Stp ?_
  refine Zi F.foff78_1 ?_;refine Zy F.lay76 ?_;refine Yk ?_;refine X_lookup2J (en:=ZJ.enc) (z:=ZJ.zero) rfl rfl rfl rfl ⟨Tryz.underlying3⟩ Tryz.underlying76 (show _=some (ZJ.enc ZJ.zero) from F.zero44) jB hom rfl ?_
  obtain ⟨⟨⟨⟨Xd,XQ⟩,⟨XO,XZ⟩,⟨We,Wd,Wc⟩,⟨XH,XG,XF⟩⟩,UE,UA,TJ,UD,Sq,Tk,UF,Uz,Uc,UB,Ud,UC,⟨Ug,Uf,Ue⟩,TI,TH⟩,hx9⟩:∃ x:ZJ,(Wg jl (a)).getD ZJ.zero=x:=⟨_,rfl⟩
  rw [hx9]
  iterate 3 refine Stp ?_
  refine Yz F.zero44 ?_;intro b1
  refine Wf F.lay44 ?_
  iterate 10 refine Stp ?_
  refine ZW rfl (fun hc2=>?_) (fun hc2=>?_)
  ·skip
   iterate 7 refine Stp ?_
   refine ZV (.inr rfl) (.tmp rfl .nil) (fun w hw=>?_)
   have hno:getA a r.nodes=none:=hri.none (by exact isS_no jE)
   have e9:=tick_none (k:=kind) hno
   exact ⟨_,M,_,rfl,Mem.le.refl M,hw.cnt (H':=((gb,rowO [.one (.int .i64 r.copies),.one (.map (some mb)),.one (.pointer (some ⟨bb,0,none⟩))] 78)::(mb,o)::hb)++H) jF,by rw [e9];rfl,by rw [e9];exact YX.intro (hbag.mono jC) hom hri⟩
  ·skip
   iterate 3 refine Stp ?_
   have hsm:=hri.some hx9 (by exact isS_yes jE)
   refine Stp ?_;refine Zy F.lay44 ?_;refine Yk ?_;refine X_fn rfl rfl F.ok68 rfl (Tick_ok M ⟨⟨⟨Xd,XQ⟩,⟨XO,XZ⟩,⟨We,Wd,Wc⟩,⟨XH,XG,XF⟩⟩,UE,UA,TJ,UD,Sq,Tk,UF,Uz,Uc,UB,Ud,UC,⟨Ug,Uf,Ue⟩,TI,TH⟩ kind hsm.2) rfl ?_
   rintro _ M2 hm2 ⟨⟨⟨⟨Xh,Xs⟩,⟨Xi,Xt⟩,⟨XB,XA,Xz⟩,⟨Xl,Xk,Xj⟩⟩,Vf,Vb,Uo,Ve,Tq,VF,Vg,Va,WL,Vc,WM,Vd,⟨WP,WO,WN⟩,Un,Um⟩,⟨q_a,q_c,q_l⟩,rfl,ey,sy,oky,kq,oq⟩
   simp only [Sl.val]
   try simp only at ey sy oky kq oq
   iterate 4 refine Stp ?_
   refine Wf F.lay44 ?_
   iterate 11 refine Stp ?_
   refine ZW rfl (cT fun hc3=>?_) (cF fun hc3=>?_)
   ·refine VP ?_
    refine C_region_anyR (l:=[0,1,2,3,4,5,6]) (Hin:=[(mb,o)]) #[0,1,3,7,0,0,63] jA rfl jI jI ?_
    iterate 2 refine Stp ?_
    refine Zi F.foff78_1 ?_;refine Zy F.lay76 ?_;refine Yk ?_;refine Zy F.lay44 ?_
    refine X_mapUpdateJ (en:=ZJ.enc) (v:=⟨⟨⟨Xh,Xs⟩,⟨Xi,Xt⟩,⟨XB,XA,Xz⟩,⟨Xl,Xk,Xj⟩⟩,Vf,Vb,Uo,Ve,Tq,VF,Vg,Va,WL,Vc,WM,Vd,⟨WP,WO,WN⟩,Un,Um⟩) rfl rfl rfl rfl rfl ⟨Tryz.underlying3⟩ Tryz.underlying76 hom jB ?_;intro o2 hom2;refine ⟨_,jH,?_⟩
    iterate 2 refine Stp ?_
    have hR2:YX gb N ({ r with nodes:=putA a (ZJ.nd ⟨⟨⟨Xh,Xs⟩,⟨Xi,Xt⟩,⟨XB,XA,Xz⟩,⟨Xl,Xk,Xj⟩⟩,Vf,Vb,Uo,Ve,Tq,VF,Vg,Va,WL,Vc,WM,Vd,⟨WP,WO,WN⟩,Un,Um⟩) r.nodes }) M2 ((gb,rowO [.one (.int .i64 r.copies),.one (.map (some mb)),.one (.pointer (some ⟨bb,0,none⟩))] 78)::(mb,o2)::hb):=YX.intro (r:={ r with nodes:=putA a (ZJ.nd ⟨⟨⟨Xh,Xs⟩,⟨Xi,Xt⟩,⟨XB,XA,Xz⟩,⟨Xl,Xk,Xj⟩⟩,Vf,Vb,Uo,Ve,Tq,VF,Vg,Va,WL,Vc,WM,Vd,⟨WP,WO,WN⟩,Un,Um⟩) r.nodes }) hbag hom2 ((hri.mono hm2).put (n:=⟨⟨⟨Xh,Xs⟩,⟨Xi,Xt⟩,⟨XB,XA,Xz⟩,⟨Xl,Xk,Xj⟩⟩,Vf,Vb,Uo,Ve,Tq,VF,Vg,Va,WL,Vc,WM,Vd,⟨WP,WO,WN⟩,Un,Um⟩) oky (.inl (by rw [hsm.1];rfl)))
    have hq9:ReqS (sndl q_l):=by rw [sy];exact req_tick _ _
    have hl9:(sndl q_l).length≤1:=by rw [sy];exact len_tick _ _
    have hl8:(sndl q_l).length=q_l.length:=List.length_map ..
    refine YB (l:=[0,1,2,3]) [3] rfl ?_
    iterate 3 refine Stp ?_
    refine X_fhWC H rfl rfl rfl F.ok67 rfl (send_okR M2 gb N _ _ hR2 a ⟨q_a,q_c,q_l⟩ kq oq hq9 (by show N+(q_l.length:Int)≤_;omega)) jF (ZT rfl) ?_
    rintro _ M5 hb5 hm5 ⟨hM5,rfl,hR5⟩;subst M5
    try simp only at hR5
    refine Xb (Xu ?_)
    iterate 8 refine Stp ?_
    refine ZV (.inr rfl) (.tmp rfl .nil) (fun w hw=>?_)
    have h30:(Uh (ZJ.nd ⟨⟨⟨Xd,XQ⟩,⟨XO,XZ⟩,⟨We,Wd,Wc⟩,⟨XH,XG,XF⟩⟩,UE,UA,TJ,UD,Sq,Tk,UF,Uz,Uc,UB,Ud,UC,⟨Ug,Uf,Ue⟩,TI,TH⟩) kind).2.2=0:=by assumption
    have e9:TX r a kind=(UO ({ r with nodes:=putA a (ZJ.nd ⟨⟨⟨Xh,Xs⟩,⟨Xi,Xt⟩,⟨XB,XA,Xz⟩,⟨Xl,Xk,Xj⟩⟩,Vf,Vb,Uo,Ve,Tq,VF,Vg,Va,WL,Vc,WM,Vd,⟨WP,WO,WN⟩,Un,Um⟩) r.nodes }) a (sndl q_l),0):=tick_good hsm.1 ey sy h30
    exact ⟨_,M2,_,rfl,hm2,hw.cnt (H':=hb5++H) jF,by rw [e9];exact congrArg (Value.int .i64) h30,by rw [e9];exact hR5.mono jC (Mem.le.refl _)⟩
   ·iterate 9 refine Stp ?_
    refine ZV (.inr rfl) (.tmp rfl .nil) (fun w hw=>?_)
    have e9:TX r a kind=_:=tick_bad hsm.1 jE
    exact ⟨_,M2,_,rfl,hm2,hw.cnt (H':=((gb,rowO [.one (.int .i64 r.copies),.one (.map (some mb)),.one (.pointer (some ⟨bb,0,none⟩))] 78)::(mb,o)::hb)++H) jF,by rw [e9];rfl,by rw [e9];exact YX.intro (hbag.mono jC) hom (hri.mono hm2)⟩
end Go.Proofs.YtglnjnacodgmaaaGreatDoor
namespace Go.Esp
open Go.Proofs Go.Shelf Go.RowKit Go.Lib Go.Sort
theorem oneI_rows (k:IntKind):∀ l:List Int,ZZ (l.map (oneI k))=l.map (Value.int k)
  | []=>rfl
  | x::l=>by
    have:=oneI_rows k l
    simp only [List.map_cons,ZZ,this]
    rfl
theorem st_sortedE {β:Type} [Inhabited β] {enc:β→Value} {F:Array β} {M:Mem} {H:Hp} {w:World} {b T:Nat} {cur:Array Value} (hw:St M ((b,.cells cur T (0,0))::H) w) (n:Nat) (os:Array Obj) :
    St M ((b,.cells (putCells enc 0 F cur) T (0,0))::H) (grow (putRow enc (Sort.ahead w n) b 0 F) os):=by
  have hb:=hw.own b _ (.head _)
  have hlt:=(Array.getElem?_eq_some_iff.1 hb).1
  refine hw.upd .head ?_ (fun c hc x hx=>?_) ⟨rfl,rfl,rfl,Nat.le_add_right _ _⟩
  · show ((w.heap.modify b _)++os)[b]?=_
    rw [Array.getElem?_append_left (by simpa using hlt),Array.getElem?_modify,if_pos rfl,hb]
    rfl
  · show ((w.heap.modify b _)++os)[c]?=_
    have hcl:=(Array.getElem?_eq_some_iff.1 hx).1
    rw [Array.getElem?_append_left (by simpa using hcl),Array.getElem?_modify,if_neg (Ne.symm hc),hx]
def TE (l:List Int):List Int:=l.mergeSort fun x y=>decide (x≤y)
theorem sortI_len (l:List Int):(TE l).length=l.length:=List.length_mergeSort _
theorem sortI_perm (l:List Int):(TE l).Perm l:=List.mergeSort_perm _ _
theorem sortI_sorted (l:List Int):(TE l).Pairwise (·≤·):=by
  have:=List.pairwise_mergeSort (le:=fun x y:Int=>decide (x≤y)) (fun a b c h1 h2=>by simp at *;omega) (fun a b=>by simp;omega) l
  exact this.imp fun h=>by simpa using h
theorem sortI_eq {l l':List Int} (hp:l.Perm l') (hs:l'.Pairwise (·<·)):TE l=l':=by
  refine List.Perm.eq_of_pairwise (le:=(·≤·)) ?_ (sortI_sorted l) (hs.imp fun h=>Int.le_of_lt h) ((sortI_perm l).trans hp)
  intro a b _ _ h1 h2
  omega
theorem sortI_fh {P:Program} {ρ:Ren} (L:Lays.n189 P ρ) {T b c:Nat} {l:List Int} {hs:Hp} (ho:OSl T 1 (.slice (some ⟨b,0,none⟩) l.length c) hs (l.map (oneI .i64))) (hl:l.length≤1000000) (M:Mem) :
    Fh P (ρ.f 189) [.slice (some ⟨b,0,none⟩) l.length c] M hs (fun M' v Hout=>M'=M∧v=.tuple #[]∧OSl T 1 (.slice (some ⟨b,0,none⟩) l.length c) Hout ((TE l).map (oneI .i64))):=by
  obtain ⟨cur,rfl,hl0,hlens,hle,hcm,hcs,htk⟩:=ho.inv
  have hml:(l.map (oneI .i64)).length=l.length:=List.length_map ..
  rw [hml] at hle htk
  rw [oneI_rows,Nat.mul_one] at htk
  rw [Nat.mul_one] at hcs
  intro H w hw
  have hb:=hw.own b _ (.head _)
  have hlt:=(Array.getElem?_eq_some_iff.1 hb).1
  have hH:Holds (Value.int .i64) w b 0 l.toArray:=by
    intro j hj
    have hj':j<l.length:=by simpa using hj
    refine ⟨?_,?_⟩
    · unfold World.cell?
      simp only [hb,Option.isSome_none,Bool.false_eq_true,if_false,Nat.zero_add,id]
      have h9:(List.take l.length cur.toList)[j]?=(List.map (Value.int .i64) l)[j]?:=by rw [htk]
      rw [List.getElem?_take,if_pos hj',List.getElem?_map,List.getElem?_eq_getElem hj',Option.map_some,Array.getElem?_toList] at h9
      rw [h9,getElem!_pos l.toArray j hj]
      simp
    · unfold World.frozen?
      simp only [hb]
      simp
  have key:=Any.slices_Sort_int L b 0 c l w hH hlt jC
  refine key.mono ?_
  rintro e w' ⟨rfl,n,os,rfl⟩
  have hst:=st_sortedE (enc:=Value.int .i64) (F:=(TE l).toArray) hw n os
  refine ⟨_,M,[(b,.cells (putCells (Value.int .i64) 0 (TE l).toArray cur) T (0,0))],rfl,Mem.le.refl M,hst,rfl,rfl,?_⟩
  have hln:((TE l).map (oneI .i64)).length=l.length:=by rw [List.length_map,sortI_len]
  have hlens':lens 1 ((TE l).map (oneI .i64)):=fun r hr=>by
    obtain ⟨x,hx,rfl⟩:=List.mem_map.1 hr
    rfl
  have:=OSl.own (T:=T) b c ((TE l).map (oneI .i64)) (putCells (Value.int .i64) 0 (TE l).toArray cur) hlens' (by rw [hln];exact hle) hcm (by simpa [putCells] using hcs) ?_
  · rw [hln] at this;exact this
  · rw [oneI_rows,hln,Nat.mul_one]
    apply List.ext_getElem?
    intro t
    rw [List.getElem?_take]
    by_cases ht:t<l.length
    · rw [if_pos ht]
      have ht':t<(TE l).length:=by rw [sortI_len];exact ht
      have htc:t<cur.size:=by omega
      simp only [putCells,Array.getElem?_toList,Array.getElem?_mapIdx,Array.getElem?_eq_getElem htc,Option.map_some]
      rw [if_pos ⟨Nat.zero_le _,by simpa using ht'⟩,List.getElem?_map,List.getElem?_eq_getElem ht']
      simp only [Nat.sub_zero,Option.map_some]
      rw [getElem!_pos _ _ (by simpa using ht')]
      simp
    · rw [if_neg ht,List.getElem?_eq_none]
      rw [List.length_map,sortI_len];omega
theorem sortI_any {P:Program} {ρ:Ren} (L:Lays.n189 P ρ) {T n c:Nat} {ad:Option Addr} {l:List Int} {hs:Hp} (hn:n=l.length) (ho:OSl T 1 (.slice ad n c) hs (l.map (oneI .i64))) (hl:l.length≤1000000) (M:Mem) :
    Fh P (ρ.f 189) [.slice ad n c] M hs (fun M' v Hout=>M'=M∧v=.tuple #[]∧OSl T 1 (.slice ad n c) Hout ((TE l).map (oneI .i64))):=by
  subst hn
  cases l with
  | nil =>
    intro H w hw
    refine (Any.slices_Sort_int_none L ad c w).mono ?_
    rintro e w' ⟨rfl,rfl⟩
    exact ⟨_,M,hs,rfl,Mem.le.refl M,hw,rfl,rfl,by simpa [TE] using ho⟩
  | cons x l =>
    obtain ⟨b,rfl⟩:=ho.addr jU
    exact sortI_fh L ho hl M
end Go.Esp
namespace Go.Proofs
open Go.Shelf
def Tryz.sortIL_ren:Go.Shelf.Ren:=⟨fun|189=>36|125=>75|257=>74|128=>134|129=>135|294=>125|295=>126|296=>127|297=>128|298=>129|299=>130|216=>131|300=>132|301=>133|328=>178|329=>179|330=>180|331=>181|332=>182|215=>86|343=>211|n=>n,fun|28=>32|3=>3|46=>136|0=>0|51=>152|53=>42|4=>4|183=>185|182=>184|131=>60|5=>5|9=>9|218=>238|222=>225|228=>272|229=>273|n=>n,fun|n=>n⟩
theorem Tryz.sortIL:Go.Proofs.Lays.n189 Tryz.prog Tryz.sortIL_ren:={
  mixed:=by kernel_rfl
  f125:=Tryz.func75.trans (congrArg some (by kernel_rfl))
  f128:=Tryz.func134.trans (congrArg some (by kernel_rfl))
  f129:=Tryz.func135.trans (congrArg some (by kernel_rfl))
  f189:=Tryz.func36.trans (congrArg some (by kernel_rfl))
  f215:=Tryz.func86.trans (congrArg some (by kernel_rfl))
  f216:=Tryz.func131.trans (congrArg some (by kernel_rfl))
  f257:=Tryz.func74.trans (congrArg some (by kernel_rfl))
  f294:=Tryz.func125.trans (congrArg some (by kernel_rfl))
  f295:=Tryz.func126.trans (congrArg some (by kernel_rfl))
  f296:=Tryz.func127.trans (congrArg some (by kernel_rfl))
  f297:=Tryz.func128.trans (congrArg some (by kernel_rfl))
  f298:=Tryz.func129.trans (congrArg some (by kernel_rfl))
  f299:=Tryz.func130.trans (congrArg some (by kernel_rfl))
  f300:=Tryz.func132.trans (congrArg some (by kernel_rfl))
  f301:=Tryz.func133.trans (congrArg some (by kernel_rfl))
  f328:=Tryz.func178.trans (congrArg some (by kernel_rfl))
  f329:=Tryz.func179.trans (congrArg some (by kernel_rfl))
  f330:=Tryz.func180.trans (congrArg some (by kernel_rfl))
  f331:=Tryz.func181.trans (congrArg some (by kernel_rfl))
  f332:=Tryz.func182.trans (congrArg some (by kernel_rfl))
  f343:=Tryz.func211.trans (congrArg some (by kernel_rfl))
  t0:=Tryz.underlying0
  a0:=Tryz.isAgg0
  z0:=Tryz.sizeOf0
  v0:=Tryz.zeroValue0
  t3:=Tryz.underlying3
  a3:=Tryz.isAgg3
  z3:=Tryz.sizeOf3
  v3:=Tryz.zeroValue3
  t4:=Tryz.underlying4
  a4:=Tryz.isAgg4
  z4:=Tryz.sizeOf4
  v4:=Tryz.zeroValue4
  t5:=Tryz.underlying5
  a5:=Tryz.isAgg5
  z5:=Tryz.sizeOf5
  v5:=Tryz.zeroValue5
  t9:=Tryz.underlying9
  a9:=Tryz.isAgg9
  z9:=Tryz.sizeOf9
  v9:=Tryz.zeroValue9
  t28:=Tryz.underlying32
  a28:=Tryz.isAgg32
  z28:=Tryz.sizeOf32
  v28:=Tryz.zeroValue32
  t46:=Tryz.underlying136
  a46:=Tryz.isAgg136
  z46:=Tryz.sizeOf136
  v46:=Tryz.zeroValue136
  t51:=Tryz.underlying152
  a51:=Tryz.isAgg152
  z51:=Tryz.sizeOf152
  v51:=Tryz.zeroValue152
  t53:=Tryz.underlying42
  a53:=Tryz.isAgg42
  z53:=Tryz.sizeOf42
  v53:=Tryz.zeroValue42
  t131:=Tryz.underlying60
  a131:=Tryz.isAgg60
  z131:=Tryz.sizeOf60
  v131:=Tryz.zeroValue60
  t182:=Tryz.underlying184
  a182:=Tryz.isAgg184
  z182:=Tryz.sizeOf184
  v182:=Tryz.zeroValue184
  t183:=Tryz.underlying185
  a183:=Tryz.isAgg185
  z183:=Tryz.sizeOf185
  v183:=Tryz.zeroValue185
  t218:=Tryz.underlying238
  a218:=Tryz.isAgg238
  z218:=Tryz.sizeOf238
  v218:=Tryz.zeroValue238
  t222:=Tryz.underlying225
  a222:=Tryz.isAgg225
  z222:=Tryz.sizeOf225
  v222:=Tryz.zeroValue225
  t228:=Tryz.underlying272
  a228:=Tryz.isAgg272
  z228:=Tryz.sizeOf272
  v228:=Tryz.zeroValue272
  t229:=Tryz.underlying273
  a229:=Tryz.isAgg273
  z229:=Tryz.sizeOf273
  v229:=Tryz.zeroValue273 }
end Go.Proofs
namespace Go.Proofs.YtglnjnacodgmaaaGreatDoor
open Go.Esp
theorem F.ok11:okFn Tryz.prog 11=true:=by kernel_rfl
theorem F.ok31:okFn Tryz.prog 31=true:=by kernel_rfl
theorem F.ok36:okFn Tryz.prog 36=true:=by kernel_rfl
theorem F.ok73:okFn Tryz.prog 73=true:=by kernel_rfl
theorem Sort_okI (M:Mem) {n c:Nat} {ad:Option Addr} {l:List Int} {hs:Hp} (hn:n=l.length) (ho:OSl 3 1 (.slice ad n c) hs (l.map (oneI .i64))) (hl:l.length≤1000000):Fh Tryz.prog 36 [.slice ad n c] M hs (fun M' v Hout=>M'=M∧v=.tuple #[]∧OSl 3 1 (.slice ad n c) Hout ((TE l).map (oneI .i64))) :=
  sortI_any Tryz.sortIL hn ho hl M
theorem Live_ok (M:Mem) (gb:Nat) (N:Int) (r:Rg) (Hb:Hp) (hR:YX gb N r M Hb):Fo Tryz.prog 11 [.pointer (some ⟨gb,0,none⟩)] M Hb (fun M' v=>∃ s:Sl Int,v=s.val∧s.l=Tc r∧SlK M' (oneI .i64) 1 s):=by
  obtain ⟨mb,bb,o,jl,hb,rfl,hbag,hom,hri⟩:=hR
  have hjl:jl.length≤16:=by have:=hri.len;have:=hri.few;omega
  refine fo_enterF (fun H=>(gb,rowO [.one (.int .i64 r.copies),.one (.map (some mb)),.one (.pointer (some ⟨bb,0,none⟩))] 78)::(mb,o)::(hb++H)) (fun _=>by simp only [List.append_assoc,List.cons_append,List.nil_append]) Tryz.func11 rfl Tryz.ntmps11 rfl ?_;intro H
  iterate 9 refine Stp ?_
  refine Tx Tryz.underlying24 ?_
  iterate 2 refine Stp ?_
  refine ZW rfl (fun hc1=>?_) (fun hc1=>?_)
  ·skip
   (exfalso;simp [eqX] at hc1;done)
  ·skip
   iterate 12 refine Stp ?_
   refine Zi F.foff78_1 ?_;refine Zy F.lay76 ?_
   refine X_rangeJ rfl rfl rfl Tryz.underlying76 jB hom rfl ?_;intro r1 oi1 hit1
   iterate 3 refine Stp ?_
   refine Y_pk [3,11,2] ?_;refine Wt (Hin:=[(r1,oi1)]) (.succ .zero) jA (fun (k:Nat) M1 h1 z=>∃ (sv:JM ZJ) (oi:Obj) (v:Value) (hs:Hp),M1=M∧z=[(3,v)]∧k=sv.length∧itJ ZJ.enc mb oi o jl sv∧OSl 3 1 v hs ((sv.map (·.1)).map (oneI .i64))∧h1=(r1,oi)::hs) (fun k=>jl.length-k) (0) (⟨[],oi1,_,[],rfl,rfl,rfl,hit1,OSl.nil,rfl⟩) ?_
   rintro k M1 h1 z hm1 ⟨sv,oi,v0,hs,hM1,rfl,hk,hit,ho,rfl⟩
   obtain rfl:=hM1.symm
   obtain ⟨ad0,cp0,rfl⟩:=ho.valL
   have hsl:=hit.len
   have hml:((sv.map (·.1)).map (oneI .i64)).length=(sv.map (·.1)).length:=List.length_map ..
   have hml2:(sv.map (·.1)).length=sv.length:=List.length_map ..
   iterate 2 refine Stp ?_
   refine X_nextJ rfl rfl rfl jB jB hit rfl ?_ ?_
   ·intro p oi2 hp hit2
    obtain ⟨pk,pv⟩:=p
    refine ⟨_,jH,?_⟩
    iterate 10 refine Stp ?_
    refine X_entryJ rfl rfl rfl jB jB hit2 rfl ?_;refine Y_extract ?_;refine XI 15 rfl (show keyI pk=.int .i64 pk from rfl) ?_
    iterate 6 refine Stp ?_
    refine YS rfl rfl F.elem32 F.zero3 rfl rfl (.cons rfl jG .nil) rfl rfl jL rfl ?_;intro b2 hob3
    refine WT (m:=1000000) rfl rfl rfl rfl rfl F.elem32 F.zero3 jR rfl jE jA (Src.own hob3.lens jO rfl jB) jN jJ rfl ?_;intro v6 hs5 ho4;obtain ⟨adv6,cpv6,rfl⟩:=ho4.val
    iterate 3 refine Stp ?_
    refine Xa (a':=[(3,_)]) (k+1) (((r1,oi2)::hs5)) (.cons (k:=3) rfl (.cons (k:=11) rfl (.cons (k:=2) rfl (.nil)))) jP (fun w hw=>by first|exact hw|exact hw.c) ?_ ?_
    ·refine ⟨sv++[(pk,pv)],oi2,_,_,rfl,rfl,by simp [hk],hit2,?_,rfl⟩
     rw [List.map_append,List.map_append]
     exact ho4
    ·have h9:=hit2.len;simp at h9;omega
   ·intro hperm
    iterate 11 refine Stp ?_
    refine Wh (l:=[0,1]) (Hin:=hs) jA rfl ?_;refine Yk ?_;refine WE rfl rfl F.ok36 rfl (Sort_okI M rfl ho jC) jA (fun _ _ _ hm hw=>(hw.lower jV).c) (ZT rfl) ?_
    rintro _ M3 hs9 hm3 ⟨hM3,rfl,ho9⟩;subst M3
    iterate 9 refine Stp ?_
    refine ZV (.inr rfl) (.tmp rfl .nil) (fun w hw=>?_)
    have hw9:St M (hs9++(((gb,rowO [.one (.int .i64 r.copies),.one (.map (some mb)),.one (.pointer (some ⟨bb,0,none⟩))] 78)::(mb,o)::hb)++H)) w:=hw.c
    obtain ⟨M9,g1,g2,g3⟩:=ho9.frz hw9
    exact ⟨_,M9,rfl,g1,g2,⟨ad0,cp0,TE (sv.map (·.1))⟩,(by show Value.slice ad0 _ cp0=Value.slice ad0 (TE (sv.map (·.1))).length cp0;rw [sortI_len]),sortI_eq ((hperm.map _).trans hri.keys) hri.rise,g3⟩
theorem round_okR (M:Mem) (gb:Nat) (N:Int) (r:Rg) (Hb:Hp) (hR:YX gb N r M Hb) (hN:N+1000000≤1000000000000000):Fh Tryz.prog 35 [.pointer (some ⟨gb,0,none⟩)] M Hb (fun M' v Hb'=>v=.tuple #[]∧YX gb (N+1000000) (TC r) M' Hb'):=by
  refine YR (fun H=>Hb++H) (fun _=>rfl) Tryz.func35 rfl Tryz.ntmps35 rfl ?_;intro H
  refine VP (Wh (l:=[0,1]) (Hin:=Hb) jA rfl ?_);refine Yk ?_;refine WE rfl rfl F.ok73 rfl (flush_okR M gb N r Hb hR 10000 ⟨Nat.le_refl _,Nat.le_refl _⟩ jC) jA (fun _ _ _ hm hw=>(hw.lower jV).c) (ZT rfl) ?_
  rintro _ M0 hb1 hm0 ⟨rfl,hR0⟩
  iterate 5 refine Stp ?_
  refine X_fo rfl rfl F.ok11 rfl (Live_ok M0 gb _ _ hb1 hR0) jA (ZT rfl) ?_
  rintro _ M9 hm9 ⟨⟨l_a,l_c,l_l⟩,rfl,el,k_l⟩
  have s_l:=k_l.h1
  try simp only at s_l el
  have n_l:(l_l.map (oneI .i64)).length=l_l.length:=List.length_map ..
  have m_l:l_l.length≤9223372036854775807:=k_l.h2
  have c_l:l_l.length≤16:=by have:=hR0.few;have h9:=congrArg List.length el;simp only [Tc,List.length_map] at h9;omega
  simp only [Sl.val]
  refine YA F.elem32 ?_
  iterate 4 refine Stp ?_
  refine Y_pk [11,10,9,0] ?_;refine Wt (Hin:=hb1) (.succ .zero) jA (fun (i:Nat) M1 h1 z=>z=[(11,.int .i64 (i:Int))]∧i≤l_l.length∧YX gb (N+10000+30003 * (i:Int)) (((Tc (VX 10000 r)).take i).foldl ticksR (VX 10000 r)) M1 h1) (fun i=>l_l.length-i) (0) (⟨rfl,by omega,by rw [List.take_zero,List.foldl_nil];exact hR0.mono jC hm9⟩) ?_
  rintro i M1 h1 z hm1 ⟨rfl,hi,hR1⟩
  obtain ⟨r1,hr1⟩:∃ r1,((Tc (VX 10000 r)).take i).foldl ticksR (VX 10000 r)=r1:=⟨_,rfl⟩
  rw [hr1] at hR1
  have s_l1:=s_l.mono hm1
  iterate 6 refine Stp ?_
  refine ZW rfl (cT fun hc1=>?_) (cF fun hc1=>?_)
  ·iterate 6 refine Stp ?_
   refine Ys rfl rfl rfl rfl F.elem32 jR jC yB rfl ?_;refine Xm rfl rfl rfl jE yC F.lay3 rfl rfl rfl ?_
   obtain ⟨a,ha⟩:∃ a,l_l[i]'jC=a:=⟨_,rfl⟩
   rw [ha]
   iterate 5 refine Stp ?_
   refine YS rfl rfl F.elem32 F.zero3 rfl rfl (.cons rfl jG (.cons rfl jG (.cons rfl jG .nil))) rfl rfl jL rfl ?_;intro b2 hob3
   refine YA F.elem32 ?_
   iterate 4 refine Stp ?_
   refine Y_pk [17,16,15,3,14,13,12,11,10,9,0] ?_;refine Wt (Hin:=h1) (.succ .zero) jA (fun (j:Nat) M2 h2 z=>z=[(17,.int .i64 (j:Int))]∧j≤3∧YX gb (N+10000+30003 * (i:Int)+10001 * (j:Int)) ((([1,3,2]:List Int).take j).foldl (tick1 a) r1) M2 h2) (fun j=>3-j) (0) (⟨rfl,by omega,by simpa using hR1⟩) ?_
   rintro j M2 h2 z hm2 ⟨rfl,hj,hR2⟩
   obtain ⟨r2,hr2⟩:∃ r2,(([1,3,2]:List Int).take j).foldl (tick1 a) r1=r2:=⟨_,rfl⟩
   rw [hr2] at hR2
   iterate 6 refine Stp ?_
   refine ZW rfl (cT fun hc4=>?_) (cF fun hc4=>?_)
   ·iterate 6 refine Stp ?_
    refine Ys rfl rfl rfl rfl F.elem32 jR jC zA rfl ?_
    have hob9:OSl 3 1 _ _ (([1,3,2]:List Int).map (oneI .i64)):=hob3
    refine Vo rfl rfl rfl hob9 jA (Xv (show j<([1,3,2]:List Int).length from by simpa using (show j<3 by omega))) F.lay3 rfl rfl rfl ?_
    iterate 4 refine Stp ?_
    refine Wh (l:=[0,1,2,3]) (Hin:=h2) jA rfl ?_
    iterate 3 refine Stp ?_
    refine WE rfl rfl F.ok31 rfl (tick_okR M2 gb _ r2 h2 hR2 a _ jC) jA (fun _ _ _ hm hw=>(hw.lower jV).c) (ZT rfl) ?_
    rintro _ M3 hb3 hm3 ⟨rfl,hR3⟩
    iterate 2 refine Stp ?_
    refine Wh (l:=[0,1]) (Hin:=hb3) jA rfl ?_;refine Yk ?_;refine WE rfl rfl F.ok73 rfl (flush_okR M3 gb _ _ hb3 hR3 10000 ⟨Nat.le_refl _,Nat.le_refl _⟩ jC) jA (fun _ _ _ hm hw=>(hw.lower jV).c) (ZT rfl) ?_
    rintro _ M4 hb4 hm4 ⟨rfl,hR4⟩
    iterate 4 refine Stp ?_
    refine YO rfl rfl rfl rfl rfl yA rfl ?_
    iterate 2 refine Stp ?_
    refine Xa (a':=[(17,_)]) (j+1) (hb4) (.cons (k:=17) rfl (.cons (k:=16) rfl (.cons (k:=15) rfl (.cons (k:=3) rfl (.cons (k:=14) rfl (.cons (k:=13) rfl (.cons (k:=12) rfl (.cons (k:=11) rfl (.cons (k:=10) rfl (.cons (k:=9) rfl (.cons (k:=0) rfl (.nil)))))))))))) ((hm2.trans hm3).trans hm4) (fun w hw=>by first|exact hw|exact hw.c) ?_ ?_
    ·refine ⟨rfl,by omega,?_⟩
     rw [List.take_add_one,List.getElem?_eq_getElem (show j<([1,3,2]:List Int).length by simpa using (show j<3 by omega)),Option.toList_some,List.foldl_append,hr2]
     exact hR4.mono jC (Mem.le.refl _)
    ·omega
   ·iterate 7 refine Stp ?_
    refine YO rfl rfl rfl rfl rfl yA rfl ?_
    iterate 2 refine Stp ?_
    refine Xa (a':=[(11,_)]) (i+1) (h2) (.cons (k:=11) rfl (.cons (k:=10) rfl (.cons (k:=9) rfl (.cons (k:=0) rfl (.nil))))) (hm1.trans hm2) (fun w hw=>by first|exact hw|exact hw.c) ?_ ?_
    ·refine ⟨rfl,by omega,?_⟩
     obtain rfl:j=3:=by omega
     rw [List.take_add_one,List.getElem?_eq_getElem (show i<(Tc (VX 10000 r)).length by rw [← el];omega),Option.toList_some,List.foldl_append,hr1]
     refine YX.mono ?_ (show N+10000+30003 * (i:Int)+10001 * ((3:Nat):Int)≤_ by omega) (Mem.le.refl _)
     rw [← hr2] at hR2
     have e9:(Tc (VX 10000 r))[i]'(by rw [← el];omega)=a:=by simp only [← el];exact ha
     rw [e9]
     exact hR2
    ·omega
  ·iterate 4 refine Stp ?_
   refine ZV (.inl rfl) (.nil) (fun w hw=>?_)
   obtain rfl:i=l_l.length:=by omega
   rw [← hr1] at hR1
   have e8:(Tc (VX 10000 r)).take l_l.length=Tc (VX 10000 r):=by rw [← el,List.take_length]
   rw [e8] at hR1
   exact ⟨_,M1,h1,rfl,(hm0.trans hm9).trans hm1,hw.c,rfl,hR1.mono jC (Mem.le.refl _)⟩
end Go.Proofs.YtglnjnacodgmaaaGreatDoor
namespace Go.Proofs.YtglnjnacodgmaaaGreatDoor.K
open Go.Esp
theorem bcmp_ok (M:Mem) (ba bb:Nat) (a b:Plc):Fo Tryz.prog 154 [.slice (some ⟨ba,0,none⟩) 20 20,.slice (some ⟨bb,0,none⟩) 20 20] M [(bb,rowO [Yb b] 36),(ba,rowO [Yb a] 36)] (fun M' v=>M'=M∧v=.int .i64 (cmpP a b)):=by
  refine Vu Tryz.func154 rfl Tryz.ntmps154 rfl ?_;intro H
  refine VP (C_region (l:=[0]) rfl ?_);refine VO ?_;refine Xb (Se (VP (C_region (l:=[0,1,2,3]) rfl ?_)))
  iterate 2 refine Yk ?_
  refine X_ext rfl rfl F.ext199 rfl (fun w hw=>run_compare (hw.own _ _ jB) (hw.own _ _ jB)) rfl ?_;refine VO ?_;refine Xb (Se (Y_pk [4] ?_));refine C_ret ?_
  refine ZV (.inr rfl) (.tmp rfl .nil) (fun w hw=>?_)
  exact ⟨_,M,rfl,Mem.le.refl M,hw.c,rfl,rfl⟩
theorem Less_ok (M:Mem) (a:Plc) (b:Plc):Fs Tryz.prog 95 [aggV [Yb a],aggV [Yb b]] M (fun v=>v=Value.bool (decide (Vl a b))):=by
  refine Xe Tryz.func95 rfl Tryz.ntmps95 rfl ?_;intro H
  refine VP (C_region (l:=[0,1,2]) rfl ?_)
  refine Xq ?_;intro b1
  refine Xq ?_;intro b2
  iterate 3 refine Stp ?_
  refine Y_pk [4,3,2] ?_;refine VP (Yg (l:=[0,1,2,3,4]) #[0,0,3,7,15] _ rfl jI jI St.drawn (fun _ h=>h) ?_)
  iterate 2 refine X_slice_arr rfl rfl rfl F.arr36 rfl ?_
  refine X_fo rfl rfl F.ok154 rfl (bcmp_ok _ _ _ a b) jA (ZT rfl) ?_
  rintro _ M1 _ ⟨hM1,rfl⟩;subst M1
  refine Ti ?_
  iterate 3 refine Stp ?_
  refine Y_pk [4] ?_;refine C_ret ?_
  refine ZV (.inr rfl) (.tmp rfl .nil) (fun w hw=>?_)
  refine ⟨_,rfl,(hw.c),?_⟩
  clear hw
  exact congrArg Value.bool (decide_eq_decide.2 cmpP_neg)
end Go.Proofs.YtglnjnacodgmaaaGreatDoor.K
namespace Go.Proofs.YtglnjnacodgmaaaGreatDoor.K
open Go.Esp
end Go.Proofs.YtglnjnacodgmaaaGreatDoor.K
namespace Go.Proofs.YtglnjnacodgmaaaGreatDoor.K
open Go.Esp
theorem F.ok55:okFn Tryz.prog 55=true:=by kernel_rfl
theorem F.ok56:okFn Tryz.prog 56=true:=by kernel_rfl
theorem F.ok97:okFn Tryz.prog 97=true:=by kernel_rfl
theorem F.ok98:okFn Tryz.prog 98=true:=by kernel_rfl
theorem Circ_ok (M:Mem) (l:(Sl Zs)) (hl0:SlK M Zs.segs 21 l):Fs Tryz.prog 55 [Sl.val l] M (fun v=>v=Value.bool (decide (Wy l.l))):=by
  obtain ⟨l_a,l_c,l_l⟩:=l
  have k_l:SlK M Zs.segs 21 ⟨l_a,l_c,l_l⟩:=hl0
  have s_l:SlM M l_a (l_l.map Zs.segs) 21:=k_l.h1
  have n_l:(l_l.map Zs.segs).length=l_l.length:=List.length_map ..
  have m_l:l_l.length≤9223372036854775807:=k_l.h2
  have c_l:l_l.length≤l_c:=k_l.h3
  refine Xe Tryz.func55 rfl Tryz.ntmps55 rfl ?_;intro H
  iterate 9 refine Stp ?_
  refine YA F.elem39 ?_
  iterate 2 refine Stp ?_
  refine Yt 9 rfl (cT fun hc1=>?_) (cF fun hc1=>?_)
  ·iterate 14 refine Stp ?_
   refine ZV (.inr rfl) (.tmp rfl .nil) (fun w hw=>?_)
   refine ⟨_,rfl,(hw.c),?_⟩
   clear hw
   refine congrArg Value.bool ?_
   grind [Wy]
  ·refine Yk ?_
   refine YA F.elem39 ?_
   iterate 4 refine Stp ?_
   refine ZW rfl (cT fun hc2=>?_) (cF fun hc2=>?_)
   ·iterate 7 refine Stp ?_
    refine ZV (.inr rfl) (.tmp rfl .nil) (fun w hw=>?_)
    refine ⟨_,rfl,(hw.c),?_⟩
    clear hw
    refine congrArg Value.bool ?_
    grind [Wy]
   ·iterate 11 refine Stp ?_
    refine YA F.elem39 ?_
    iterate 4 refine Stp ?_
    refine Y_pk [16,3,15,14,2,0] ?_;refine Wt (Hin:=[]) (.succ (.succ .zero)) jA (fun (k:Nat) M1 h1 z=>∃ v,M1=M∧z=[(16,.int .i64 (k:Int)),(3,v)]∧k≤l_l.length∧TP (l_l.take k)∧OSl 3 1 v h1 (((l_l.take k).map Zs.addr).map (oneI .i64))) (fun k=>l_l.length-k) (0) (⟨_,rfl,rfl,by omega,by simp [TP],OSl.nil⟩) ?_
    rintro k M1 h1 z hm1 ⟨v1,hM1,rfl,hk,hI,ho⟩
    subst hM1
    obtain ⟨ad1,cp1,rfl⟩:=ho.valL
    have hlk:(l_l.take k).length=k:=by rw [List.length_take];omega
    have hlm:(((l_l.take k).map Zs.addr).map (oneI .i64)).length=k:=by simp;omega
    iterate 6 refine Stp ?_
    refine ZW rfl (cT fun hc3=>?_) (cF fun hc3=>?_)
    ·iterate 7 refine Stp ?_
     refine Ys rfl rfl rfl rfl F.elem39 jR jC yB rfl ?_;refine Xm rfl rfl rfl jE yC F.lay38 rfl rfl rfl ?_
     refine Yz F.zero38 ?_;intro b4
     refine VO ?_;refine Ya F.lay38 ?_
     iterate 4 refine Stp ?_
     refine Yg (l:=[0,1,2,3,4,5,6,7,8,9,10,11,12,13,14,15,16,17,18,19,20,21,22,23,24,25,26,27,28,29]) #[0,1,3,7,15,31,63,127,255,511,511,1535,4095,8191,16383,32767,65535,131071,262143,262143,786431,2097151,4194303,8388607,262143,17039359,67108863,134217727,268435455,536870911] _ rfl jI jI St.drawn (fun _ h=>h) ?_;refine Zi F.foff38_0 ?_;refine Zy F.lay3 ?_
     iterate 2 refine Stp ?_
     refine Yt 24 rfl (cT fun hc5=>?_) (cF fun hc5=>?_)
     ·iterate 41 refine Stp ?_
      refine ZV (.inr rfl) (.tmp rfl .nil) (fun w hw=>?_)
      refine ⟨_,rfl,(hw.c),?_⟩
      clear hw
      refine congrArg Value.bool ?_
      (have hd:=circ_take (l:=l_l) (k:=k) jC;have hp:=circ_pre (l:=l_l);grind [Wy])
     ·refine Zi F.foff38_0 ?_
      refine Zy F.lay3 ?_
      iterate 3 refine Stp ?_
      refine Yt 29 rfl (cT fun hc6=>?_) (cF fun hc6=>?_)
      ·iterate 36 refine Stp ?_
       refine ZV (.inr rfl) (.tmp rfl .nil) (fun w hw=>?_)
       refine ⟨_,rfl,(hw.c),?_⟩
       clear hw
       refine congrArg Value.bool ?_
       (have hd:=circ_take (l:=l_l) (k:=k) jC;have hp:=circ_pre (l:=l_l);grind [Wy])
      ·refine Yk ?_
       refine Zi F.foff38_0 ?_;refine Zy F.lay3 ?_;refine X_fo rfl rfl F.ok96 rfl (ContainsI_rd _ h1 ⟨ad1,cp1,(l_l.take k).map Zs.addr⟩ _ (ho.rd _) jY) jA (ZT rfl) ?_
       rintro _ M1 _ ⟨hM1,rfl⟩;subst M1
       iterate 2 refine Stp ?_
       refine Yt 35 rfl (cT fun hc7=>?_) (cF fun hc7=>?_)
       ·simp only [Zs.eta,ZO.eta,ZJ.eta,ZF.eta,Ym.eta,Yv.eta,Yy.eta,Yq.eta,ZN.eta,YF.eta,ZU.eta] at hc7
        iterate 30 refine Stp ?_
        refine ZV (.inr rfl) (.tmp rfl .nil) (fun w hw=>?_)
        refine ⟨_,rfl,(hw.c),?_⟩
        clear hw
        refine congrArg Value.bool ?_
        (have hd:=circ_take (l:=l_l) (k:=k) jC;have hp:=circ_pre (l:=l_l);grind [Wy])
       ·simp only [Zs.eta,ZO.eta,ZJ.eta,ZF.eta,Ym.eta,Yv.eta,Yy.eta,Yq.eta,ZN.eta,YF.eta,ZU.eta] at hc7
        iterate 3 refine Stp ?_
        refine Yt 38 rfl (cT fun hc8=>?_) (cF fun hc8=>?_)
        ·iterate 2 refine Stp ?_
         refine YO rfl rfl rfl rfl rfl yA rfl ?_;refine Ys rfl rfl rfl rfl F.elem39 (by exact (Int.toNat_of_nonneg jC).symm) jC yB rfl ?_;refine X_fieldAddr_el rfl rfl rfl yB F.foff38_1 rfl ?_;refine Xm rfl rfl rfl jE yC F.lay36 rfl rfl rfl ?_;refine Zi F.foff38_1 ?_;refine Zy F.lay36 ?_;refine X_fs rfl rfl F.ok95 rfl (Less_ok _ _ _) rfl ?_
         rintro _ rfl
         iterate 5 refine Stp ?_
         refine ZW rfl (eT fun hc9=>?_) (eF fun hc9=>?_)
         ·iterate 12 refine Stp ?_
          refine ZV (.inr rfl) (.tmp rfl .nil) (fun w hw=>?_)
          refine ⟨_,rfl,(hw.c),?_⟩
          clear hw
          refine congrArg Value.bool ?_
          (have hd:=circ_take (l:=l_l) (k:=k) jC;have hp:=circ_pre (l:=l_l);grind [Wy])
         ·iterate 4 refine Stp ?_
          refine Zi F.foff38_0 ?_;refine Zy F.lay3 ?_
          refine YS rfl rfl F.elem32 F.zero3 rfl rfl (.cons rfl jG .nil) rfl rfl jL rfl ?_;intro b10 hob11
          refine WT (m:=1000000) rfl rfl rfl rfl rfl F.elem32 F.zero3 jR rfl jE jA (Src.own hob11.lens (by (simp [ZZ,Segs.cells,Seg.cells,Value.oneCell'];done)) rfl jB) jN jJ rfl ?_;intro v14 hs13 ho12;obtain ⟨adv14,cpv14,rfl⟩:=ho12.val
          iterate 5 refine Stp ?_
          refine YO rfl rfl rfl rfl rfl yA rfl ?_
          iterate 2 refine Stp ?_
          refine Xa (a':=[(16,_),(3,_)]) (k+1) (hs13) (.cons (k:=16) rfl (.cons (k:=3) rfl (.cons (k:=15) rfl (.cons (k:=14) rfl (.cons (k:=2) rfl (.cons (k:=0) rfl (.nil))))))) jP (fun w hw=>by first|exact hw|exact hw.c) ?_ ?_
          ·refine ⟨_,rfl,rfl,by omega,?_,?_⟩
           ·have hd:=circ_take (l:=l_l) (k:=k) jC;grind
           ·have e9:(((l_l.take (k+1)).map Zs.addr).map (oneI .i64))=(((l_l.take k).map Zs.addr).map (oneI .i64))++[oneI .i64 l_l[k].addr]:=by rw [take_map_succ _ jC,List.map_append];rfl
            rw [e9];assumption
          ·omega
        ·iterate 19 refine Stp ?_
         refine Zi F.foff38_0 ?_;refine Zy F.lay3 ?_
         refine YS rfl rfl F.elem32 F.zero3 rfl rfl (.cons rfl jG .nil) rfl rfl jL rfl ?_;intro b15 hob16
         refine WT (m:=1000000) rfl rfl rfl rfl rfl F.elem32 F.zero3 jR rfl jE jA (Src.own hob16.lens (by (simp [ZZ,Segs.cells,Seg.cells,Value.oneCell'];done)) rfl jB) jN jJ rfl ?_;intro v19 hs18 ho17;obtain ⟨adv19,cpv19,rfl⟩:=ho17.val
         iterate 5 refine Stp ?_
         refine YO rfl rfl rfl rfl rfl yA rfl ?_
         iterate 2 refine Stp ?_
         refine Xa (a':=[(16,_),(3,_)]) (k+1) (hs18) (.cons (k:=16) rfl (.cons (k:=3) rfl (.cons (k:=15) rfl (.cons (k:=14) rfl (.cons (k:=2) rfl (.cons (k:=0) rfl (.nil))))))) jP (fun w hw=>by first|exact hw|exact hw.c) ?_ ?_
         ·refine ⟨_,rfl,rfl,by omega,?_,?_⟩
          ·have hd:=circ_take (l:=l_l) (k:=k) jC;grind
          ·have e9:(((l_l.take (k+1)).map Zs.addr).map (oneI .i64))=(((l_l.take k).map Zs.addr).map (oneI .i64))++[oneI .i64 l_l[k].addr]:=by rw [take_map_succ _ jC,List.map_append];rfl
           rw [e9];assumption
         ·omega
    ·iterate 11 refine Stp ?_
     refine ZV (.inr rfl) (.tmp rfl .nil) (fun w hw=>?_)
     refine ⟨_,rfl,(hw.c),?_⟩
     clear hw
     refine congrArg Value.bool ?_
     (have hk9:k=l_l.length:=jC;subst hk9;grind [Wy,List.take_length])
theorem Search_ok (M:Mem) (Hin:Hp) (g:FuncId) (caps:List Value) (p:Nat→Bool) (n:Nat) (hn:n≤1000000000) (hok:okFn Tryz.prog g=true) (hc:∀ i,i<n→Fo Tryz.prog g ([.int .i64 (i:Int)]++caps) M Hin (fun M' v=>M'=M∧v=.bool (p i))) (hmono:∀ i j,i≤j→j<n→p i=true→p j=true):Fo Tryz.prog 97 [.int .i64 (n:Int),.func (.func g) #[] caps.toArray] M Hin (fun M' v=>M'=M∧v=.int .i64 (TN p n:Nat)):=by
  refine Vu Tryz.func97 rfl Tryz.ntmps97 rfl ?_;intro H
  iterate 14 refine Stp ?_
  refine Y_pk [5,6,4,1] ?_;refine VI (.succ (.succ .zero)) (fun (x:Nat×Nat) z=>z=[(5,.int .i64 (x.1:Int)),(6,.int .i64 (x.2:Int))]∧x.1≤x.2∧x.2≤n∧(∀ y,y<x.1→p y=false)∧(x.2<n→p x.2=true)) (fun x=>x.2-x.1) ((0,n)) (⟨rfl,Nat.zero_le _,Nat.le_refl _,fun y h=>(by cases h),fun h=>jC⟩) ?_
  rintro ⟨a,b⟩ z ⟨hz,h1,h2,h3,h4⟩
  simp only at hz h1 h2 h3 h4
  subst hz
  iterate 8 refine Stp ?_
  refine ZW rfl (fun hc1=>?_) (fun hc1=>?_)
  ·skip
   replace hc1:=dT hc1
   iterate 7 refine Stp ?_
   refine YO rfl rfl rfl rfl rfl yA rfl ?_;refine Wz rfl rfl rfl Tryz.underlying3 Tryz.underlying136 yE rfl ?_;refine Vt rfl rfl rfl rfl jJ (VY 1 jJ) rfl rfl ?_;refine Wz rfl rfl rfl Tryz.underlying136 Tryz.underlying3 yA rfl ?_
   have e9:((a:Int)+(b:Int)) / 2 ^ 1=(((a+b) / 2:Nat):Int):=by omega
   rw [e9]
   iterate 7 refine Stp ?_
   have hab:a<b:=by omega
   refine X_foV rfl rfl rfl hok rfl rfl (hc ((a+b) / 2) jC) jA (ZT rfl) ?_
   rintro _ M1 _ ⟨hM1,rfl⟩;subst M1
   iterate 3 refine Stp ?_
   refine ZW rfl (fun hc2=>?_) (fun hc2=>?_)
   ·simp only [Bool.not_eq_true',Bool.not_eq_false'] at hc2
    have hP:=hc2
    iterate 2 refine Stp ?_
    refine YO rfl rfl rfl rfl rfl yA rfl ?_
    iterate 3 refine Stp ?_
    refine Vq (a':=[(5,_),(6,_)]) (((a+b) / 2+1,b)) (.cons (k:=5) rfl (.cons (k:=6) rfl (.cons (k:=4) rfl (.cons (k:=1) rfl (.nil))))) (fun w hw=>by first|exact hw|exact hw.c) ?_ ?_
    ·refine ⟨rfl,(by show (a+b) / 2+1≤b;omega),h2,fun y hy=>?_,h4⟩
     have hy2:y<(a+b) / 2+1:=hy
     cases hpy:p y with
     |false=>rfl
     |true=>have:=hmono y ((a+b) / 2) jC jC hpy;simp_all
    ·show b-((a+b) / 2+1)<b-a;omega
   ·simp only [Bool.not_eq_true',Bool.not_eq_false'] at hc2
    have hP:=hc2
    iterate 5 refine Stp ?_
    refine Vq (a':=[(5,_),(6,_)]) ((a,(a+b) / 2)) (.cons (k:=5) rfl (.cons (k:=6) rfl (.cons (k:=4) rfl (.cons (k:=1) rfl (.nil))))) (fun w hw=>by first|exact hw|exact hw.c) ?_ ?_
    ·exact ⟨rfl,(by show a≤(a+b) / 2;omega),(by show (a+b) / 2≤n;omega),h3,fun _=>by simpa using hP⟩
    ·show (a+b) / 2-a<b-a;omega
  ·skip
   replace hc1:=dF hc1
   iterate 12 refine Stp ?_
   refine ZV (.inr rfl) (.tmp rfl .nil) (fun w hw=>?_)
   refine ⟨_,M,rfl,Mem.le.refl M,hw.c,rfl,?_⟩
   refine congrArg (Value.int .i64) ?_
   have e:a=b:=by omega
   subst e
   exact congrArg Nat.cast (firstP_at h2 h3 h4).symm
theorem own1_ok (M:Mem) (b1 b2:Nat) (l:Sl Zs) (x:Plc) (s_l:SlM M l.a (l.l.map Zs.segs) 21) (i:Nat) (hi:i<l.l.length):Fo Tryz.prog 98 ([.int .i64 (i:Int)]++[.pointer (some ⟨b1,0,none⟩),.pointer (some ⟨b2,0,none⟩)]) M [(b2,rowO [Yb x] 36),(b1,rowO [.one l.val] 39)] (fun M' v=>M'=M∧v=.bool (pO l.l x i)):=by
  obtain ⟨l_a,l_c,l_l⟩:=l
  simp only at s_l hi
  have n_l:(l_l.map Zs.segs).length=l_l.length:=List.length_map ..
  refine Vu Tryz.func98 rfl Tryz.ntmps98 rfl ?_;intro H
  iterate 6 refine Stp ?_
  refine Yg (l:=[0,1,2,3,4,5,6,7,8]) #[0,0,3,7,15,0,63,127,255] _ rfl jI jI St.drawn (fun _ h=>h) ?_;refine Zy F.lay39 ?_;refine Yk ?_;refine Ys rfl rfl rfl rfl F.elem39 jR jC yB rfl ?_;refine X_fieldAddr_el rfl rfl rfl yB F.foff38_1 rfl ?_;refine Xm rfl rfl rfl jE yC F.lay36 rfl rfl rfl ?_;refine Zy F.lay36 ?_;refine X_fs rfl rfl F.ok95 rfl (Less_ok _ _ _) rfl ?_
  rintro _ rfl
  iterate 5 refine Stp ?_
  refine ZV (.inr rfl) (.tmp rfl .nil) (fun w hw=>?_)
  exact ⟨_,M,rfl,Mem.le.refl M,hw.c,rfl,congrArg Value.bool (by rw [pO_at hi];simp)⟩
theorem owner_ok (M:Mem) (l:(Sl Zs)) (x:Plc) (hl0:SlK M Zs.segs 21 l) (hc:Wy l.l):Fs Tryz.prog 56 [Sl.val l,aggV [Yb x]] M (fun v=>v=Value.int .i64 (((ownerI l.l x:Nat):Int))):=by
  obtain ⟨l_a,l_c,l_l⟩:=l
  have k_l:SlK M Zs.segs 21 ⟨l_a,l_c,l_l⟩:=hl0
  have s_l:SlM M l_a (l_l.map Zs.segs) 21:=k_l.h1
  have n_l:(l_l.map Zs.segs).length=l_l.length:=List.length_map ..
  have m_l:l_l.length≤9223372036854775807:=k_l.h2
  have c_l:l_l.length≤l_c:=k_l.h3
  have hc1:=hc.1
  simp only at hc1
  refine Xe Tryz.func56 rfl Tryz.ntmps56 rfl ?_;intro H
  iterate 2 refine Stp ?_
  refine Xq ?_;intro b1
  refine Xq ?_;intro b2
  iterate 4 refine Stp ?_
  refine Yg (l:=[0,1,2,3,4,5,6,7]) #[0,1,0,7,0,16,63,127] _ rfl jI jI St.drawn (fun _ h=>h) ?_;refine Zy F.lay39 ?_;refine YA F.elem39 ?_;refine VL rfl rfl rfl rfl rfl ?_;refine X_fo rfl rfl F.ok97 rfl (Search_ok _ _ 98 [_,_] (pO l_l x) l_l.length jC F.ok98 (fun i hi=>own1_ok M _ _ ⟨l_a,l_c,l_l⟩ x s_l i hi) (pO_mono hc.2)) jA (ZT rfl) ?_
  rintro _ M1 _ ⟨hM1,rfl⟩;subst M1
  refine Zy F.lay39 ?_;refine YA F.elem39 ?_;refine X_rem rfl rfl rfl rfl jC yR rfl ?_
  iterate 4 refine Stp ?_
  refine ZV (.inr rfl) (.tmp rfl .nil) (fun w hw=>?_)
  refine ⟨_,rfl,(hw.c),?_⟩
  clear hw
  exact congrArg (Value.int .i64) (Int.natCast_emod _ _).symm
end Go.Proofs.YtglnjnacodgmaaaGreatDoor.K
namespace Go.Esp
def CandP (s:Zs) (id:Plc) (avoid:List Int) (p:Zs):Prop:=Tj s.id p.id id∧p.addr∉avoid
instance (s:Zs) (id:Plc) (avoid:List Int) (p:Zs):Decidable (CandP s id avoid p):=by unfold CandP;exact inferInstance
structure NearOk (s:Zs) (id:Plc) (avoid:List Int) (l:List Zs) (r:Zs×Bool):Prop where
  no:r.2=false→r.1=YD∧∀ x∈l,¬CandP s id avoid x
  yes:r.2=true→r.1∈l∧CandP s id avoid r.1∧∀ x∈l,CandP s id avoid x→¬Tj r.1.id x.id id
theorem near_step {s:Zs} {id:Plc} {avoid:List Int} {l:List Zs} {r:Zs×Bool} {p:Zs} (h:NearOk s id avoid l r):NearOk s id avoid (l++[p]) (VB s id avoid r p):=by
  obtain ⟨b,f⟩:=r
  unfold VB
  by_cases hc:p.addr∈avoid∨¬Tj s.id p.id id
  · rw [if_pos hc]
    have hn:¬CandP s id avoid p:=fun h9=>hc.elim h9.2 (fun h8=>h8 h9.1)
    refine ⟨fun h1=>⟨(h.no h1).1,fun x hx=>?_⟩,fun h1=>⟨List.mem_append_left _ (h.yes h1).1,(h.yes h1).2.1,fun x hx hcx=>?_⟩⟩
    · rcases List.mem_append.1 hx with hx|hx
      · exact (h.no h1).2 x hx
      · rw [List.mem_singleton.1 hx];exact hn
    · rcases List.mem_append.1 hx with hx|hx
      · exact (h.yes h1).2.2 x hx hcx
      · rw [List.mem_singleton.1 hx] at hcx;exact (hn hcx).elim
  · rw [if_neg hc]
    have hp:CandP s id avoid p:=⟨Decidable.byContradiction fun h9=>hc (.inr h9),fun h9=>hc (.inl h9)⟩
    by_cases hd:f=false∨Tj b.id p.id id
    · rw [if_pos (show (b,f).2=false∨Tj (b,f).1.id p.id id from hd)]
      refine ⟨fun h1=>(by cases h1),fun _=>⟨List.mem_append_right _ (List.mem_singleton.2 rfl),hp,fun x hx hcx ho=>?_⟩⟩
      rcases List.mem_append.1 hx with hx|hx
      · cases f with
        | false=>exact (h.no rfl).2 x hx hcx
        | true =>
          have hb:=h.yes rfl
          have ho2:Tj b.id p.id id:=hd.resolve_left jU
          have h1:=(open_less hb.2.1.1 hp.1).1 ho2
          have h2:=(open_less hp.1 hcx.1).1 ho
          exact hb.2.2 x hx hcx ((open_less hb.2.1.1 hcx.1).2 (Nat.lt_trans h1 h2))
      · rw [List.mem_singleton.1 hx] at ho;exact ho.1 rfl
    · rw [if_neg (show ¬((b,f).2=false∨Tj (b,f).1.id p.id id) from hd)]
      refine ⟨fun h1=>(hd (.inl h1)).elim,fun h1=>⟨List.mem_append_left _ (h.yes h1).1,(h.yes h1).2.1,fun x hx hcx=>?_⟩⟩
      rcases List.mem_append.1 hx with hx|hx
      · exact (h.yes h1).2.2 x hx hcx
      · rw [List.mem_singleton.1 hx];exact fun h9=>hd (.inr h9)
theorem near_fold {s:Zs} {id:Plc} {avoid:List Int}:∀ {xs l:List Zs} {r:Zs×Bool},NearOk s id avoid l r→NearOk s id avoid (l++xs) (xs.foldl (VB s id avoid) r)
  | [],l,r,h=>by rw [List.append_nil];exact h
  | p::xs,l,r,h=>by
    have:=near_fold (xs:=xs) (near_step (p:=p) h)
    rw [List.append_assoc] at this
    exact this
theorem near_ok {t:Tb} {id:Plc} {avoid:List Int}:NearOk t.self id avoid (To t) (Ww t id avoid) :=
  near_fold (l:=[]) ⟨fun _=>⟨rfl,by simp⟩,fun h=>by cases h⟩
end Go.Esp
namespace Go.Esp
def RightL (l:List Tb):Prop:=l.length≤16∧(∀ t∈l,IsTb t)∧(l.map fun t=>t.self.addr).Nodup
instance (l:List Tb):Decidable (RightL l):=by unfold RightL;exact inferInstance
section
variable {l:List Tb} {id:Plc} {most n:Nat} {t u:Tb} {hops:List Int} {p q:Zs}
end
end Go.Esp
namespace Go.Proofs.YtglnjnacodgmaaaGreatDoor
open Go.Esp
theorem F.elem66:slOf Tryz.prog 66=some (41,44,112):=by kernel_rfl
end Go.Proofs.YtglnjnacodgmaaaGreatDoor
namespace Go.Esp
def fingerAt (l:List Zs) (p:Zs) (k:Nat):Int:=((ownerI l (p.id+powP k):Nat):Int)
def fingersR (l:List Zs) (i:Int):List Int×Int:=if h:Wy l∧0≤i∧i<l.length then ((List.range 160).map (fingerAt l (l[i.toNat]'(by omega))),0) else ([],1)
theorem fingersR_yes {l:List Zs} {i:Nat} (h:Wy l) (hi:i<l.length):fingersR l (i:Int)=((List.range 160).map (fingerAt l l[i]),0):=by
  unfold fingersR
  rw [dif_pos ⟨h,by omega,by omega⟩]
  simp only [Int.toNat_natCast]
theorem fingersR_no {l:List Zs} {i:Int} (h:¬(Wy l∧0≤i∧i<l.length)):fingersR l i=([],1):=dif_neg h
def Sw (f:Nat→Int) (k:Nat):List Int:=(List.range 160).map fun j=>if j<k then f j else 0
theorem fillL_zero (f:Nat→Int):Sw f 0=List.replicate 160 0:=by
  unfold Sw
  simp only [Nat.not_lt_zero,if_false]
  exact List.map_const' ..
theorem fillL_all (f:Nat→Int):Sw f 160=(List.range 160).map f:=by
  unfold Sw
  refine List.map_congr_left fun j hj=>?_
  rw [if_pos (List.mem_range.1 hj)]
theorem fillL_len (f:Nat→Int) (k:Nat):(Sw f k).length=160:=by unfold Sw;simp
theorem fillL_set (f:Nat→Int) {k:Nat} (hk:k<160) {v:Int} (hv:v=f k):(Sw f k).set k v=Sw f (k+1):=by
  unfold Sw
  refine List.ext_getElem jU fun j h1 h2=>?_
  rw [List.getElem_set]
  simp only [List.getElem_map,List.getElem_range]
  split
  · rename_i h;subst h;rw [if_pos jC];exact hv
  · rename_i h
    by_cases h3:j<k
    · rw [if_pos h3,if_pos jC]
    · rw [if_neg h3,if_neg jC]
def IntsE (M:Mem) (v:Value) (r:List Int×Int):Prop:=∃ s:Sl Int,v=.tuple #[s.val,.int .i64 r.2]∧s.l=r.1∧SlK M (oneI .i64) 1 s
end Go.Esp
namespace Go.Proofs.YtglnjnacodgmaaaGreatDoor
open Go.Esp
theorem F.ok55:okFn Tryz.prog 55=true:=by kernel_rfl
theorem F.ok56:okFn Tryz.prog 56=true:=by kernel_rfl
theorem Fingers_ok (M:Mem) (l:(Sl Zs)) (i:Int) (hl0:SlK M Zs.segs 21 l):Esp.Fn Tryz.prog 90 [Sl.val l,.int .i64 i] M (fun M' v=>IntsE M' v (fingersR l.l i)):=by
  obtain ⟨l_a,l_c,l_l⟩:=l
  have k_l:SlK M Zs.segs 21 ⟨l_a,l_c,l_l⟩:=hl0
  have s_l:SlM M l_a (l_l.map Zs.segs) 21:=k_l.h1
  have n_l:(l_l.map Zs.segs).length=l_l.length:=List.length_map ..
  have m_l:l_l.length≤9223372036854775807:=k_l.h2
  have c_l:l_l.length≤l_c:=k_l.h3
  refine WF Tryz.func90 rfl Tryz.ntmps90 rfl ?_;intro H
  iterate 10 refine Stp ?_
  refine X_fs rfl rfl F.ok55 rfl (K.Circ_ok _ ⟨_,_,_⟩ jE) rfl ?_
  rintro _ rfl
  iterate 2 refine Stp ?_
  refine Yt 13 rfl (eT fun hc1=>?_) (eF fun hc1=>?_)
  ·simp only [Zs.eta,ZO.eta,ZJ.eta,ZF.eta,Ym.eta,Yv.eta,Yy.eta,Yq.eta,ZN.eta,YF.eta,ZU.eta] at hc1
   iterate 20 refine Stp ?_
   refine ZV (.inr rfl) (.tmp rfl (.tmp rfl .nil)) (fun w hw=>?_)
   refine ⟨_,M,rfl,Mem.le.refl M,hw.c,?_⟩
   rw [show fingersR l_l i=([],1) from fingersR_no yH]
   exact ⟨⟨none,0,[]⟩,rfl,rfl,SlK.nil⟩
  ·simp only [Zs.eta,ZO.eta,ZJ.eta,ZF.eta,Ym.eta,Yv.eta,Yy.eta,Yq.eta,ZN.eta,YF.eta,ZU.eta] at hc1
   iterate 4 refine Stp ?_
   refine Yt 17 rfl (cT fun hc2=>?_) (cF fun hc2=>?_)
   ·iterate 16 refine Stp ?_
    refine ZV (.inr rfl) (.tmp rfl (.tmp rfl .nil)) (fun w hw=>?_)
    refine ⟨_,M,rfl,Mem.le.refl M,hw.c,?_⟩
    rw [show fingersR l_l i=([],1) from fingersR_no yH]
    exact ⟨⟨none,0,[]⟩,rfl,rfl,SlK.nil⟩
   ·iterate 2 refine Stp ?_
    refine YA F.elem39 ?_
    iterate 4 refine Stp ?_
    refine ZW rfl (cT fun hc3=>?_) (cF fun hc3=>?_)
    ·iterate 8 refine Stp ?_
     refine ZV (.inr rfl) (.tmp rfl (.tmp rfl .nil)) (fun w hw=>?_)
     refine ⟨_,M,rfl,Mem.le.refl M,hw.c,?_⟩
     rw [show fingersR l_l i=([],1) from fingersR_no yH]
     exact ⟨⟨none,0,[]⟩,rfl,rfl,SlK.nil⟩
    ·iterate 4 refine Stp ?_
     obtain ⟨n,rfl⟩:∃ n:Nat,i=n:=⟨i.toNat,by omega⟩
     have hc:Wy l_l:=by assumption
     have hn:n<l_l.length:=by omega
     have hc1:=hc.1
     refine X_makeSliceO (k:=160) (zr:=oneI .i64 0) rfl rfl rfl rfl F.elem32 F.zero3 rfl rfl rfl jJ jJ rfl ?_;intro b1 hs1 ho1
     iterate 7 refine Stp ?_
     refine YA F.elem32 ?_
     iterate 4 refine Stp ?_
     refine Y_pk [26,25,6,5,4,0,1] ?_;refine Wt (Hin:=hs1) (.succ .zero) jA (fun (k:Nat) M1 h1 z=>M1=M∧z=[(26,.int .i64 (k:Int))]∧k≤160∧OSl 3 1 (.slice (some ⟨b1,0,none⟩) 160 160) h1 ((Sw (fingerAt l_l l_l[n]) (k)).map (oneI .i64))) (fun k=>160-k) (0) (⟨rfl,rfl,by omega,by rw [fillL_zero,List.map_replicate];exact ho1⟩) ?_
     rintro k M1 h1 z hm1 ⟨hM1,rfl,hk,ho⟩
     subst hM1
     have hfl:=fillL_len (fingerAt l_l l_l[n]) k
     have hml:((Sw (fingerAt l_l l_l[n]) (k)).map (oneI .i64)).length=160:=by rw [List.length_map];exact hfl
     iterate 6 refine Stp ?_
     refine ZW rfl (cT fun hc4=>?_) (cF fun hc4=>?_)
     ·iterate 13 refine Stp ?_
      refine X_fs rfl rfl F.ok147 rfl (Power_ok_in _ k jC) rfl ?_
      rintro _ rfl
      iterate 3 refine Stp ?_
      refine Yz F.zero36 ?_;intro b5
      refine Ya F.lay36 ?_
      iterate 3 refine Stp ?_
      refine Yg (l:=[0,1,2,3,4,5,6,7,8,9,10,11,12]) #[0,0,0,0,0,24,56,120,0,504,1020,2047,4095] _ rfl jI jI St.drawn (fun _ h=>h) ?_
      iterate 5 refine Stp ?_
      refine Ys rfl rfl rfl rfl F.elem39 jR jC yB rfl ?_;refine X_fieldAddr_el rfl rfl rfl yB F.foff38_1 rfl ?_;refine Xm rfl rfl rfl jE yC F.lay36 rfl rfl rfl ?_;refine Zy F.lay36 ?_;refine X_fs rfl rfl F.ok148 rfl (Plus_ok _ _ _) rfl ?_
      rintro _ rfl
      refine X_fs rfl rfl F.ok56 rfl (K.owner_ok _ ⟨_,_,_⟩ _ jE jE) rfl ?_
      rintro _ rfl
      refine Ys rfl rfl rfl rfl F.elem32 jR jC zA rfl ?_
      refine UJ (b:=b1) (j:=k) rfl rfl rfl rfl jG (Xw rfl Xx) F.lay3 rfl rfl ho jA jC ?_;intro hs2 ho2
      replace ho2:OSl 3 1 (.slice (some ⟨b1,0,none⟩) 160 160) hs2 ((Sw (fingerAt l_l l_l[n]) (k+1)).map (oneI .i64)):=by rw [← fillL_set (fingerAt l_l l_l[n]) jC rfl,List.map_set];exact ho2.aZ (by simp [hml])
      iterate 4 refine Stp ?_
      refine YO rfl rfl rfl rfl rfl yA rfl ?_
      iterate 2 refine Stp ?_
      refine Xa (a':=[(26,_)]) (k+1) (hs2) (.cons (k:=26) rfl (.cons (k:=25) rfl (.cons (k:=6) rfl (.cons (k:=5) rfl (.cons (k:=4) rfl (.cons (k:=0) rfl (.cons (k:=1) rfl (.nil)))))))) jP (fun w hw=>by first|exact hw|exact hw.c) ?_ ?_
      ·exact ⟨rfl,rfl,by omega,ho2⟩
      ·omega
     ·iterate 13 refine Stp ?_
      refine ZV (.inr rfl) (.tmp rfl (.tmp rfl .nil)) (fun w hw=>?_)
      obtain rfl:k=160:=by omega
      obtain ⟨M9,s1,g1,g2,g3,g4,g5⟩:=OSl.freezeK (f:=oneI .i64) (H:=H) (l:=(List.range 160).map (fingerAt l_l l_l[n])) (by rw [← fillL_all];exact ho) (hw.c)
      refine ⟨_,M9,rfl,g1,g2,?_⟩
      rw [show fingersR l_l ((n:Nat):Int)=_ from fingersR_yes hc hn]
      exact ⟨s1,by rw [← g3];rfl,g4,g5⟩
end Go.Proofs.YtglnjnacodgmaaaGreatDoor
namespace Go.Esp
theorem flat_len {rows:List (Sl Zs)} {i:Nat} {a:Option Addr} {c:Nat} {l:List Zs} (hi:i<rows.length) (hr:rows[i]=⟨a,c,l⟩):((rows.take i).map Sl.l).flatten.length+l.length≤(rows.map Sl.l).flatten.length:=by
  have h:=flat_next hi hr
  have h2:(rows.map Sl.l).flatten=((rows.take (i+1)).map Sl.l).flatten++((rows.drop (i+1)).map Sl.l).flatten:=by
    rw [← List.flatten_append,← List.map_append,List.take_append_drop]
  have h3:=congrArg List.length h2
  rw [h] at h3
  simp only [List.length_append] at h3
  omega
def roundL (l:List Zs) (i:Nat):List Zs:=l.drop (i+1)++l.take i
theorem roundL_len {l:List Zs} {i:Nat} (hi:i<l.length):(roundL l i).length=l.length-1:=by
  unfold roundL;simp;omega
theorem lastD_at {l:List Zs} {d:Zs} (h:0<l.length):l.getLastD d=l[l.length-1]'(by omega):=by
  rw [List.getLastD_eq_getLast?,List.getLast?_eq_getElem?,List.getElem?_eq_getElem jC]
  rfl
def TG (f:Nat→Zs) (d:Zs) (k:Nat):List Zs:=(List.range 160).map fun j=>if j<k then f j else d
theorem fillP_zero (f:Nat→Zs) (d:Zs):TG f d 0=List.replicate 160 d:=by
  unfold TG
  simp only [Nat.not_lt_zero,if_false]
  exact List.map_const' ..
theorem fillP_all (f:Nat→Zs) (d:Zs):TG f d 160=(List.range 160).map f:=by
  unfold TG
  refine List.map_congr_left fun j hj=>?_
  rw [if_pos (List.mem_range.1 hj)]
theorem fillP_len (f:Nat→Zs) (d:Zs) (k:Nat):(TG f d k).length=160:=by unfold TG;simp
theorem fillP_set (f:Nat→Zs) (d:Zs) {k:Nat} (hk:k<160) {v:Zs} (hv:v=f k):(TG f d k).set k v=TG f d (k+1):=by
  unfold TG
  refine List.ext_getElem jU fun j h1 h2=>?_
  rw [List.getElem_set]
  simp only [List.getElem_map,List.getElem_range]
  split
  · rename_i h;subst h;rw [if_pos jC];exact hv
  · rename_i h
    by_cases h3:j<k
    · rw [if_pos h3,if_pos jC]
    · rw [if_neg h3,if_neg jC]
theorem fillP_stay (f:Nat→Zs) (d:Zs) {k:Nat} (hv:d=f k):TG f d k=TG f d (k+1):=by
  unfold TG
  refine List.map_congr_left fun j hj=>?_
  by_cases h3:j<k
  · rw [if_pos h3,if_pos jC]
  · rw [if_neg h3]
    by_cases h4:j<k+1
    · obtain rfl:j=k:=by omega
      rw [if_pos jC];exact hv
    · rw [if_neg h4]
def setF (l:List Zs) (i:Nat) (p:Zs) (k:Nat):Zs:=if ownerI l (p.id+powP k)=i then YD else l[ownerI l (p.id+powP k)]?.getD YD
def setT (l:List Zs) (r:Nat) (i:Nat) (p:Zs):Tb :=
  ⟨p,(roundL l i).getLastD YD,(roundL l i).take r,(List.range 160).map (setF l i p)⟩
def setL (l:List Zs) (r:Nat):List Tb:=l.mapIdx (setT l r)
def settledT (l:List Zs) (r:Int):List Tb×Int:=if Wy l∧1≤r∧r≤8 then (setL l r.toNat,0) else ([],1)
theorem settledT_yes {l:List Zs} {r:Nat} (h:Wy l) (h1:1≤r) (h2:r≤8):settledT l (r:Int)=(setL l r,0):=by
  unfold settledT
  rw [if_pos ⟨h,by omega,by omega⟩]
  simp only [Int.toNat_natCast]
theorem settledT_no {l:List Zs} {r:Int} (h:¬(Wy l∧1≤r∧r≤8)):settledT l r=([],1):=if_neg h
theorem setL_take {l:List Zs} {r k:Nat} (hk:k<l.length):(setL l r).take (k+1)=(setL l r).take k++[setT l r k l[k]]:=by
  rw [List.take_add_one]
  unfold setL
  rw [List.getElem?_mapIdx,List.getElem?_eq_getElem hk]
  rfl
theorem setL_len {l:List Zs} {r:Nat}:(setL l r).length=l.length:=by unfold setL;simp
def TbsIs (M:Mem) (v:Value) (l:List Tb):Prop:=∃ s:Sl ZO,v=s.val∧s.l.map ZO.tb=l∧SlK M ZO.segs 44 s∧∀ t∈s.l,ZO.ok M t
def TbsE (M:Mem) (v:Value) (r:List Tb×Int):Prop:=∃ u,v=.tuple #[u,.int .i64 r.2]∧TbsIs M u r.1
end Go.Esp
namespace Go.Proofs.YtglnjnacodgmaaaGreatDoor
open Go.Esp
theorem F.ok146:okFn Tryz.prog 146=true:=by kernel_rfl
theorem NewF_ok (M:Mem) (p:Zs) (h:Yo p.addr):Fh Tryz.prog 87 [p.enc] M [] (fun M' v Hout=>M'=M∧∃ v2,v=.tuple #[aggV [.one (.int .i64 p.addr),Yb p.id,.one (.int .i64 (-1)),Yb 0,.one (.slice none 0 0),.one v2],.int .i64 0]∧OSl 38 21 v2 Hout (List.replicate 160 YD.segs)):=by
  obtain ⟨YI,p_id⟩:=p
  simp only at h
  refine Ui Tryz.func87 rfl Tryz.ntmps87 rfl ?_;intro H
  iterate 2 refine Stp ?_
  refine Xq ?_;intro b1
  refine Yz F.zero41 ?_;intro b2
  iterate 6 refine Stp ?_
  refine Zi F.foff38_0 ?_;refine Zy F.lay3 ?_;refine X_fs rfl rfl F.ok80 rfl (is_ok _ _) rfl ?_
  rintro _ rfl
  iterate 3 refine Stp ?_
  refine ZW rfl (eT fun hc3=>?_) (eF fun hc3=>?_)
  ·contradiction
  ·iterate 3 refine Stp ?_
   refine Yg (l:=[0,1,2,3,4,5,6,7]) #[0,0,2,6,14,31,63,127] _ rfl jI jI St.drawn (fun _ h=>h) ?_;refine Zy F.lay38 ?_;refine X_fs rfl rfl F.ok78 rfl (Vp _) rfl ?_
   rintro _ rfl
   refine XI 10 rfl (show _=aggV [.one (.int .i64 (-1)),Yb 0] from rfl) ?_;refine X_fs rfl rfl F.ok78 rfl (Vp _) rfl ?_
   rintro _ rfl
   refine XI 11 rfl (show _=aggV [.one (.int .i64 (-1)),Yb 0] from rfl) ?_
   refine YS rfl rfl F.elem39 F.zero38 rfl rfl (.cons rfl jG .nil) rfl rfl jL rfl ?_;intro b4 hob5
   refine WE rfl rfl F.ok145 rfl (Repeat_ok M _ _ hob5) jA (fun _ _ _ hm hw=>(hw.lower jV).c) (ZT rfl) ?_
   rintro v9 M1 hs9 hm1 ⟨hM1,ho9⟩;subst M1
   obtain ⟨ad9,cp9,rfl⟩:=ho9.val
   refine Xo rfl rfl F.bld41 (.cons rfl jG (.cons rfl jG (.cons rfl jG .nil))) rfl rfl ?_;refine Ya F.lay41 ?_
   iterate 4 refine Stp ?_
   refine ZV (.inr rfl) (.cell rfl jB F.lay41 rfl rfl (.tmp rfl .nil)) (fun w hw=>?_)
   exact ⟨_,M,_,rfl,Mem.le.refl M,hw.c,rfl,_,rfl,ho9⟩
theorem GrowP_nil (M:Mem) (n:Nat) (hn:n≤1000000):Fh Tryz.prog 146 [.slice none 0 0,.int .i64 (n:Int)] M [] (fun M' v Hout=>M'=M∧OSl 38 21 v Hout []):=by
  refine Ui Tryz.func146 rfl Tryz.ntmps146 rfl ?_;intro H
  iterate 12 refine Stp ?_
  refine ZW rfl (cT fun hc1=>?_) (cF fun hc1=>?_)
  ·(exfalso;omega)
  ·iterate 7 refine Stp ?_
   refine X_cap_sl rfl rfl rfl rfl F.elem39 rfl ?_;refine Yk ?_;refine YA F.elem39 ?_
   iterate 2 refine YO rfl rfl rfl rfl rfl yA rfl ?_
   rw [show ((n:Int)-(((0:Nat):Int)-((0:Nat):Int)))=(n:Int) by omega]
   iterate 9 refine Stp ?_
   refine ZW rfl (cT fun hc2=>?_) (cF fun hc2=>?_)
   ·iterate 3 refine Stp ?_
    refine X_cap_sl rfl rfl rfl rfl F.elem39 rfl ?_;refine WK rfl rfl rfl .none (.some (k:=0) rfl rfl) .none F.elem39 jU jU jU jU (show WJ none 21 0 0 0=.slice none 0 0 from rfl) rfl ?_;refine Yk ?_
    refine X_appendZ (k:=n) rfl rfl rfl rfl F.elem39 Tryz.underlying3 F.zero38 (VN rfl) rfl jC jC jC rfl ?_;intro b1 c1 hs1 hc1 ho1
    refine Yk ?_;refine YA F.elem39 ?_;refine WK rfl rfl rfl .none (.some (k:=0) rfl rfl) .none F.elem39 jU jU jU jU (show WJ (some ⟨b1,0,none⟩) 21 0 0 c1=.slice (some ⟨b1,0,none⟩) 0 c1 from pieceV_zero) rfl ?_
    iterate 10 refine Stp ?_
    refine ZV (.inr rfl) (.tmp rfl .nil) (fun w hw=>?_)
    exact ⟨_,M,hs1,rfl,Mem.le.refl M,hw.c,rfl,ho1⟩
   ·iterate 9 refine Stp ?_
    refine ZV (.inr rfl) (.tmp rfl .nil) (fun w hw=>?_)
    exact ⟨_,M,[],rfl,Mem.le.refl M,hw.c,rfl,OSl.nil⟩
theorem Concat_ok (M:Mem) (Hin:Hp) (ad:Option Addr) (c:Nat) (rs:List (Sl Zs)) (hl:RdS M Hin ad (rs.map (fun s=>[.one s.val])) 1) (hks:∀ s∈rs,SlK M Zs.segs 21 s) (hn:rs.length≤1000000) (hb:((rs.map Sl.l).flatten).length≤1000000):Fh Tryz.prog 88 [.slice ad rs.length c] M Hin (fun M' v Hout=>M'=M∧∃ hs,Hout=hs++Hin∧OSl 38 21 v hs (((rs.map Sl.l).flatten).map Zs.segs)):=by
  refine Ui Tryz.func88 rfl Tryz.ntmps88 rfl ?_;intro H
  have hrd:=hl.app H
  have nrs:(rs.map (fun s:Sl Zs=>[Seg.one s.val])).length=rs.length:=List.length_map ..
  iterate 14 refine Stp ?_
  refine YA F.elem142 ?_
  iterate 4 refine Stp ?_
  refine Y_pk [11,3,10,9,2,0] ?_;refine VI (.succ (.succ .zero)) (fun (k:Nat) z=>z=[(11,.int .i64 (k:Int)),(3,.int .i64 ((((rs.take k).map Sl.l).flatten.length:Nat):Int))]∧k≤rs.length) (fun k=>rs.length-k) (0) (⟨rfl,by omega⟩) ?_
  rintro k _ ⟨rfl,hk⟩
  iterate 6 refine Stp ?_
  refine ZW rfl (cT fun hc1=>?_) (cF fun hc1=>?_)
  ·iterate 5 refine Stp ?_
   have hi2:k<rs.length:=by omega
   obtain ⟨⟨r_a,r_c,r_l⟩,hr⟩:∃ s,rs[k]=s:=⟨_,rfl⟩
   have k_r:SlK M Zs.segs 21 ⟨r_a,r_c,r_l⟩:=hr ▸ hks rs[k] (List.getElem_mem hi2)
   have hfl:=flat_len hi2 hr
   have n_r:(r_l.map Zs.segs).length=r_l.length:=List.length_map ..
   refine Stp ?_;refine Ys rfl rfl rfl rfl F.elem142 jR jC yT rfl ?_;refine X_load_rd rfl rfl rfl jE yC F.lay39 rfl rfl rfl ?_
   rw [hr]
   iterate 7 refine Stp ?_
   refine YA F.elem39 ?_;refine YO rfl rfl rfl rfl rfl yA rfl ?_
   iterate 9 refine Stp ?_
   refine ZW rfl (cT fun hc2=>?_) (cF fun hc2=>?_)
   ·(exfalso;omega)
   ·iterate 4 refine Stp ?_
    refine YO rfl rfl rfl rfl rfl yA rfl ?_
    iterate 2 refine Stp ?_
    refine Vq (a':=[(11,_),(3,_)]) (k+1) (.cons (k:=11) rfl (.cons (k:=3) rfl (.cons (k:=10) rfl (.cons (k:=9) rfl (.cons (k:=2) rfl (.cons (k:=0) rfl (.nil))))))) (fun w hw=>by first|exact hw|exact hw.c) ?_ ?_
    ·exact ⟨by rw [flat_next hi2 hr,List.length_append];rfl,by omega⟩
    ·omega
  ·iterate 8 refine Stp ?_
   refine WE rfl rfl F.ok146 rfl (GrowP_nil M _ (by have h9:k=rs.length:=jC;rw [h9,List.take_length];exact hb)) jA (fun _ _ _ hm hw=>(hw.lower jV).c) (ZT rfl) ?_
   rintro v6 M1 hs6 hm1 ⟨hM1,ho6⟩;subst M1
   iterate 7 refine Stp ?_
   refine YA F.elem142 ?_
   iterate 4 refine Stp ?_
   refine Y_pk [27,6,26,25,2] ?_;refine Wt (Hin:=hs6) (.succ (.succ .zero)) jA (fun (k:Nat) M1 h1 z=>∃ v,M1=M∧z=[(27,.int .i64 (k:Int)),(6,v)]∧k≤rs.length∧OSl 38 21 v h1 (((rs.take k).map Sl.l).flatten.map Zs.segs)) (fun k=>rs.length-k) (0) (⟨_,rfl,rfl,by omega,ho6⟩) ?_
   rintro k M1 h1 z hm1 ⟨v0,hM1,rfl,hk,ho⟩
   subst hM1
   obtain ⟨ad0,cp0,rfl⟩:=ho.valL
   have hml:(((rs.take k).map Sl.l).flatten.map Zs.segs).length=((rs.take k).map Sl.l).flatten.length:=List.length_map ..
   have hrd2:RdS M1 (h1++(Hin++H)) ad (rs.map (fun s=>[.one s.val])) 1:=hrd.cnt (by intro zz;simp only [WI];omega)
   iterate 6 refine Stp ?_
   refine ZW rfl (cT fun hc3=>?_) (cF fun hc3=>?_)
   ·iterate 5 refine Stp ?_
    have hi2:k<rs.length:=by omega
    obtain ⟨⟨r_a,r_c,r_l⟩,hr⟩:∃ s,rs[k]=s:=⟨_,rfl⟩
    have k_r:SlK M1 Zs.segs 21 ⟨r_a,r_c,r_l⟩:=hr ▸ hks rs[k] (List.getElem_mem hi2)
    have hfl:=flat_len hi2 hr
    have n_r:(r_l.map Zs.segs).length=r_l.length:=List.length_map ..
    refine Stp ?_;refine Ys rfl rfl rfl rfl F.elem142 jR jC yT rfl ?_;refine X_load_rd rfl rfl rfl jE yC F.lay39 rfl rfl rfl ?_
    rw [hr]
    iterate 6 refine Stp ?_
    refine X_appendK (m:=1000000) rfl rfl rfl rfl rfl F.elem39 F.zero38 zL rfl jE jA (k_r.h1) Zs.flat jC jJ rfl ?_;intro v6 hs5 ho4;obtain ⟨adv6,cpv6,rfl⟩:=ho4.val
    iterate 5 refine Stp ?_
    refine YO rfl rfl rfl rfl rfl yA rfl ?_
    iterate 2 refine Stp ?_
    refine Xa (a':=[(27,_),(6,_)]) (k+1) (hs5) (.cons (k:=27) rfl (.cons (k:=6) rfl (.cons (k:=26) rfl (.cons (k:=25) rfl (.cons (k:=2) rfl (.nil)))))) jP (fun w hw=>by first|exact hw|exact hw.c) ?_ ?_
    ·refine ⟨_,rfl,rfl,by omega,?_⟩
     rw [flat_next hi2 hr,List.map_append]
     exact ho4
    ·omega
   ·iterate 12 refine Stp ?_
    refine ZV (.inr rfl) (.tmp rfl .nil) (fun w hw=>?_)
    obtain rfl:k=rs.length:=by omega
    rw [List.take_length] at ho ⊢
    exact ⟨_,M1,h1++Hin,rfl,Mem.le.refl _,hw.c,rfl,h1,rfl,ho⟩
theorem F.ok88:okFn Tryz.prog 88=true:=by kernel_rfl
theorem F.ok90:okFn Tryz.prog 90=true:=by kernel_rfl
theorem Settled_ok (M:Mem) (l:(Sl Zs)) (r:Int) (hl0:SlK M Zs.segs 21 l):Esp.Fn Tryz.prog 49 [Sl.val l,.int .i64 r] M (fun M' v=>TbsE M' v (settledT l.l r)):=by
  obtain ⟨l_a,l_c,l_l⟩:=l
  have k_l:SlK M Zs.segs 21 ⟨l_a,l_c,l_l⟩:=hl0
  have s_l:SlM M l_a (l_l.map Zs.segs) 21:=k_l.h1
  have n_l:(l_l.map Zs.segs).length=l_l.length:=List.length_map ..
  have m_l:l_l.length≤9223372036854775807:=k_l.h2
  have c_l:l_l.length≤l_c:=k_l.h3
  refine WF Tryz.func49 rfl Tryz.ntmps49 rfl ?_;intro H
  iterate 10 refine Stp ?_
  refine X_fs rfl rfl F.ok55 rfl (K.Circ_ok _ ⟨_,_,_⟩ jE) rfl ?_
  rintro _ rfl
  iterate 2 refine Stp ?_
  refine Yt 19 rfl (eT fun hc1=>?_) (eF fun hc1=>?_)
  ·simp only [Zs.eta,ZO.eta,ZJ.eta,ZF.eta,Ym.eta,Yv.eta,Yy.eta,Yq.eta,ZN.eta,YF.eta,ZU.eta] at hc1
   iterate 18 refine Stp ?_
   refine ZV (.inr rfl) (.tmp rfl (.tmp rfl .nil)) (fun w hw=>?_)
   refine ⟨_,M,rfl,Mem.le.refl M,hw.c,?_⟩
   rw [show settledT l_l r=([],1) from settledT_no yH]
   exact ⟨_,rfl,⟨none,0,[]⟩,rfl,rfl,SlK.nil,fun t ht=>by cases ht⟩
  ·simp only [Zs.eta,ZO.eta,ZJ.eta,ZF.eta,Ym.eta,Yv.eta,Yy.eta,Yq.eta,ZN.eta,YF.eta,ZU.eta] at hc1
   iterate 4 refine Stp ?_
   refine Yt 23 rfl (cT fun hc2=>?_) (cF fun hc2=>?_)
   ·iterate 14 refine Stp ?_
    refine ZV (.inr rfl) (.tmp rfl (.tmp rfl .nil)) (fun w hw=>?_)
    refine ⟨_,M,rfl,Mem.le.refl M,hw.c,?_⟩
    rw [show settledT l_l r=([],1) from settledT_no yH]
    exact ⟨_,rfl,⟨none,0,[]⟩,rfl,rfl,SlK.nil,fun t ht=>by cases ht⟩
   ·iterate 5 refine Stp ?_
    refine ZW rfl (cT fun hc3=>?_) (cF fun hc3=>?_)
    ·iterate 8 refine Stp ?_
     refine ZV (.inr rfl) (.tmp rfl (.tmp rfl .nil)) (fun w hw=>?_)
     refine ⟨_,M,rfl,Mem.le.refl M,hw.c,?_⟩
     rw [show settledT l_l r=([],1) from settledT_no yH]
     exact ⟨_,rfl,⟨none,0,[]⟩,rfl,rfl,SlK.nil,fun t ht=>by cases ht⟩
    ·iterate 3 refine Stp ?_
     obtain ⟨rn,rfl⟩:∃ n:Nat,r=n:=⟨r.toNat,by omega⟩
     have hc:Wy l_l:=by assumption
     have hc1:=hc.1
     iterate 8 refine Stp ?_
     refine YA F.elem39 ?_
     iterate 4 refine Stp ?_
     refine Y_pk [29,6,28,27,5,4,0,1] ?_;refine Wt (Hin:=[]) (.succ (.succ .zero)) jA (fun (i:Nat) M1 h1 z=>∃ (acc:List ZO) (v:Value),z=[(29,.int .i64 (i:Int)),(6,v)]∧i≤l_l.length∧OSl 41 44 v h1 (acc.map ZO.segs)∧(∀ t∈acc,ZO.ok M1 t)∧acc.map ZO.tb=(setL l_l rn).take i) (fun i=>l_l.length-i) (0) (⟨[],_,rfl,by omega,OSl.nil,by simp,rfl⟩) ?_
     rintro i M1 h1 z hm1 ⟨acc,v0,rfl,hi,ho,hok,hI⟩
     obtain ⟨ad0,cp0,rfl⟩:=ho.valL
     have hml:(acc.map ZO.segs).length=acc.length:=List.length_map ..
     have hal:acc.length=i:=by have h9:=congrArg List.length hI;simp only [List.length_map,List.length_take,setL_len] at h9;omega
     have s_l1:=s_l.mono hm1
     have k_l1:=k_l.mono hm1
     iterate 6 refine Stp ?_
     refine ZW rfl (cT fun hc4=>?_) (cF fun hc4=>?_)
     ·iterate 5 refine Stp ?_
      have hi2:i<l_l.length:=by omega
      iterate 2 refine Stp ?_
      refine Ys rfl rfl rfl rfl F.elem39 jR jC yB rfl ?_;refine Xm rfl rfl rfl jE yC F.lay38 rfl rfl rfl ?_
      refine Yz F.zero38 ?_;intro b5
      refine VO ?_;refine Ya F.lay38 ?_
      iterate 4 refine Stp ?_
      refine Zy F.lay38 ?_;refine WE rfl rfl F.ok87 rfl (NewF_ok _ l_l[i] (hc.2.1 _ (List.getElem_mem hi2))) jA (fun _ _ _ hm hw=>(hw.lower jV).c) (ZT rfl) ?_
      rintro _ M9 hsF hm9 ⟨hM9,v2,rfl,hoF⟩;subst M9
      obtain ⟨adF,cpF,rfl⟩:=hoF.val
      iterate 3 refine Stp ?_
      refine Yz F.zero41 ?_;intro b6
      refine Ya F.lay41 ?_
      iterate 4 refine Stp ?_
      refine Yg (l:=[0,1,2,3,4,5,6,7,8,9]) #[0,0,2,7,0,0,48,127,255,511] _ rfl jI jI St.drawn (fun _ h=>h) ?_
      iterate 2 refine Stp ?_
      refine YO rfl rfl rfl rfl rfl yA rfl ?_;refine WK rfl rfl rfl (.some (k:=(i+1)) rfl rfl) .none .none F.elem39 zJ jK jK jU (pieceV_drop (l:=l_l) (k:=(i+1))) rfl ?_
      iterate 2 refine Stp ?_
      refine WK rfl rfl rfl .none (.some (k:=i) rfl rfl) .none F.elem39 zJ jK jK jU (pieceV_take (l:=l_l) (k:=i) jC) rfl ?_
      refine YS rfl rfl F.elem142 F.zero39 rfl rfl (.cons rfl jG (.cons rfl jG .nil)) rfl rfl jL rfl ?_;intro b7 hob8
      refine WE rfl rfl F.ok88 rfl (Concat_ok M1 _ _ _ ([⟨shiftA l_a l_c (i+1) 21,l_c-(i+1),l_l.drop (i+1)⟩,⟨l_a,l_c,l_l.take i⟩]:List (Sl Zs)) (hob8.rd M1) (by intro s9 hs9;simp only [List.mem_cons,List.not_mem_nil,or_false] at hs9;rcases hs9 with rfl|rfl;exact k_l1.drop (i+1) jC;exact k_l1.take i jC) jU jY) jA (fun _ _ _ hm hw=>(hw.lower jV).c) (ZT rfl) ?_
      rintro vR M9 _ hm9 ⟨hM9,hsR,rfl,hoR⟩;subst M9
      obtain ⟨R_l,hR⟩:∃ x,roundL l_l i=x:=⟨_,rfl⟩
      replace hoR:OSl 38 21 vR hsR (R_l.map Zs.segs):=by rw [← hR];unfold roundL;simpa using hoR
      obtain ⟨R_a,R_c,rfl⟩:=hoR.valL
      simp only [List.append_assoc]
      iterate 5 refine Stp ?_
      have hRl:R_l.length=l_l.length-1:=by rw [← hR];exact roundL_len hi2
      refine Sp hoR jA (fun M2 hm2 k_R=>?_)
      have s_R:=k_R.h1
      have c_R:R_l.length≤R_c:=k_R.h3
      have n_R:(R_l.map Zs.segs).length=R_l.length:=List.length_map ..
      iterate 2 refine Stp ?_
      refine YA F.elem39 ?_
      iterate 3 refine Stp ?_
      refine ZW rfl (cT fun hc9=>?_) (cF fun hc9=>?_)
      ·iterate 4 refine Stp ?_
       refine YA F.elem39 ?_;refine YO rfl rfl rfl rfl rfl yA rfl ?_
       rw [show (((R_l.length:Nat):Int)-1)=((R_l.length-1:Nat):Int) by omega]
       refine Ys rfl rfl rfl rfl F.elem39 jR jC yB rfl ?_;refine Xm rfl rfl rfl jE (by exact Xv jN) F.lay38 rfl rfl rfl ?_;refine Zi F.foff41_1 ?_;refine Ya F.lay38 ?_
       iterate 6 refine Stp ?_
       refine YA F.elem39 ?_;refine X_min rfl rfl rfl rfl rfl rfl ?_
       obtain ⟨m9,hmn⟩:∃ m,m=min rn R_l.length:=⟨_,rfl⟩
       rw [show (if ((R_l.length:Nat):Int)<(rn:Int) then ((R_l.length:Nat):Int) else (rn:Int))=(m9:Int) by split <;> omega]
       refine WK rfl rfl rfl .none (.some (k:=m9) rfl rfl) .none F.elem39 zJ jK jK jU (pieceV_take (l:=R_l) (k:=m9) jC) rfl ?_;refine WE rfl rfl F.ok89 rfl (CloneP_ok M2 _ _ (R_l.take m9) (k_R.take m9 jC) (by rw [List.length_take];omega)) jA (fun _ _ _ hm hw=>(hw.lower jV).c) (ZT rfl) ?_
       rintro vS M9 hsS hm9 ⟨hM9,hoS⟩;subst M9
       obtain ⟨adS,cpS,rfl⟩:=hoS.valL
       refine Zi F.foff41_2 ?_;refine Ya F.lay39 ?_
       iterate 3 refine Stp ?_
       refine Sp hoS jA (fun M3 hm3 k_S=>?_)
       iterate 3 refine Stp ?_
       refine X_fn rfl rfl F.ok90 rfl (Fingers_ok M3 ⟨l_a,l_c,l_l⟩ (i:Int) (k_l.mono (hm1.trans (hm2.trans hm3)))) rfl ?_
       rintro _ M4 hm4 hF9
       replace hF9:IntsE M4 _ (fingersR l_l ((i:Nat):Int)):=hF9
       rw [fingersR_yes hc hi2] at hF9
       obtain ⟨⟨G_a,G_c,G_l⟩,rfl,hG,k_G⟩:=hF9
       simp only at hG
       have s_G:=k_G.h1
       simp only at s_G
       have hGl:G_l.length=160:=by rw [hG];simp
       have n_G:(G_l.map (oneI .i64)).length=G_l.length:=List.length_map ..
       have s_l4:=s_l.mono ((hm1.trans (hm2.trans hm3)).trans hm4)
       iterate 11 refine Stp ?_
       refine YA F.elem32 ?_
       iterate 4 refine Stp ?_
       refine Y_pk [74,73,72,12,71,70,66,69,68,67,65,64,63,62,61,60,59,58,57,56,55,54,53,52,51,50,49,48,11,47,46,45,44,43,42,41,40,39,9,38,37,34,36,35,7,8,33,32,31,30,29,6,28,27,5,4,0,1] ?_;refine C_loopO2 (Hin:=[(b6,rowO [.one (.int .i64 l_l[i].addr),Yb l_l[i].id,.one (.int .i64 R_l[R_l.length-1].addr),Yb R_l[R_l.length-1].id,.one (.slice adS (R_l.take m9).length cpS),.one (.slice adF 160 cpF)] 41)]) (Hin2:=hsF) (.succ .zero) jA jA (fun (k:Nat) M5 h5 z=>∃ hs,M5=M4∧z=[(74,.int .i64 (k:Int))]∧k≤160∧h5=(b6,rowO [.one (.int .i64 l_l[i].addr),Yb l_l[i].id,.one (.int .i64 R_l[R_l.length-1].addr),Yb R_l[R_l.length-1].id,.one (.slice adS (R_l.take m9).length cpS),.one (.slice adF 160 cpF)] 41)::hs∧OSl 38 21 (.slice adF 160 cpF) hs ((TG (setF l_l i l_l[i]) YD k).map Zs.segs)) (fun k=>160-k) (0) (⟨hsF,rfl,rfl,by omega,rfl,by rw [fillP_zero,List.map_replicate];exact hoF⟩) ?_
       rintro k M5 h5 z hm5 ⟨hs5,hM5,rfl,hk,rfl,ho5⟩
       subst hM5
       have hnw:((TG (setF l_l i l_l[i]) YD k).map Zs.segs).length=160:=by rw [List.length_map,fillP_len]
       simp only [List.cons_append,List.nil_append]
       iterate 6 refine Stp ?_
       refine ZW rfl (cT fun hc10=>?_) (cF fun hc10=>?_)
       ·iterate 7 refine Stp ?_
        refine Ys rfl rfl rfl rfl F.elem32 jR jC yB rfl ?_;refine Xm rfl rfl rfl jE yC F.lay3 rfl rfl rfl ?_
        have hGk:G_l[k]=((ownerI l_l (l_l[i].id+powP k):Nat):Int):=by simp only [hG,List.getElem_map,List.getElem_range];rfl
        have ho9:=ownerI_lt (l:=l_l) (x:=l_l[i].id+powP k) jC
        generalize hog:ownerI l_l (l_l[i].id+powP k)=o9 at hGk ho9
        simp only [List.get_eq_getElem,hGk]
        iterate 11 refine Stp ?_
        refine ZW rfl (eT fun hc11=>?_) (eF fun hc11=>?_)
        ·refine Yg (l:=[0,1,2,3,4,5,6,7,8]) #[0,1,0,0,0,24,56,127,255] _ rfl jI jI St.drawn (fun _ h=>h) ?_
         refine Zi F.foff41_3 ?_;refine Zy F.lay39 ?_
         iterate 3 refine Stp ?_
         refine Ys rfl rfl rfl rfl F.elem39 jR jC yB rfl ?_;refine Xm rfl rfl rfl jE yC F.lay38 rfl rfl rfl ?_
         obtain ⟨bF,rfl⟩:=ho5.someB jC
         refine Ys rfl rfl rfl rfl F.elem39 jR jC zA rfl ?_
         refine UJ (b:=bF) (j:=k) rfl rfl rfl rfl jG (Xw rfl (Wb Xx)) F.lay38 rfl rfl ho5 jA jC ?_;intro hs7 ho7
         replace ho7:OSl 38 21 (.slice (some ⟨bF,0,none⟩) 160 cpF) hs7 ((TG (setF l_l i l_l[i]) YD (k+1)).map Zs.segs):=by rw [← fillP_set (setF l_l i l_l[i]) YD (show k<160 by omega) (v:=l_l[o9]) (by unfold setF;rw [hog,if_neg jC,List.getElem?_eq_getElem ho9];rfl),List.map_set];exact ho7.aZ (by simp [hnw])
         iterate 4 refine Stp ?_
         refine YO rfl rfl rfl rfl rfl yA rfl ?_
         iterate 2 refine Stp ?_
         refine Xa (a':=[(74,_)]) (k+1) ((b6,rowO [.one (.int .i64 l_l[i].addr),Yb l_l[i].id,.one (.int .i64 R_l[R_l.length-1].addr),Yb R_l[R_l.length-1].id,.one (.slice adS (R_l.take m9).length cpS),.one (.slice (some ⟨bF,0,none⟩) 160 cpF)] 41)::hs7) (.cons (k:=74) rfl (.cons (k:=73) rfl (.cons (k:=72) rfl (.cons (k:=12) rfl (.cons (k:=71) rfl (.cons (k:=70) rfl (.cons (k:=66) rfl (.cons (k:=69) rfl (.cons (k:=68) rfl (.cons (k:=67) rfl (.cons (k:=65) rfl (.cons (k:=64) rfl (.cons (k:=63) rfl (.cons (k:=62) rfl (.cons (k:=61) rfl (.cons (k:=60) rfl (.cons (k:=59) rfl (.cons (k:=58) rfl (.cons (k:=57) rfl (.cons (k:=56) rfl (.cons (k:=55) rfl (.cons (k:=54) rfl (.cons (k:=53) rfl (.cons (k:=52) rfl (.cons (k:=51) rfl (.cons (k:=50) rfl (.cons (k:=49) rfl (.cons (k:=48) rfl (.cons (k:=11) rfl (.cons (k:=47) rfl (.cons (k:=46) rfl (.cons (k:=45) rfl (.cons (k:=44) rfl (.cons (k:=43) rfl (.cons (k:=42) rfl (.cons (k:=41) rfl (.cons (k:=40) rfl (.cons (k:=39) rfl (.cons (k:=9) rfl (.cons (k:=38) rfl (.cons (k:=37) rfl (.cons (k:=34) rfl (.cons (k:=36) rfl (.cons (k:=35) rfl (.cons (k:=7) rfl (.cons (k:=8) rfl (.cons (k:=33) rfl (.cons (k:=32) rfl (.cons (k:=31) rfl (.cons (k:=30) rfl (.cons (k:=29) rfl (.cons (k:=6) rfl (.cons (k:=28) rfl (.cons (k:=27) rfl (.cons (k:=5) rfl (.cons (k:=4) rfl (.cons (k:=0) rfl (.cons (k:=1) rfl (.nil))))))))))))))))))))))))))))))))))))))))))))))))))))))))))) jP (fun w hw=>by first|exact hw|exact hw.c) ?_ ?_
         ·exact ⟨hs7,rfl,rfl,by omega,rfl,ho7⟩
         ·omega
        ·iterate 4 refine Stp ?_
         refine YO rfl rfl rfl rfl rfl yA rfl ?_
         iterate 2 refine Stp ?_
         refine Xa (a':=[(74,_)]) (k+1) ((b6,rowO [.one (.int .i64 l_l[i].addr),Yb l_l[i].id,.one (.int .i64 R_l[R_l.length-1].addr),Yb R_l[R_l.length-1].id,.one (.slice adS (R_l.take m9).length cpS),.one (.slice adF 160 cpF)] 41)::hs5) (.cons (k:=74) rfl (.cons (k:=73) rfl (.cons (k:=72) rfl (.cons (k:=12) rfl (.cons (k:=71) rfl (.cons (k:=70) rfl (.cons (k:=66) rfl (.cons (k:=69) rfl (.cons (k:=68) rfl (.cons (k:=67) rfl (.cons (k:=65) rfl (.cons (k:=64) rfl (.cons (k:=63) rfl (.cons (k:=62) rfl (.cons (k:=61) rfl (.cons (k:=60) rfl (.cons (k:=59) rfl (.cons (k:=58) rfl (.cons (k:=57) rfl (.cons (k:=56) rfl (.cons (k:=55) rfl (.cons (k:=54) rfl (.cons (k:=53) rfl (.cons (k:=52) rfl (.cons (k:=51) rfl (.cons (k:=50) rfl (.cons (k:=49) rfl (.cons (k:=48) rfl (.cons (k:=11) rfl (.cons (k:=47) rfl (.cons (k:=46) rfl (.cons (k:=45) rfl (.cons (k:=44) rfl (.cons (k:=43) rfl (.cons (k:=42) rfl (.cons (k:=41) rfl (.cons (k:=40) rfl (.cons (k:=39) rfl (.cons (k:=9) rfl (.cons (k:=38) rfl (.cons (k:=37) rfl (.cons (k:=34) rfl (.cons (k:=36) rfl (.cons (k:=35) rfl (.cons (k:=7) rfl (.cons (k:=8) rfl (.cons (k:=33) rfl (.cons (k:=32) rfl (.cons (k:=31) rfl (.cons (k:=30) rfl (.cons (k:=29) rfl (.cons (k:=6) rfl (.cons (k:=28) rfl (.cons (k:=27) rfl (.cons (k:=5) rfl (.cons (k:=4) rfl (.cons (k:=0) rfl (.cons (k:=1) rfl (.nil))))))))))))))))))))))))))))))))))))))))))))))))))))))))))) jP (fun w hw=>by first|exact hw|exact hw.c) ?_ ?_
         ·refine ⟨hs5,rfl,rfl,by omega,rfl,?_⟩
          rw [← fillP_stay _ _ (show YD=setF l_l i l_l[i] k from (if_pos jC).symm)];exact ho5
         ·omega
       ·iterate 5 refine Stp ?_
        obtain rfl:k=160:=by omega
        rw [fillP_all] at ho5
        refine Sp (l:=(List.range 160).map (setF l_l i l_l[i])) ho5 jA (fun M6 hm6 k_F=>?_)
        iterate 2 refine Stp ?_
        refine Zy F.lay41 ?_
        refine YS rfl rfl F.elem66 F.zero41 rfl rfl (.cons rfl jG .nil) rfl rfl jL rfl ?_;intro b12 hob13
        refine WT (m:=1000000) rfl rfl rfl rfl rfl F.elem66 F.zero41 zL rfl jE jA (Src.own hob13.lens jO rfl jB) jN jJ rfl ?_;intro v16 hs15 ho14;obtain ⟨adv16,cpv16,rfl⟩:=ho14.valAt (n:=acc.length+1) zK
        iterate 5 refine Stp ?_
        refine YO rfl rfl rfl rfl rfl yA rfl ?_
        iterate 2 refine Stp ?_
        refine Xa (a':=[(29,_),(6,_)]) (i+1) (hs15) (.cons (k:=29) rfl (.cons (k:=6) rfl (.cons (k:=28) rfl (.cons (k:=27) rfl (.cons (k:=5) rfl (.cons (k:=4) rfl (.cons (k:=0) rfl (.cons (k:=1) rfl (.nil))))))))) (hm1.trans (hm2.trans (hm3.trans (hm4.trans hm6)))) (fun w hw=>by first|exact hw|exact hw.c) ?_ ?_
        ·refine ⟨acc++[⟨⟨l_l[i].addr,l_l[i].id⟩,⟨R_l[R_l.length-1].addr,R_l[R_l.length-1].id⟩,⟨adS,cpS,R_l.take m9⟩,⟨adF,cpF,(List.range 160).map (setF l_l i l_l[i])⟩⟩],_,rfl,by omega,by rw [List.map_append];exact ho14,fun t ht=>?_,?_⟩
         ·rcases List.mem_append.1 ht with ht|ht
          ·exact (hok t ht).mono (hm2.trans (hm3.trans (hm4.trans hm6)))
          ·rw [List.mem_singleton.1 ht];exact ⟨k_S.mono (hm4.trans hm6),k_F⟩
         ·rw [List.map_append,hI,setL_take hi2]
          refine congrArg (fun t=>(setL l_l rn).take i++[t]) ?_
          unfold setT
          rw [hR]
          rw [lastD_at jC,show R_l.take rn=R_l.take m9 by rw [hmn,List.take_eq_take_iff];omega];rfl
        ·omega
      ·iterate 6 refine Stp ?_
       refine X_fn rfl rfl F.ok90 rfl (Fingers_ok M2 ⟨l_a,l_c,l_l⟩ (i:Int) (k_l.mono (hm1.trans hm2))) rfl ?_
       rintro _ M4 hm4 hF9
       replace hF9:IntsE M4 _ (fingersR l_l ((i:Nat):Int)):=hF9
       rw [fingersR_yes hc hi2] at hF9
       obtain ⟨⟨G_a,G_c,G_l⟩,rfl,hG,k_G⟩:=hF9
       simp only at hG
       have s_G:=k_G.h1
       simp only at s_G
       have hGl:G_l.length=160:=by rw [hG];simp
       have n_G:(G_l.map (oneI .i64)).length=G_l.length:=List.length_map ..
       have s_l4:=s_l.mono ((hm1.trans hm2).trans hm4)
       iterate 11 refine Stp ?_
       refine YA F.elem32 ?_
       iterate 4 refine Stp ?_
       refine Y_pk [74,73,72,12,71,70,66,69,68,67,50,49,48,11,47,46,45,44,43,42,41,40,39,9,38,37,34,36,35,7,8,33,32,31,30,29,6,28,27,5,4,0,1] ?_;refine C_loopO2 (Hin:=[(b6,rowO [.one (.int .i64 l_l[i].addr),Yb l_l[i].id,.one (.int .i64 (-1)),Yb 0,.one (.slice none 0 0),.one (.slice adF 160 cpF)] 41)]) (Hin2:=hsF) (.succ .zero) jA jA (fun (k:Nat) M5 h5 z=>∃ hs,M5=M4∧z=[(74,.int .i64 (k:Int))]∧k≤160∧h5=(b6,rowO [.one (.int .i64 l_l[i].addr),Yb l_l[i].id,.one (.int .i64 (-1)),Yb 0,.one (.slice none 0 0),.one (.slice adF 160 cpF)] 41)::hs∧OSl 38 21 (.slice adF 160 cpF) hs ((TG (setF l_l i l_l[i]) YD k).map Zs.segs)) (fun k=>160-k) (0) (⟨hsF,rfl,rfl,by omega,rfl,by rw [fillP_zero,List.map_replicate];exact hoF⟩) ?_
       rintro k M5 h5 z hm5 ⟨hs5,hM5,rfl,hk,rfl,ho5⟩
       subst hM5
       have hnw:((TG (setF l_l i l_l[i]) YD k).map Zs.segs).length=160:=by rw [List.length_map,fillP_len]
       simp only [List.cons_append,List.nil_append]
       iterate 6 refine Stp ?_
       refine ZW rfl (cT fun hc17=>?_) (cF fun hc17=>?_)
       ·iterate 7 refine Stp ?_
        refine Ys rfl rfl rfl rfl F.elem32 jR jC yB rfl ?_;refine Xm rfl rfl rfl jE yC F.lay3 rfl rfl rfl ?_
        have hGk:G_l[k]=((ownerI l_l (l_l[i].id+powP k):Nat):Int):=by simp only [hG,List.getElem_map,List.getElem_range];rfl
        have ho9:=ownerI_lt (l:=l_l) (x:=l_l[i].id+powP k) jC
        generalize hog:ownerI l_l (l_l[i].id+powP k)=o9 at hGk ho9
        simp only [List.get_eq_getElem,hGk]
        iterate 11 refine Stp ?_
        refine ZW rfl (eT fun hc18=>?_) (eF fun hc18=>?_)
        ·(exfalso;omega)
        ·iterate 4 refine Stp ?_
         refine YO rfl rfl rfl rfl rfl yA rfl ?_
         iterate 2 refine Stp ?_
         refine Xa (a':=[(74,_)]) (k+1) ((b6,rowO [.one (.int .i64 l_l[i].addr),Yb l_l[i].id,.one (.int .i64 (-1)),Yb 0,.one (.slice none 0 0),.one (.slice adF 160 cpF)] 41)::hs5) (.cons (k:=74) rfl (.cons (k:=73) rfl (.cons (k:=72) rfl (.cons (k:=12) rfl (.cons (k:=71) rfl (.cons (k:=70) rfl (.cons (k:=66) rfl (.cons (k:=69) rfl (.cons (k:=68) rfl (.cons (k:=67) rfl (.cons (k:=50) rfl (.cons (k:=49) rfl (.cons (k:=48) rfl (.cons (k:=11) rfl (.cons (k:=47) rfl (.cons (k:=46) rfl (.cons (k:=45) rfl (.cons (k:=44) rfl (.cons (k:=43) rfl (.cons (k:=42) rfl (.cons (k:=41) rfl (.cons (k:=40) rfl (.cons (k:=39) rfl (.cons (k:=9) rfl (.cons (k:=38) rfl (.cons (k:=37) rfl (.cons (k:=34) rfl (.cons (k:=36) rfl (.cons (k:=35) rfl (.cons (k:=7) rfl (.cons (k:=8) rfl (.cons (k:=33) rfl (.cons (k:=32) rfl (.cons (k:=31) rfl (.cons (k:=30) rfl (.cons (k:=29) rfl (.cons (k:=6) rfl (.cons (k:=28) rfl (.cons (k:=27) rfl (.cons (k:=5) rfl (.cons (k:=4) rfl (.cons (k:=0) rfl (.cons (k:=1) rfl (.nil)))))))))))))))))))))))))))))))))))))))))))) jP (fun w hw=>by first|exact hw|exact hw.c) ?_ ?_
         ·refine ⟨hs5,rfl,rfl,by omega,rfl,?_⟩
          rw [← fillP_stay _ _ (show YD=setF l_l i l_l[i] k from (if_pos jC).symm)];exact ho5
         ·omega
       ·iterate 5 refine Stp ?_
        obtain rfl:k=160:=by omega
        rw [fillP_all] at ho5
        refine Sp (l:=(List.range 160).map (setF l_l i l_l[i])) ho5 jA (fun M6 hm6 k_F=>?_)
        iterate 2 refine Stp ?_
        refine Zy F.lay41 ?_
        refine YS rfl rfl F.elem66 F.zero41 rfl rfl (.cons rfl jG .nil) rfl rfl jL rfl ?_;intro b19 hob20
        refine WT (m:=1000000) rfl rfl rfl rfl rfl F.elem66 F.zero41 zL rfl jE jA (Src.own hob20.lens jO rfl jB) jN jJ rfl ?_;intro v23 hs22 ho21;obtain ⟨adv23,cpv23,rfl⟩:=ho21.valAt (n:=acc.length+1) zK
        iterate 5 refine Stp ?_
        refine YO rfl rfl rfl rfl rfl yA rfl ?_
        iterate 2 refine Stp ?_
        refine Xa (a':=[(29,_),(6,_)]) (i+1) (hs22) (.cons (k:=29) rfl (.cons (k:=6) rfl (.cons (k:=28) rfl (.cons (k:=27) rfl (.cons (k:=5) rfl (.cons (k:=4) rfl (.cons (k:=0) rfl (.cons (k:=1) rfl (.nil))))))))) (hm1.trans (hm2.trans (hm4.trans hm6))) (fun w hw=>by first|exact hw|exact hw.c) ?_ ?_
        ·refine ⟨acc++[⟨⟨l_l[i].addr,l_l[i].id⟩,YD,⟨none,0,[]⟩,⟨adF,cpF,(List.range 160).map (setF l_l i l_l[i])⟩⟩],_,rfl,by omega,by rw [List.map_append];exact ho21,fun t ht=>?_,?_⟩
         ·rcases List.mem_append.1 ht with ht|ht
          ·exact (hok t ht).mono (hm2.trans (hm4.trans hm6))
          ·rw [List.mem_singleton.1 ht];exact ⟨SlK.nil,k_F⟩
         ·rw [List.map_append,hI,setL_take hi2]
          refine congrArg (fun t=>(setL l_l rn).take i++[t]) ?_
          unfold setT
          rw [hR]
          rw [show R_l=[] from List.eq_nil_of_length_eq_zero jC,List.take_nil];rfl
        ·omega
     ·iterate 13 refine Stp ?_
      refine ZV (.inr rfl) (.tmp rfl (.tmp rfl .nil)) (fun w hw=>?_)
      obtain rfl:i=l_l.length:=by omega
      rw [List.take_of_length_le (by rw [setL_len];omega)] at hI
      obtain ⟨M9,s1,g1,g2,g3,g4,g5⟩:=OSl.freezeK (f:=ZO.segs) (H:=H) (l:=acc) ho (hw.c)
      refine ⟨_,M9,rfl,hm1.trans g1,g2,?_⟩
      rw [show settledT l_l ((rn:Nat):Int)=_ from settledT_yes hc jC jC]
      exact ⟨_,rfl,s1,g3,by rw [g4];exact hI,g5,by rw [g4];exact fun t ht=>(hok t ht).mono g1⟩
end Go.Proofs.YtglnjnacodgmaaaGreatDoor
namespace Go.Proofs.YtglnjnacodgmaaaGreatDoor.K
open Go.Esp
theorem Ints_ok (M:Mem) (a:(Sl Int)) (b:(Sl Int)) (ha0:SlK M (oneI .i64) 1 a) (hb1:SlK M (oneI .i64) 1 b):Fs Tryz.prog 17 [Sl.val a,Sl.val b] M (fun v=>v=Value.bool (decide (a.l=b.l))):=by
  obtain ⟨a_a,a_c,a_l⟩:=a
  obtain ⟨b_a,b_c,b_l⟩:=b
  have k_a:SlK M (oneI .i64) 1 ⟨a_a,a_c,a_l⟩:=ha0
  have s_a:SlM M a_a (a_l.map (oneI .i64)) 1:=k_a.h1
  have n_a:(a_l.map (oneI .i64)).length=a_l.length:=List.length_map ..
  have m_a:a_l.length≤9223372036854775807:=k_a.h2
  have c_a:a_l.length≤a_c:=k_a.h3
  have k_b:SlK M (oneI .i64) 1 ⟨b_a,b_c,b_l⟩:=hb1
  have s_b:SlM M b_a (b_l.map (oneI .i64)) 1:=k_b.h1
  have n_b:(b_l.map (oneI .i64)).length=b_l.length:=List.length_map ..
  have m_b:b_l.length≤9223372036854775807:=k_b.h2
  have c_b:b_l.length≤b_c:=k_b.h3
  refine Xe Tryz.func17 rfl Tryz.ntmps17 rfl ?_;intro H
  iterate 9 refine Stp ?_
  refine YA F.elem32 ?_;refine Yk ?_;refine YA F.elem32 ?_
  iterate 3 refine Stp ?_
  refine ZW rfl (eT fun hc1=>?_) (eF fun hc1=>?_)
  ·iterate 7 refine Stp ?_
   refine ZV (.inr rfl) (.tmp rfl .nil) (fun w hw=>?_)
   refine ⟨_,rfl,(hw.c),?_⟩
   clear hw
   refine congrArg Value.bool ?_
   exact (decide_eq_false (fun h9=>by subst h9;simp_all)).symm
  ·iterate 9 refine Stp ?_
   refine Y_pk [5,4,0,1] ?_;refine VI (.succ .zero) (fun (k:Nat) z=>z=[(5,.int .i64 (k:Int))]∧k≤a_l.length∧(∀ j (h2:j<a_l.length) (h3:j<b_l.length),j<k→a_l[j]=b_l[j])) (fun k=>a_l.length-k) (0) (⟨rfl,by omega,by (intro j h2 h3 hj;omega)⟩) ?_
   rintro k _ ⟨rfl,hk,hI⟩
   iterate 5 refine Stp ?_
   refine YA F.elem32 ?_
   iterate 3 refine Stp ?_
   refine ZW rfl (cT fun hc2=>?_) (cF fun hc2=>?_)
   ·iterate 5 refine Stp ?_
    refine Yg (l:=[0,1,2,3,4,5,6,7,8]) #[0,0,3,7,0,0,48,112,255] _ rfl jI jI St.drawn (fun _ h=>h) ?_
    iterate 2 refine Stp ?_
    refine Ys rfl rfl rfl rfl F.elem32 jR jC yB rfl ?_;refine Xm rfl rfl rfl jE yC F.lay3 rfl rfl rfl ?_
    iterate 2 refine Stp ?_
    refine Ys rfl rfl rfl rfl F.elem32 jR jC yB rfl ?_;refine Xm rfl rfl rfl jE yC F.lay3 rfl rfl rfl ?_
    iterate 3 refine Stp ?_
    refine ZW rfl (eT fun hc3=>?_) (eF fun hc3=>?_)
    ·iterate 11 refine Stp ?_
     refine ZV (.inr rfl) (.tmp rfl .nil) (fun w hw=>?_)
     refine ⟨_,rfl,(hw.c),?_⟩
     clear hw
     refine congrArg Value.bool ?_
     exact (decide_eq_false (fun h9=>by subst h9;simp_all)).symm
    ·iterate 5 refine Stp ?_
     refine YO rfl rfl rfl rfl rfl yA rfl ?_
     iterate 2 refine Stp ?_
     refine Vq (a':=[(5,_)]) (k+1) (.cons (k:=5) rfl (.cons (k:=4) rfl (.cons (k:=0) rfl (.cons (k:=1) rfl (.nil))))) (fun w hw=>by first|exact hw|exact hw.c) ?_ ?_
     ·refine ⟨rfl,by omega,?_⟩
      (intro j h2 h3 hj;rcases Nat.lt_or_ge j k with h9|h9;exact hI j h2 h3 h9;obtain rfl:j=k:=jC;simp_all)
     ·omega
   ·iterate 11 refine Stp ?_
    refine ZV (.inr rfl) (.tmp rfl .nil) (fun w hw=>?_)
    refine ⟨_,rfl,(hw.c),?_⟩
    clear hw
    refine congrArg Value.bool ?_
    exact (decide_eq_true (List.ext_getElem jC (fun j h2 h3=>hI j h2 h3 jC))).symm
end Go.Proofs.YtglnjnacodgmaaaGreatDoor.K
namespace Go.Esp
def rotl (v n:Nat):Nat:=(v <<< n ||| v >>> (32-n)) % 4294967296
def So (a b:Nat):Nat:=(a+b) % 4294967296
def word4 (a b c d:Nat):Nat:=((a * 256+b) * 256+c) * 256+d
def UL:List Nat→List Nat→List Nat
  | a::b::c::d::r,acc=>UL r (word4 a b c d::acc)
  | _,acc=>acc
def Vv:Nat→List Nat→List Nat
  | 0,w=>w
  | n+1,w=>match w with
    | _::_::x3::_::_::_::_::x8::_::_::_::_::_::x14::_::x16::_=>Vv n (rotl (x3 ^^^ x8 ^^^ x14 ^^^ x16) 1::w)
    | _=>w
structure St5 where
  a:Nat
  b:Nat
  c:Nat
  d:Nat
  e:Nat
  deriving DecidableEq
def mixN (t b c d:Nat):Nat :=
  if t<20 then (b &&& c) ||| ((4294967295 ^^^ b) &&& d) else if t<40 then b ^^^ c ^^^ d else if t<60 then (b &&& c) ||| (b &&& d) ||| (c &&& d) else b ^^^ c ^^^ d
def addN (t:Nat):Nat:=if t<20 then 0x5a827999 else if t<40 then 0x6ed9eba1 else if t<60 then 0x8f1bbcdc else 0xca62c1d6
def Td (t:Nat) (s:St5) (w:Nat):St5:=⟨(rotl s.a 5+mixN t s.b s.c s.d+s.e+addN t+w) % 4294967296,s.a,rotl s.b 30,s.c,s.d⟩
def roundsN:Nat→List Nat→St5→St5
  | _,[],s=>s
  | t,w::ws,s=>roundsN (t+1) ws (Td t s w)
def stepN (h:St5) (block:List Nat):St5 :=
  let s:=roundsN 0 (Vv 64 (UL block [])).reverse h
  ⟨So h.a s.a,So h.b s.b,So h.c s.c,So h.d s.d,So h.e s.e⟩
def start5:St5:=⟨0x67452301,0xefcdab89,0x98badcfe,0x10325476,0xc3d2e1f0⟩
def blocksN:Nat→List Nat→St5→St5
  | 0,_,h=>h
  | n+1,l,h=>match l with
    | []=>h
    | _=>blocksN n (l.drop 64) (stepN h (l.take 64))
def padN (s:List Nat):List Nat :=
  s++128::(List.replicate ((119-s.length % 64) % 64) 0++(List.range 8).map fun i=>(8 * s.length) / 256 ^ (7-i) % 256)
theorem ofInt_nat {n a:Nat}:BitVec.ofInt n (a:Int)=BitVec.ofNat n a:=by
  apply BitVec.eq_of_toInt_eq;simp
theorem u32_of {a:Nat} (h:a<4294967296):IntKind.wrap .u32 (a:Int)=(a:Int):=by
  rw [wrap_u32];unfold w32;omega
theorem or32 {a b:Nat} (ha:a<4294967296) (hb:b<4294967296):bitsK .or .u32 (a:Int) (b:Int)=some ((a ||| b:Nat):Int):=by
  have h:=Nat.or_lt_two_pow (n:=32) (x:=a) (y:=b) zU zP
  show some (IntKind.wrap .u32 ((BitVec.ofInt 32 (a:Int) ||| BitVec.ofInt 32 (b:Int)).toNat:Int))=_
  rw [ofInt_nat,ofInt_nat,BitVec.toNat_or,BitVec.toNat_ofNat,BitVec.toNat_ofNat,Nat.mod_eq_of_lt zU,Nat.mod_eq_of_lt zP,u32_of zM]
theorem and32 {a b:Nat} (ha:a<4294967296) (hb:b<4294967296):bitsK .and .u32 (a:Int) (b:Int)=some ((a &&& b:Nat):Int):=by
  have h:=Nat.and_lt_two_pow (n:=32) a (y:=b) zP
  show some (IntKind.wrap .u32 ((BitVec.ofInt 32 (a:Int) &&& BitVec.ofInt 32 (b:Int)).toNat:Int))=_
  rw [ofInt_nat,ofInt_nat,BitVec.toNat_and,BitVec.toNat_ofNat,BitVec.toNat_ofNat,Nat.mod_eq_of_lt zU,Nat.mod_eq_of_lt zP,u32_of zM]
theorem xor32 {a b:Nat} (ha:a<4294967296) (hb:b<4294967296):bitsK .xor .u32 (a:Int) (b:Int)=some ((a ^^^ b:Nat):Int):=by
  have h:=Nat.xor_lt_two_pow (n:=32) (x:=a) (y:=b) zU zP
  show some (IntKind.wrap .u32 ((BitVec.ofInt 32 (a:Int) ^^^ BitVec.ofInt 32 (b:Int)).toNat:Int))=_
  rw [ofInt_nat,ofInt_nat,BitVec.toNat_xor,BitVec.toNat_ofNat,BitVec.toNat_ofNat,Nat.mod_eq_of_lt zU,Nat.mod_eq_of_lt zP,u32_of zM]
theorem compl32 {a:Nat} (ha:a<4294967296):bitsK .xor .u32 (if IntKind.u32.signed then -1 else IntKind.u32.max) (a:Int)=some ((4294967295 ^^^ a:Nat):Int):=by
  have:(if IntKind.u32.signed then (-1:Int) else IntKind.u32.max)=((4294967295:Nat):Int):=by decide
  rw [this];exact xor32 jJ ha
theorem lt_or {a b:Nat} (ha:a<4294967296) (hb:b<4294967296):a ||| b<4294967296:=by
  have h:=Nat.or_lt_two_pow (n:=32) (x:=a) (y:=b) zU zP;simpa using h
theorem lt_and {a b:Nat} (hb:b<4294967296):a &&& b<4294967296:=by
  have h:=Nat.and_lt_two_pow (n:=32) a (y:=b) zP;simpa using h
theorem lt_xor {a b:Nat} (ha:a<4294967296) (hb:b<4294967296):a ^^^ b<4294967296:=by
  have h:=Nat.xor_lt_two_pow (n:=32) (x:=a) (y:=b) zU zP;simpa using h
theorem rotl_lt (v n:Nat):rotl v n<4294967296:=Nat.mod_lt _ (by decide)
theorem rotl_is {v n:Nat} (hv:v<4294967296) (hn:n≤32):(v * 2 ^ n % 4294967296) ||| (v / 2 ^ (32-n))=rotl v n:=by
  unfold rotl
  rw [Nat.shiftLeft_eq,Nat.shiftRight_eq_div_pow,show (4294967296:Nat)=2 ^ 32 from rfl,Nat.or_mod_two_pow]
  congr 1
  refine (Nat.mod_eq_of_lt ?_).symm
  exact Nat.lt_of_le_of_lt (Nat.div_le_self _ _) (by simpa using hv)
theorem and31 {n:Nat} (h:n<32):bitsK .and .u64 (n:Int) 31=some (n:Int):=by
  have:∀ x:Fin 32,bitsK .and .u64 ((x.val:Nat):Int) 31=some ((x.val:Nat):Int):=by decide +kernel
  exact this ⟨n,h⟩
theorem shl32 {v n:Nat} (hn:n≤32):shiftK .shl .u32 (v:Int) (n:Int)=some ((v * 2 ^ n % 4294967296:Nat):Int):=by
  simp only [shiftK,Int.toNat_natCast,IntKind.bits,Nat.min_eq_left hn,wrap_u32]
  unfold w32
  rw [show ((v:Int) * 2 ^ n)=((v * 2 ^ n:Nat):Int) by simp]
  refine congrArg some ?_
  omega
theorem shr32 {v n:Nat} (hn:n≤32):shiftK .shr .u32 (v:Int) (n:Int)=some ((v / 2 ^ n:Nat):Int):=by
  rw [VY n (by simpa [IntKind.bits] using hn)]
  simp
end Go.Esp
namespace Go.Proofs.YtglnjnacodgmaaaGreatDoor.K
open Go.Esp
theorem Rotl_ok (M:Mem) (x:Nat) (n:Nat) (hv:x<4294967296) (hn:n<32):Fs Tryz.prog 152 [.int .u32 ((x:Nat):Int),.int .i64 (n:Int)] M (fun v=>v=Value.int .u32 (((rotl x n:Nat):Int))):=by
  refine Xe Tryz.func152 rfl Tryz.ntmps152 rfl ?_;intro H
  iterate 8 refine Stp ?_
  refine Wz rfl rfl rfl Tryz.underlying3 Tryz.underlying136 yE rfl ?_;refine WR rfl rfl rfl rfl (and31 hn) rfl rfl ?_
  iterate 7 refine Stp ?_
  refine Vt rfl rfl rfl rfl jC (shl32 (n:=n) jC) rfl rfl ?_
  iterate 2 refine Stp ?_
  refine YO rfl rfl rfl rfl rfl yE rfl ?_
  rw [show (32:Int)-(n:Int)=((32-n:Nat):Int) by omega]
  refine Vt rfl rfl rfl rfl jC (shr32 (n:=32-n) jC) rfl rfl ?_;refine WR rfl rfl rfl rfl (or32 (Nat.mod_lt _ jJ) (Nat.lt_of_le_of_lt (Nat.div_le_self _ _) hv)) rfl rfl ?_
  iterate 4 refine Stp ?_
  refine ZV (.inr rfl) (.tmp rfl .nil) (fun w hw=>?_)
  refine ⟨_,rfl,(hw.c),?_⟩
  clear hw
  refine congrArg (fun x:Nat=>Value.int .u32 (x:Int)) (rotl_is hv jC)
theorem choose_ok (M:Mem) (b:Nat) (c:Nat) (d:Nat) (hb:b<4294967296) (hc:c<4294967296) (hd:d<4294967296):Fs Tryz.prog 192 [.int .u32 ((b:Nat):Int),.int .u32 ((c:Nat):Int),.int .u32 ((d:Nat):Int)] M (fun v=>v=Value.int .u32 ((((b &&& c) ||| ((4294967295 ^^^ b) &&& d):Nat):Int))):=by
  refine Xe Tryz.func192 rfl Tryz.ntmps192 rfl ?_;intro H
  iterate 9 refine Stp ?_
  refine WR rfl rfl rfl rfl (and32 hb hc) rfl rfl ?_;refine Yk ?_;refine X_compl rfl rfl rfl (compl32 hb) rfl rfl ?_;refine Yk ?_;refine WR rfl rfl rfl rfl (and32 (lt_xor jJ hb) hd) rfl rfl ?_;refine WR rfl rfl rfl rfl (or32 (lt_and hc) (lt_and hd)) rfl rfl ?_
  iterate 4 refine Stp ?_
  refine ZV (.inr rfl) (.tmp rfl .nil) (fun w hw=>?_)
  refine ⟨_,rfl,(hw.c),?_⟩
  clear hw
  rfl
theorem unlike_ok (M:Mem) (b:Nat) (c:Nat) (d:Nat) (hb:b<4294967296) (hc:c<4294967296) (hd:d<4294967296):Fs Tryz.prog 193 [.int .u32 ((b:Nat):Int),.int .u32 ((c:Nat):Int),.int .u32 ((d:Nat):Int)] M (fun v=>v=Value.int .u32 (((b ^^^ c ^^^ d:Nat):Int))):=by
  refine Xe Tryz.func193 rfl Tryz.ntmps193 rfl ?_;intro H
  iterate 9 refine Stp ?_
  refine WR rfl rfl rfl rfl (xor32 hb hc) rfl rfl ?_;refine Yk ?_;refine WR rfl rfl rfl rfl (xor32 (lt_xor hb hc) hd) rfl rfl ?_
  iterate 4 refine Stp ?_
  refine ZV (.inr rfl) (.tmp rfl .nil) (fun w hw=>?_)
  refine ⟨_,rfl,(hw.c),?_⟩
  clear hw
  rfl
theorem most_ok (M:Mem) (b:Nat) (c:Nat) (d:Nat) (hb:b<4294967296) (hc:c<4294967296) (hd:d<4294967296):Fs Tryz.prog 194 [.int .u32 ((b:Nat):Int),.int .u32 ((c:Nat):Int),.int .u32 ((d:Nat):Int)] M (fun v=>v=Value.int .u32 ((((b &&& c) ||| (b &&& d) ||| (c &&& d):Nat):Int))):=by
  refine Xe Tryz.func194 rfl Tryz.ntmps194 rfl ?_;intro H
  iterate 9 refine Stp ?_
  refine WR rfl rfl rfl rfl (and32 hb hc) rfl rfl ?_
  iterate 2 refine Stp ?_
  refine WR rfl rfl rfl rfl (and32 hb hd) rfl rfl ?_;refine WR rfl rfl rfl rfl (or32 (lt_and hc) (lt_and hd)) rfl rfl ?_
  iterate 2 refine Stp ?_
  refine WR rfl rfl rfl rfl (and32 hc hd) rfl rfl ?_;refine WR rfl rfl rfl rfl (or32 (lt_or (lt_and hc) (lt_and hd)) (lt_and hd)) rfl rfl ?_
  iterate 4 refine Stp ?_
  refine ZV (.inr rfl) (.tmp rfl .nil) (fun w hw=>?_)
  refine ⟨_,rfl,(hw.c),?_⟩
  clear hw
  rfl
end Go.Proofs.YtglnjnacodgmaaaGreatDoor.K
namespace Go.Esp
def wordsOf (B:List Nat):List Nat:=(Vv 64 (UL B [])).reverse
def US (V:List Nat) (t:Nat):List Nat:=V.take t++List.replicate (V.length-t) 0
theorem partW_len {V:List Nat} {t:Nat} (h:t≤V.length):(US V t).length=V.length:=by unfold US;simp;omega
theorem partW_get {V:List Nat} {t j:Nat} (hj:j<t) (h:t≤V.length):(US V t)[j]?=some (V[j]'(by omega)):=by
  unfold US
  rw [List.getElem?_append_left jY,List.getElem?_take_of_lt hj,List.getElem?_eq_getElem]
theorem partW_at {V:List Nat} {t:Nat} (h:t<V.length):(US V t)[t]?=some 0:=by
  unfold US
  rw [List.getElem?_append_right jY,List.getElem?_replicate,if_pos jY]
theorem partW_set {V:List Nat} {t:Nat} (h:t<V.length):(US V t).set t (V[t])=US V (t+1):=by
  apply List.ext_getElem?
  intro j
  by_cases hj:j=t
  · subst hj
    rw [List.getElem?_set_self (by rw [partW_len jC];exact h),partW_get jC jC]
  · rw [List.getElem?_set_ne jC]
    unfold US
    rcases Nat.lt_or_ge j t with h1|h1
    · rw [List.getElem?_append_left jY,List.getElem?_append_left jY,List.getElem?_take_of_lt h1,List.getElem?_take_of_lt jC]
    · rw [List.getElem?_append_right jY,List.getElem?_append_right jY]
      simp only [List.length_take,List.getElem?_replicate]
      rw [Nat.min_eq_left jC,Nat.min_eq_left jC]
      by_cases h2:j-t<V.length-t
      · rw [if_pos h2,if_pos jC]
      · rw [if_neg h2,if_neg jC]
theorem partW_set0 {V:List Nat} {t:Nat} (h:t<V.length):(US V t).set t 0=US V t:=by
  apply List.ext_getElem?
  intro j
  by_cases hj:j=t
  · subst hj
    rw [List.getElem?_set_self (by rw [partW_len jC];exact h),partW_at h]
  · rw [List.getElem?_set_ne jC]
theorem partW_zero {V:List Nat}:US V 0=List.replicate V.length 0:=by simp [US]
theorem partW_all {V:List Nat}:US V V.length=V:=by simp [US]
theorem wordsMore_step (n:Nat) (w:List Nat) (h:16≤w.length):Vv (n+1) w=Vv n (rotl (w.getD 2 0 ^^^ w.getD 7 0 ^^^ w.getD 13 0 ^^^ w.getD 15 0) 1::w):=by
  match w,h with
  | _::_::x3::_::_::_::_::x8::_::_::_::_::_::x14::_::x16::_,_=>rfl
theorem getD_rev {l:List Nat} {j:Nat} (h:j<l.length):l.reverse.getD j 0=l.getD (l.length-1-j) 0:=by
  simp only [List.getD_eq_getElem?_getD]
  rw [List.getElem?_reverse h]
theorem wordsMore_spec:∀ (n:Nat) (w:List Nat),16≤w.length→(Vv n w).length=n+w.length∧(∀ t,t<w.length→(Vv n w).reverse.getD t 0=w.reverse.getD t 0) ∧
    ∀ t,w.length≤t→t<n+w.length→(Vv n w).reverse.getD t 0=rotl ((Vv n w).reverse.getD (t-3) 0 ^^^ (Vv n w).reverse.getD (t-8) 0 ^^^ (Vv n w).reverse.getD (t-14) 0 ^^^ (Vv n w).reverse.getD (t-16) 0) 1
  | 0,w,h=>⟨by simp [Vv],fun t _=>rfl,fun t h1 h2=>by omega⟩
  | n+1,w,h=>by
    rw [wordsMore_step n w h]
    generalize hx:rotl (w.getD 2 0 ^^^ w.getD 7 0 ^^^ w.getD 13 0 ^^^ w.getD 15 0) 1=x
    obtain ⟨h1,h2,h3⟩:=wordsMore_spec n (x::w) jY
    simp only [List.length_cons] at h1 h2 h3
    have hw:∀ t,t<w.length→(Vv n (x::w)).reverse.getD t 0=w.reverse.getD t 0:=fun t ht=>by
      rw [h2 t jC]
      simp only [List.reverse_cons,List.getD_eq_getElem?_getD]
      rw [List.getElem?_append_left (by simpa using ht)]
    refine ⟨by omega,hw,fun t ht ht2=>?_⟩
    rcases Nat.lt_or_ge w.length t with h9|h9
    · exact h3 t h9 jC
    · obtain rfl:t=w.length:=by omega
      have e3:=hw (w.length-3) jC
      have e8:=hw (w.length-8) jC
      have e14:=hw (w.length-14) jC
      have e16:=hw (w.length-16) jC
      rw [getD_rev (l:=w) jC,show w.length-1-(w.length-3)=2 by omega] at e3
      rw [getD_rev (l:=w) jC,show w.length-1-(w.length-8)=7 by omega] at e8
      rw [getD_rev (l:=w) jC,show w.length-1-(w.length-14)=13 by omega] at e14
      rw [getD_rev (l:=w) jC,show w.length-1-(w.length-16)=15 by omega] at e16
      rw [e3,e8,e14,e16,hx,h2 _ jC,getD_rev jU]
      simp
theorem words16_spec:∀ (B acc:List Nat),(UL B acc).length=B.length / 4+acc.length∧(∀ t,t<acc.length→(UL B acc).reverse.getD t 0=acc.reverse.getD t 0) ∧
    ∀ t,4 * t+3<B.length→(UL B acc).reverse.getD (acc.length+t) 0=word4 (B.getD (4 * t) 0) (B.getD (4 * t+1) 0) (B.getD (4 * t+2) 0) (B.getD (4 * t+3) 0)
  | a::b::c::d::r,acc=>by
    obtain ⟨h1,h2,h3⟩:=words16_spec r (word4 a b c d::acc)
    simp only [List.length_cons] at h1 h2 h3
    have e:UL (a::b::c::d::r) acc=UL r (word4 a b c d::acc):=rfl
    rw [e]
    refine ⟨by simp only [List.length_cons];omega,fun t ht=>?_,fun t ht=>?_⟩
    · rw [h2 t jC]
      simp only [List.reverse_cons,List.getD_eq_getElem?_getD]
      rw [List.getElem?_append_left (by simpa using ht)]
    · simp only [List.length_cons] at ht
      rcases t with _|t
      · rw [h2 _ jC]
        simp only [List.reverse_cons,List.getD_eq_getElem?_getD]
        rw [List.getElem?_append_right jU]
        simp
      · have:=h3 t jC
        rw [show acc.length+1+t=acc.length+(t+1) by omega] at this
        rw [this]
        simp [List.getD_eq_getElem?_getD,show 4 * (t+1)=4 * t+4 by omega]
  | [],acc=>⟨by simp [UL],fun t _=>rfl,fun t h=>by simp only [List.length_nil] at h;omega⟩
  | [a],acc=>⟨by simp [UL],fun t _=>rfl,fun t h=>by simp only [List.length_cons,List.length_nil] at h;omega⟩
  | [a,b],acc=>⟨by simp [UL],fun t _=>rfl,fun t h=>by simp only [List.length_cons,List.length_nil] at h;omega⟩
  | [a,b,c],acc=>⟨by simp [UL],fun t _=>rfl,fun t h=>by simp only [List.length_cons,List.length_nil] at h;omega⟩
structure IsWords (B V:List Nat):Prop where
  len:V.length=80
  lo:∀ t,(h:t<16)→V[t]'jC=word4 (B.getD (4 * t) 0) (B.getD (4 * t+1) 0) (B.getD (4 * t+2) 0) (B.getD (4 * t+3) 0)
  hi:∀ t,(h:16≤t)→(h2:t<80)→V[t]'jC=rotl (V[t-3]'jC ^^^ V[t-8]'jC ^^^ V[t-14]'jC ^^^ V[t-16]'jC) 1
theorem wordsOf_is {B:List Nat} (h:B.length=64):IsWords B (wordsOf B):=by
  obtain ⟨a1,a2,a3⟩:=words16_spec B []
  obtain ⟨b1,b2,b3⟩:=wordsMore_spec 64 (UL B []) (by simp at a1;omega)
  have hl:(wordsOf B).length=80:=by unfold wordsOf;rw [List.length_reverse,b1,a1,h];rfl
  have g:∀ j,(hj:j<80)→(wordsOf B)[j]'jC=(wordsOf B).getD j 0:=fun j hj=>by
    rw [List.getD_eq_getElem?_getD,List.getElem?_eq_getElem jC];rfl
  refine ⟨hl,fun t ht=>?_,fun t h1 h2=>?_⟩
  · rw [g t jC]
    unfold wordsOf
    rw [b2 t (by simp at a1;omega)]
    have:=a3 t jC
    simpa using this
  · rw [g t h2,g (t-3) jC,g (t-8) jC,g (t-14) jC,g (t-16) jC]
    exact b3 t (by simp at a1;omega) (by simp at a1;omega)
def bytesOf (B:List Nat) (t:Nat):Nat→Nat
  | 0=>0
  | k+1=>bytesOf B t k * 256+B.getD (4 * t+k) 0
theorem bytesOf_lt {B:List Nat} {t:Nat} (h:∀ b∈B,b<256):∀ k,bytesOf B t k<256 ^ k
  | 0=>by simp [bytesOf]
  | k+1=>by
    have:=bytesOf_lt (t:=t) h k
    have hb:B.getD (4 * t+k) 0<256:=by
      rw [List.getD_eq_getElem?_getD]
      cases hg:B[4 * t+k]? with
      | none=>simp
      | some v=>exact h v (List.mem_of_getElem? hg)
    unfold bytesOf
    rw [Nat.pow_succ]
    omega
theorem bytesOf_four (B:List Nat) (t:Nat):bytesOf B t 4=word4 (B.getD (4 * t) 0) (B.getD (4 * t+1) 0) (B.getD (4 * t+2) 0) (B.getD (4 * t+3) 0):=by
  simp [bytesOf,word4]
theorem shl8_or {p c:Nat} (hp:p<16777216) (hc:c<256):(p * 2 ^ 8 % 4294967296) ||| c=p * 256+c:=by
  rw [Nat.mod_eq_of_lt jC,← Nat.shiftLeft_eq,← Nat.shiftLeft_add_eq_or_of_lt (by simpa using hc),Nat.shiftLeft_eq]
theorem Up {B V:List Nat} (h:IsWords B V) (hB:∀ b∈B,b<256) (t:Nat) (ht:t<80):V[t]'(by have:=h.len;omega)<4294967296:=by
  rcases Nat.lt_or_ge t 16 with h1|h1
  · rw [h.lo t h1,← bytesOf_four];exact bytesOf_lt hB 4
  · rw [h.hi t h1 ht];exact rotl_lt _ _
def WordsE (M:Mem) (v:Value) (V:List Nat):Prop:=∃ sl:Sl Nat,v=.tuple #[sl.val,.int .i64 0]∧sl.l=V∧SlK M u32R 1 sl
end Go.Esp
namespace Go.Proofs.YtglnjnacodgmaaaGreatDoor.K
open Go.Esp
theorem F.arr256:arOf Tryz.prog 256=some (64,5):=by kernel_rfl
theorem F.elem204:slOf Tryz.prog 204=some (152,1,4):=by kernel_rfl
theorem F.lay152:lay Tryz.prog 152=some (false,1):=by kernel_rfl
theorem F.ok152:okFn Tryz.prog 152=true:=by kernel_rfl
theorem F.zero152:XW Tryz.prog 152=some ((.int .u32 0)):=by kernel_rfl
theorem F.zero256:XW Tryz.prog 256=some (aggV [.arr 64 (Vector.replicate 64 (.int .u8 0))]):=by kernel_rfl
theorem Words_ok (M:Mem) (s:ByteArray) (hs:s.size=64) (V:List Nat) (hV:IsWords (XY s) V):Esp.Fn Tryz.prog 150 [.string s] M (fun M' v=>WordsE M' v V):=by
  have hl80:=hV.len
  have hB:=natsOf_lt s
  obtain ⟨bv,hbv⟩:=byteVec s hs
  refine WF Tryz.func150 rfl Tryz.ntmps150 rfl ?_;intro H
  iterate 10 refine Stp ?_
  refine Y_len_str Tryz.underlying9 ?_
  iterate 3 refine Stp ?_
  refine ZW rfl (eT fun hc1=>?_) (eF fun hc1=>?_)
  ·(exfalso;omega)
  ·iterate 4 refine Stp ?_
   refine Yz F.zero256 ?_;intro b2
   iterate 4 refine Stp ?_
   refine X_slice_arr rfl rfl rfl F.arr256 rfl ?_;refine Yk ?_;refine X_copyS (s:=s) (u:=[.arr 64 bv]) rfl rfl rfl rfl rfl F.elem202 hs jH (by rw [arr_cells];simp) ((arr_cells bv).trans hbv) rfl ?_
   iterate 4 refine Stp ?_
   refine X_makeSliceO (k:=80) (zr:=u32R 0) rfl rfl rfl rfl F.elem204 F.zero152 rfl rfl rfl jJ jJ rfl ?_;intro b2 hs1 ho1
   iterate 10 refine Stp ?_
   refine Y_pk [17,5,4,3,2] ?_;refine Wt (Hin:=hs1) (.succ .zero) jA (fun (k:Nat) M1 h1 z=>M1=M∧z=[(17,.int .i64 (k:Int))]∧k≤16∧OSl 152 1 (.slice (some ⟨b2,0,none⟩) 80 80) h1 ((US V (k)).map u32R)) (fun k=>16-k) (0) (⟨rfl,rfl,by omega,by rw [partW_zero,hV.len,List.map_replicate];exact ho1⟩) ?_
   rintro k M1 h1 z hm1 ⟨hM1,rfl,hk,ho⟩
   subst hM1
   iterate 6 refine Stp ?_
   refine ZW rfl (cT fun hc3=>?_) (cF fun hc3=>?_)
   ·iterate 13 refine Stp ?_
    refine YO rfl rfl rfl rfl rfl yA rfl ?_
    rw [show (4:Int) * (k:Int)=((4 * k:Nat):Int) by omega]
    refine X_slice_arrB rfl rfl rfl (.some rfl rfl) .none F.arr256 (Nat.le_refl _) (by show 4 * k≤64;omega) (show WJ (some ⟨_,0,none⟩) 1 (4 * k) 64 64=.slice (some ⟨_,4 * k,none⟩) (64-4 * k) (64-4 * k) from by rw [pieceV_at jC,Nat.zero_add]) rfl ?_;refine WK (olo:=none) (ohi:=some 4) (omx:=none) rfl rfl rfl .none (.some rfl rfl) .none F.elem202 (Nat.le_refl _) (by show 4≤64-4 * k;omega) (Nat.zero_le _) (by intro h;cases h) (show WJ (some ⟨_,4 * k,none⟩) 1 0 4 (64-4 * k)=.slice (some ⟨_,4 * k,none⟩) 4 (64-4 * k) from by rw [pieceV_at jC];rfl) rfl ?_;refine YA F.elem202 ?_
    iterate 4 refine Stp ?_
    refine Y_pk [25,24,23,22,21,20,6,19,18,17,5,4,3,2] ?_;refine Wt (Hin:=h1) (.succ .zero) jA (fun (q:Nat) M2 h2 z=>M2=M1∧z=[(25,.int .i64 (q:Int))]∧q≤4∧OSl 152 1 (.slice (some ⟨b2,0,none⟩) 80 80) h2 (((US V k).set k (bytesOf (XY s) k (q))).map u32R)) (fun q=>4-q) (0) (⟨rfl,rfl,by omega,by rw [show bytesOf (XY s) k 0=0 from rfl,partW_set0 jC];exact ho⟩) ?_
    rintro q M2 h2 z hm2 ⟨hM2,rfl,hq,hoq⟩
    subst hM2
    have hby:=getD_lt hB (4 * k+q)
    iterate 6 refine Stp ?_
    refine ZW rfl (cT fun hc4=>?_) (cF fun hc4=>?_)
    ·iterate 6 refine Stp ?_
     refine Ys rfl rfl rfl rfl F.elem202 jR jC zA rfl ?_
     rw [eptr_some,show 4 * k+(q * 1+0)=4 * k+q by omega]
     refine WQ rfl rfl rfl jB F.lay5 (byteCell hbv hs jC) rfl ?_
     iterate 8 refine Stp ?_
     refine Ys rfl rfl rfl rfl F.elem204 jR jC zA rfl ?_
     have hp:bytesOf (XY s) k q<16777216:=Nat.lt_of_lt_of_le (bytesOf_lt hB q) (Nat.pow_le_pow_right jJ (show q≤3 by omega))
     refine Vo rfl rfl rfl hoq jA (by rw [List.getElem?_map,List.getElem?_set_self (by rw [partW_len jC];omega)];rfl) F.lay152 rfl rfl rfl ?_;refine Vt rfl rfl rfl rfl jJ (shl32 (n:=8) jC) rfl rfl ?_;refine Yk ?_;refine Wz rfl rfl rfl Tryz.underlying5 Tryz.underlying152 (by exact wrap_u32_in jJ jC) rfl ?_;refine WR rfl rfl rfl rfl (or32 (Nat.mod_lt _ jJ) jC) rfl rfl ?_
     rw [shl8_or hp hby]
     refine Ys rfl rfl rfl rfl F.elem204 jR jC zA rfl ?_
     refine UJ (b:=b2) (j:=k) rfl rfl rfl rfl jG (Xw rfl Xx) F.lay152 rfl rfl hoq jA (by rw [List.length_map];first|(rw [partW_len jC];omega)|(rw [List.length_set,partW_len jC];omega)) ?_;intro hs2 ho2
     replace ho2:OSl 152 1 (.slice (some ⟨b2,0,none⟩) 80 80) hs2 (((US V k).set k (bytesOf (XY s) k (q+1))).map u32R):=by rw [show (((US V k).set k (bytesOf (XY s) k (q+1))).map u32R)=((((US V k).set k (bytesOf (XY s) k (q))).map u32R)).set k (u32R (bytesOf (XY s) k (q+1))) by rw [← List.map_set,List.set_set]];exact ho2.aZ (by simp [partW_len,hl80,show k≤80 by omega])
     iterate 4 refine Stp ?_
     refine YO rfl rfl rfl rfl rfl yA rfl ?_
     iterate 2 refine Stp ?_
     refine Xa (a':=[(25,_)]) (q+1) (hs2) (.cons (k:=25) rfl (.cons (k:=24) rfl (.cons (k:=23) rfl (.cons (k:=22) rfl (.cons (k:=21) rfl (.cons (k:=20) rfl (.cons (k:=6) rfl (.cons (k:=19) rfl (.cons (k:=18) rfl (.cons (k:=17) rfl (.cons (k:=5) rfl (.cons (k:=4) rfl (.cons (k:=3) rfl (.cons (k:=2) rfl (.nil))))))))))))))) jP (fun w hw=>by first|exact hw|exact hw.c) ?_ ?_
     ·exact ⟨rfl,rfl,by omega,ho2⟩
     ·omega
    ·iterate 7 refine Stp ?_
     refine YO rfl rfl rfl rfl rfl yA rfl ?_
     iterate 2 refine Stp ?_
     refine Xa (a':=[(17,_)]) (k+1) (h2) (.cons (k:=17) rfl (.cons (k:=5) rfl (.cons (k:=4) rfl (.cons (k:=3) rfl (.cons (k:=2) rfl (.nil)))))) jP (fun w hw=>by first|exact hw|exact hw.c) ?_ ?_
     ·refine ⟨rfl,rfl,by omega,?_⟩
      obtain rfl:q=4:=by omega
      rw [bytesOf_four,← hV.lo k jC,partW_set jC] at hoq
      exact hoq
     ·omega
   ·iterate 8 refine Stp ?_
    obtain rfl:k=16:=by omega
    iterate 4 refine Stp ?_
    refine Y_pk [9,5,3,2] ?_;refine Wt (Hin:=h1) (.succ .zero) jA (fun (t:Nat) M3 h3 z=>M3=M1∧z=[(9,.int .i64 (t:Int))]∧16≤t∧t≤80∧OSl 152 1 (.slice (some ⟨b2,0,none⟩) 80 80) h3 ((US V (t)).map u32R)) (fun t=>80-t) (16) (⟨rfl,rfl,by omega,by omega,ho⟩) ?_
    rintro t M3 h3 z hm3 ⟨hM3,rfl,ht1,ht2,hot⟩
    subst hM3
    iterate 7 refine Stp ?_
    refine ZW rfl (cT fun hc5=>?_) (cF fun hc5=>?_)
    ·iterate 4 refine Stp ?_
     refine Yg (l:=[0,1,2,3,4,5,6,7,8,9,10,11,12,13,14,15,16,17,18,19,20,21,22,23,24,25,26,27]) #[0,0,0,0,8,28,60,0,0,256,896,1920,4092,0,0,16384,57344,122880,262140,0,0,1048576,3670016,7864320,16777212,33554428,67108863,134217727] _ rfl jI jI St.drawn (fun _ h=>h) ?_
     iterate 4 refine Stp ?_
     refine YO rfl rfl rfl rfl rfl yA rfl ?_
     rw [show (t:Int)-3=((t-3:Nat):Int) by omega]
     refine Ys rfl rfl rfl rfl F.elem204 jR jC zA rfl ?_;refine Vo rfl rfl rfl hot jA (by rw [List.getElem?_map,partW_get (V:=V) (t:=t) (j:=t-3) jC jC];rfl) F.lay152 rfl rfl rfl ?_
     iterate 2 refine Stp ?_
     refine YO rfl rfl rfl rfl rfl yA rfl ?_
     rw [show (t:Int)-8=((t-8:Nat):Int) by omega]
     refine Ys rfl rfl rfl rfl F.elem204 jR jC zA rfl ?_;refine Vo rfl rfl rfl hot jA (by rw [List.getElem?_map,partW_get (V:=V) (t:=t) (j:=t-8) jC jC];rfl) F.lay152 rfl rfl rfl ?_;refine WR rfl rfl rfl rfl (xor32 (Up hV hB (t-3) jC) (Up hV hB (t-8) jC)) rfl rfl ?_
     iterate 2 refine Stp ?_
     refine YO rfl rfl rfl rfl rfl yA rfl ?_
     rw [show (t:Int)-14=((t-14:Nat):Int) by omega]
     refine Ys rfl rfl rfl rfl F.elem204 jR jC zA rfl ?_;refine Vo rfl rfl rfl hot jA (by rw [List.getElem?_map,partW_get (V:=V) (t:=t) (j:=t-14) jC jC];rfl) F.lay152 rfl rfl rfl ?_;refine WR rfl rfl rfl rfl (xor32 (lt_xor (Up hV hB (t-3) jC) (Up hV hB (t-8) jC)) (Up hV hB (t-14) jC)) rfl rfl ?_
     iterate 2 refine Stp ?_
     refine YO rfl rfl rfl rfl rfl yA rfl ?_
     rw [show (t:Int)-16=((t-16:Nat):Int) by omega]
     refine Ys rfl rfl rfl rfl F.elem204 jR jC zA rfl ?_;refine Vo rfl rfl rfl hot jA (by rw [List.getElem?_map,partW_get (V:=V) (t:=t) (j:=t-16) jC jC];rfl) F.lay152 rfl rfl rfl ?_;refine WR rfl rfl rfl rfl (xor32 (lt_xor (lt_xor (Up hV hB (t-3) jC) (Up hV hB (t-8) jC)) (Up hV hB (t-14) jC)) (Up hV hB (t-16) jC)) rfl rfl ?_;refine X_fs rfl rfl F.ok152 rfl (Rotl_ok _ _ 1 (lt_xor (lt_xor (lt_xor (Up hV hB (t-3) jC) (Up hV hB (t-8) jC)) (Up hV hB (t-14) jC)) (Up hV hB (t-16) jC)) jJ) rfl ?_
     rintro _ rfl
     refine Ys rfl rfl rfl rfl F.elem204 jR jC zA rfl ?_
     refine UJ (b:=b2) (j:=t) rfl rfl rfl rfl jG (Xw rfl Xx) F.lay152 rfl rfl hot jA (by rw [List.length_map];first|(rw [partW_len jC];omega)|(rw [List.length_set,partW_len jC];omega)) ?_;intro hs3 ho3
     replace ho3:OSl 152 1 (.slice (some ⟨b2,0,none⟩) 80 80) hs3 ((US V (t+1)).map u32R):=by rw [← partW_set jC,List.map_set,hV.hi t ht1 jC];exact ho3.aZ (by simp [partW_len,hl80,show t≤80 by omega])
     iterate 5 refine Stp ?_
     refine YO rfl rfl rfl rfl rfl yA rfl ?_
     iterate 2 refine Stp ?_
     refine Xa (a':=[(9,_)]) (t+1) (hs3) (.cons (k:=9) rfl (.cons (k:=5) rfl (.cons (k:=3) rfl (.cons (k:=2) rfl (.nil))))) jP (fun w hw=>by first|exact hw|exact hw.c) ?_ ?_
     ·exact ⟨rfl,rfl,by omega,by omega,ho3⟩
     ·omega
    ·iterate 13 refine Stp ?_
     refine ZV (.inr rfl) (.tmp rfl (.tmp rfl .nil)) (fun w hw=>?_)
     obtain rfl:t=80:=by omega
     have e80:US V 80=V:=by have:=partW_all (V:=V);rwa [hl80] at this
     rw [e80] at hot
     obtain ⟨M9,s1,g1,g2,g3,g4,g5⟩:=OSl.freezeK (f:=u32R) (H:=H) (l:=V) hot (hw.c)
     refine ⟨_,M9,rfl,g1,g2,?_⟩
     exact ⟨s1,by rw [← g3];rfl,g4,g5⟩
end Go.Proofs.YtglnjnacodgmaaaGreatDoor.K
namespace Go.Esp
def stV (s:St5):Vector Value 5:=⟨#[.int .u32 (s.a:Int),.int .u32 (s.b:Int),.int .u32 (s.c:Int),.int .u32 (s.d:Int),.int .u32 (s.e:Int)],rfl⟩
def TT (s:St5):Seg:=.arr 5 (stV s)
def St5.nth (s:St5):Nat→Nat
  | 0=>s.a
  | 1=>s.b
  | 2=>s.c
  | 3=>s.d
  | _=>s.e
structure St5.ok (s:St5):Prop where
  a:s.a<4294967296
  b:s.b<4294967296
  c:s.c<4294967296
  d:s.d<4294967296
  e:s.e<4294967296
theorem St5.ok.nth {s:St5} (h:s.ok) (j:Nat):s.nth j<4294967296:=by
  obtain ⟨h1,h2,h3,h4,h5⟩:=h
  unfold St5.nth;split <;> assumption
theorem stV_at (s:St5) {j:Nat} (h:j<5):(stV s)[j]=.int .u32 ((s.nth j:Nat):Int):=by
  match j,h with
  | 0,_=>rfl
  | 1,_=>rfl
  | 2,_=>rfl
  | 3,_=>rfl
  | 4,_=>rfl
theorem TK (s:St5) {j:Nat} (h:j<5):(Segs.cells [TT s])[0+j]?=some (.int .u32 ((s.nth j:Nat):Int)):=by
  rw [← stV_at s h];exact arr_at h
theorem stFlat (s:St5):flat [TT s]:=fun u hu=>by
  have:u=.int .u32 (s.a:Int)∨u=.int .u32 (s.b:Int)∨u=.int .u32 (s.c:Int)∨u=.int .u32 (s.d:Int)∨u=.int .u32 (s.e:Int):=by
    have h9:u∈[Value.int .u32 (s.a:Int),.int .u32 (s.b:Int),.int .u32 (s.c:Int),.int .u32 (s.d:Int),.int .u32 (s.e:Int)]:=hu
    simpa using h9
  rcases this with rfl|rfl|rfl|rfl|rfl <;> rfl
theorem start5_ok:start5.ok:=⟨by decide,by decide,by decide,by decide,by decide⟩
theorem roundN_ok {s:St5} (t w:Nat) (h:s.ok):(Td t s w).ok:=⟨Nat.mod_lt _ (by decide),h.a,rotl_lt _ _,h.c,h.d⟩
theorem roundsN_app:∀ (l:List Nat) (t w:Nat) (s:St5),roundsN t (l++[w]) s=Td (t+l.length) (roundsN t l s) w
  | [],t,w,s=>rfl
  | x::l,t,w,s=>by
    show roundsN (t+1) (l++[w]) (Td t s x)=_
    rw [roundsN_app l (t+1) w]
    rw [List.length_cons,show t+1+l.length=t+(l.length+1) by omega]
    rfl
theorem roundsN_ok:∀ (l:List Nat) (t:Nat) {s:St5},s.ok→(roundsN t l s).ok
  | [],t,s,h=>h
  | x::l,t,s,h=>roundsN_ok l (t+1) (roundN_ok t x h)
def Vx (V:List Nat) (h:St5) (t:Nat):St5:=roundsN 0 (V.take t) h
theorem behind_succ {V:List Nat} {h:St5} {t:Nat} (ht:t<V.length):Vx V h (t+1)=Td t (Vx V h t) V[t]:=by
  unfold Vx
  rw [List.take_succ_eq_append_getElem ht,roundsN_app,List.length_take,Nat.min_eq_left jC,Nat.zero_add]
theorem behind_ok {V:List Nat} {h:St5} (t:Nat) (hh:h.ok):(Vx V h t).ok:=roundsN_ok _ _ hh
theorem behind_all {V:List Nat} {h:St5}:Vx V h V.length=roundsN 0 V h:=by unfold Vx;rw [List.take_length]
theorem round_sum {r f e a w:Nat}:w32 (w32 (w32 (w32 ((r:Int)+(f:Int))+(e:Int))+(a:Int))+(w:Int))=(((r+f+e+a+w) % 4294967296:Nat):Int):=by
  unfold w32;omega
theorem add_sum {a b:Nat}:w32 ((a:Int)+(b:Int))=((So a b:Nat):Int):=by
  unfold w32 So;omega
def sumTo (h s:St5) (i:Nat):St5:=⟨if 0<i then So h.a s.a else h.a,if 1<i then So h.b s.b else h.b,if 2<i then So h.c s.c else h.c,if 3<i then So h.d s.d else h.d,if 4<i then So h.e s.e else h.e⟩
theorem sumTo_at {h s:St5} {i:Nat} (hi:i<5):(sumTo h s i).nth i=h.nth i:=by
  match i,hi with
  | 0,_=>rfl
  | 1,_=>rfl
  | 2,_=>rfl
  | 3,_=>rfl
  | 4,_=>rfl
theorem sumTo_set {h s:St5} {i:Nat} (hi:i<5):(stV (sumTo h s i)).set i (.int .u32 ((So (h.nth i) (s.nth i):Nat):Int)) hi=stV (sumTo h s (i+1)):=by
  match i,hi with
  | 0,_=>rfl
  | 1,_=>rfl
  | 2,_=>rfl
  | 3,_=>rfl
  | 4,_=>rfl
theorem stepN_is {h:St5} {B:List Nat} (hB:B.length=64):sumTo h (Vx (wordsOf B) h 80) 5=stepN h B:=by
  have hl:=(wordsOf_is hB).len
  have:Vx (wordsOf B) h 80=roundsN 0 (Vv 64 (UL B [])).reverse h:=by
    rw [← hl];exact behind_all
  rw [this];rfl
theorem stepN_ok {h:St5} {B:List Nat}:(stepN h B).ok:=⟨Nat.mod_lt _ (by decide),Nat.mod_lt _ (by decide),Nat.mod_lt _ (by decide),Nat.mod_lt _ (by decide),Nat.mod_lt _ (by decide)⟩
end Go.Esp
namespace Go.Proofs.YtglnjnacodgmaaaGreatDoor.K
open Go.Esp
theorem F.bld209:Bld Tryz.prog 209 [[.one .nilFunc],[.one (.int .u32 0)]]:=⟨by kernel_rfl,by kernel_rfl⟩
theorem F.lay210:lay Tryz.prog 210=some (true,8):=by kernel_rfl
theorem F.ok192:okFn Tryz.prog 192=true:=by kernel_rfl
theorem F.ok193:okFn Tryz.prog 193=true:=by kernel_rfl
theorem F.ok194:okFn Tryz.prog 194=true:=by kernel_rfl
theorem F.phs (w:World):(Instr.build 210 #[(0,aggV [.one (.func (.func 192) #[] #[]),.one (.int .u32 ((1518500249:Nat):Int))]),(1,aggV [.one (.func (.func 193) #[] #[]),.one (.int .u32 ((1859775393:Nat):Int))]),(2,aggV [.one (.func (.func 194) #[] #[]),.one (.int .u32 ((2400959708:Nat):Int))]),(3,aggV [.one (.func (.func 193) #[] #[]),.one (.int .u32 ((3395469782:Nat):Int))])]).run Tryz.prog w=.ok (aggV [.one (.func (.func 192) #[] #[]),.one (.int .u32 ((1518500249:Nat):Int)),.one (.func (.func 193) #[] #[]),.one (.int .u32 ((1859775393:Nat):Int)),.one (.func (.func 194) #[] #[]),.one (.int .u32 ((2400959708:Nat):Int)),.one (.func (.func 193) #[] #[]),.one (.int .u32 ((3395469782:Nat):Int))]) w:=by kernel_rfl
theorem F.zero210:XW Tryz.prog 210=some (aggV [.one .nilFunc,.one (.int .u32 0),.one .nilFunc,.one (.int .u32 0),.one .nilFunc,.one (.int .u32 0),.one .nilFunc,.one (.int .u32 0)]):=by kernel_rfl
def mixF (k:Nat):FuncId:=if k=0 then 192 else if k=1 then 193 else if k=2 then 194 else 193
def addC (k:Nat):Nat:=if k=0 then 1518500249 else if k=1 then 1859775393 else if k=2 then 2400959708 else 3395469782
def phS (k:Nat):Segs:=[.one (.func (.func (mixF k)) #[] #[]),.one (.int .u32 ((addC k:Nat):Int))]
def phR:Segs:=[.one (.func (.func 192) #[] #[]),.one (.int .u32 ((1518500249:Nat):Int)),.one (.func (.func 193) #[] #[]),.one (.int .u32 ((1859775393:Nat):Int)),.one (.func (.func 194) #[] #[]),.one (.int .u32 ((2400959708:Nat):Int)),.one (.func (.func 193) #[] #[]),.one (.int .u32 ((3395469782:Nat):Int))]
theorem phSub {j:Nat} (h:j<4):Segs.sub phR (0+j * 2) 2=some (phS j):=by
  match j,h with
  |0,_=>rfl
  |1,_=>rfl
  |2,_=>rfl
  |3,_=>rfl
theorem mixF_ok {j:Nat} (h:j<4):okFn Tryz.prog (mixF j)=true:=by
  match j,h with
  |0,_=>exact F.ok192
  |1,_=>exact F.ok193
  |2,_=>exact F.ok194
  |3,_=>exact F.ok193
theorem addC_is {k:Nat} (h:k<80):addC (k / 20)=addN k:=by
  unfold addC addN
  repeat (first|rfl|omega|split)
theorem mix_ok (M:Mem) {k b c d:Nat} (h:k<80) (hb:b<4294967296) (hc:c<4294967296) (hd:d<4294967296):Fs Tryz.prog (mixF (k / 20)) [.int .u32 ((b:Nat):Int),.int .u32 ((c:Nat):Int),.int .u32 ((d:Nat):Int)] M (fun v=>v=.int .u32 ((mixN k b c d:Nat):Int)):=by
  unfold mixN
  rcases (show k / 20=0∧k<20∨k / 20=1∧¬k<20∧k<40∨k / 20=2∧¬k<20∧¬k<40∧k<60∨k / 20=3∧¬k<20∧¬k<40∧¬k<60 by omega) with ⟨e,h1⟩|⟨e,h1,h2⟩|⟨e,h1,h2,h3⟩|⟨e,h1,h2,h3⟩
  ·rw [e,if_pos h1];exact choose_ok M b c d hb hc hd
  ·rw [e,if_neg h1,if_pos h2];exact unlike_ok M b c d hb hc hd
  ·rw [e,if_neg h1,if_neg h2,if_pos h3];exact most_ok M b c d hb hc hd
  ·rw [e,if_neg h1,if_neg h2,if_neg h3];exact unlike_ok M b c d hb hc hd
theorem phases_ok (M:Mem):Fs Tryz.prog 151 [] M (fun v=>v=aggV (phR)):=by
  refine Xe Tryz.func151 rfl Tryz.ntmps151 rfl ?_;intro H
  iterate 2 refine Stp ?_
  refine Yz F.zero210 ?_;intro b1
  iterate 4 refine Stp ?_
  iterate 4 refine Xo rfl rfl F.bld209 (.cons rfl jG (.cons rfl jG .nil)) rfl rfl ?_
  refine X_buildC rfl rfl (fun a ha=>by simp [show a.eval (.tmp 1)=aggV [.one (.func (.func 192) #[] #[]),.one (.int .u32 ((1518500249:Nat):Int))] from ha.ev rfl,show a.eval (.tmp 2)=aggV [.one (.func (.func 193) #[] #[]),.one (.int .u32 ((1859775393:Nat):Int))] from ha.ev rfl,show a.eval (.tmp 3)=aggV [.one (.func (.func 194) #[] #[]),.one (.int .u32 ((2400959708:Nat):Int))] from ha.ev rfl,show a.eval (.tmp 4)=aggV [.one (.func (.func 193) #[] #[]),.one (.int .u32 ((3395469782:Nat):Int))] from ha.ev rfl]) (F.phs) rfl ?_;refine Ya F.lay210 ?_
  iterate 3 refine Stp ?_
  refine ZV (.inr rfl) (.cell rfl jB F.lay210 rfl rfl .nil) (fun w hw=>?_)
  refine ⟨_,rfl,(hw.c),?_⟩
  clear hw
  rfl
end Go.Proofs.YtglnjnacodgmaaaGreatDoor.K
namespace Go.Proofs.YtglnjnacodgmaaaGreatDoor.K
open Go.Esp
theorem F.arr154:arOf Tryz.prog 154=some (5,152):=by kernel_rfl
theorem F.arrN210:arOfN Tryz.prog 210=some (4,209,2):=by kernel_rfl
theorem F.bst (a b c d e:Int) (w:World):(Instr.build 154 #[(0,.int .u32 a),(1,.int .u32 b),(2,.int .u32 c),(3,.int .u32 d),(4,.int .u32 e)]).run Tryz.prog w=.ok (.agg #[.int .u32 a,.int .u32 b,.int .u32 c,.int .u32 d,.int .u32 e]) w:=by kernel_rfl
theorem F.foff209_0:foff Tryz.prog 209 0=some 0:=by kernel_rfl
theorem F.foff209_1:foff Tryz.prog 209 1=some 1:=by kernel_rfl
theorem F.lay154:lay Tryz.prog 154=some (true,5):=by kernel_rfl
theorem F.lay207:lay Tryz.prog 207=some (false,1):=by kernel_rfl
theorem F.lay209:lay Tryz.prog 209=some (true,2):=by kernel_rfl
theorem F.ok150:okFn Tryz.prog 150=true:=by kernel_rfl
theorem F.ok151:okFn Tryz.prog 151=true:=by kernel_rfl
theorem F.zero154:XW Tryz.prog 154=some (aggV [.arr 5 (Vector.replicate 5 (.int .u32 0))]):=by kernel_rfl
theorem F.zero209:XW Tryz.prog 209=some (aggV [.one .nilFunc,.one (.int .u32 0)]):=by kernel_rfl
theorem Step_ok (M:Mem) (g:St5) (s:ByteArray) (hg:g.ok) (hs:s.size=64):Esp.Fn Tryz.prog 93 [aggV [TT g],.string s] M (fun M' v=>v=.tuple #[aggV [TT (stepN g (XY s))],.int .i64 0]):=by
  refine WF Tryz.func93 rfl Tryz.ntmps93 rfl ?_;intro H
  iterate 2 refine Stp ?_
  refine Xq ?_;intro b1
  refine Yz F.zero154 ?_;intro b2
  iterate 6 refine Stp ?_
  refine X_fn rfl rfl F.ok150 rfl (Words_ok M s hs (wordsOf (XY s)) (wordsOf_is (by rw [Vm,hs]))) rfl ?_
  rintro _ M1 hm1 ⟨⟨wa,wc,wl⟩,rfl,hwl,hwk⟩
  replace hwl:wl=wordsOf (XY s):=hwl
  have hV:IsWords (XY s) wl:=by rw [hwl];exact wordsOf_is (by rw [Vm,hs])
  have hl80:=hV.len
  have s_w:=hwk.h1
  iterate 14 refine Stp ?_
  refine ZW rfl (eT fun hc3=>?_) (eF fun hc3=>?_)
  ·simp only [Zs.eta,ZO.eta,ZJ.eta,ZF.eta,Ym.eta,Yv.eta,Yy.eta,Yq.eta,ZN.eta,YF.eta,ZU.eta] at hc3
   (exfalso;simp [eqX] at hc3;done)
  ·simp only [Zs.eta,ZO.eta,ZJ.eta,ZF.eta,Ym.eta,Yv.eta,Yy.eta,Yq.eta,ZN.eta,YF.eta,ZU.eta] at hc3
   iterate 3 refine Stp ?_
   refine Yg (l:=[0,1,2,3,4,5]) #[0,0,0,0,15,31] _ rfl jI jI St.drawn (fun _ h=>h) ?_;refine Zy F.lay154 ?_;refine X_fs rfl rfl F.ok151 rfl (phases_ok _) rfl ?_
   rintro _ rfl
   refine Yz F.zero154 ?_;intro b4
   refine Yz F.zero210 ?_;intro b5
   refine Ul rfl rfl rfl rfl jG zY jH F.lay154 rfl rfl ?_;refine Ya F.lay210 ?_
   iterate 9 refine Stp ?_
   refine Y_pk [25,9,8,6,5,4,2] ?_;refine Wt (Hin:=[(b4,rowO [TT (g)] 154)]) (.succ .zero) jA (fun (k:Nat) M2 h1 z=>M2=M1∧z=[(25,.int .i64 (k:Int))]∧k≤80∧h1=[(b4,rowO [TT (Vx wl g k)] 154)]) (fun k=>80-k) (0) (⟨rfl,rfl,by omega,rfl⟩) ?_
   rintro k M2 h1 z hm2 ⟨hM2,rfl,hk,rfl⟩
   subst hM2
   have hg9:=behind_ok (V:=wl) k hg
   iterate 6 refine Stp ?_
   refine ZW rfl (cT fun hc6=>?_) (cF fun hc6=>?_)
   ·iterate 13 refine Stp ?_
    refine X_quo rfl rfl rfl rfl jJ yU rfl ?_
    rw [show (k:Int) / 20=((k / 20:Nat):Int) by omega]
    refine X_indexAddr_arrN rfl rfl rfl rfl F.arrN210 rfl jC rfl ?_;refine X_load (r:=phR) (r':=phS (k / 20)) rfl rfl rfl jB F.lay209 (phSub jC) rfl rfl ?_
    refine Yz F.zero209 ?_;intro b7
    refine Ya F.lay209 ?_
    iterate 3 refine Stp ?_
    refine Yg (l:=[0,1,2,3,4,5,6,7,8,9,10,11,12,13,14,15,16,17,18,19,20,21,22,23,24]) #[0,1,3,0,8,0,32,0,128,0,512,2047,4095,0,8192,32767,0,65536,262143,0,0,1572864,3670016,8388607,16777215] _ rfl jI jI St.drawn (fun _ h=>h) ?_;refine XC rfl rfl rfl rfl F.arr154 jR jJ rfl ?_;refine WQ rfl rfl rfl jB F.lay152 (TK _ jJ) rfl ?_;refine X_fs rfl rfl F.ok152 rfl (Rotl_ok _ ((Vx wl g k).nth 0) 5 (hg9.nth 0) jJ) rfl ?_
    rintro _ rfl
    refine Zi F.foff209_0 ?_;refine Zy F.lay207 ?_;refine XC rfl rfl rfl rfl F.arr154 jR jJ rfl ?_;refine WQ rfl rfl rfl jB F.lay152 (TK _ jJ) rfl ?_;refine XC rfl rfl rfl rfl F.arr154 jR jJ rfl ?_;refine WQ rfl rfl rfl jB F.lay152 (TK _ jJ) rfl ?_;refine XC rfl rfl rfl rfl F.arr154 jR jJ rfl ?_;refine WQ rfl rfl rfl jB F.lay152 (TK _ jJ) rfl ?_;refine Sy rfl rfl rfl (mixF_ok (j:=k / 20) jC) rfl rfl (mix_ok _ jC (hg9.nth 1) (hg9.nth 2) (hg9.nth 3)) rfl ?_
    rintro _ rfl
    refine YO rfl rfl rfl rfl rfl (by exact wrap_u32 _) rfl ?_;refine XC rfl rfl rfl rfl F.arr154 jR jJ rfl ?_;refine WQ rfl rfl rfl jB F.lay152 (TK _ jJ) rfl ?_;refine YO rfl rfl rfl rfl rfl (by exact wrap_u32 _) rfl ?_;refine Zi F.foff209_1 ?_;refine Zy F.lay152 ?_;refine YO rfl rfl rfl rfl rfl (by exact wrap_u32 _) rfl ?_
    iterate 2 refine Stp ?_
    refine Ys rfl rfl rfl rfl F.elem204 jR jC yB rfl ?_;refine Xm rfl rfl rfl jE (by exact Xv jN) F.lay152 rfl rfl rfl ?_;refine YO rfl rfl rfl rfl rfl (by exact wrap_u32 _) rfl ?_
    rw [round_sum,addC_is jC]
    iterate 3 refine Stp ?_
    refine Yg (l:=[0,1,2,3,4,5,6,7,8,9,10,11]) #[0,0,2,0,8,24,0,64,0,256,1023,2047] _ rfl jI jI St.drawn (fun _ h=>h) ?_;refine Yk ?_;refine XC rfl rfl rfl rfl F.arr154 jR jJ rfl ?_;refine WQ rfl rfl rfl jB F.lay152 (TK _ jJ) rfl ?_;refine XC rfl rfl rfl rfl F.arr154 jR jJ rfl ?_;refine WQ rfl rfl rfl jB F.lay152 (TK _ jJ) rfl ?_;refine X_fs rfl rfl F.ok152 rfl (Rotl_ok _ ((Vx wl g k).nth 1) 30 (hg9.nth 1) jJ) rfl ?_
    rintro _ rfl
    refine XC rfl rfl rfl rfl F.arr154 jR jJ rfl ?_;refine WQ rfl rfl rfl jB F.lay152 (TK _ jJ) rfl ?_;refine XC rfl rfl rfl rfl F.arr154 jR jJ rfl ?_;refine WQ rfl rfl rfl jB F.lay152 (TK _ jJ) rfl ?_;refine X_buildC (v:=aggV [TT (Td k (Vx wl g k) (wl[k]'jC))]) rfl rfl (fun a ha=>by simp [show a.eval (.tmp 56)=.int .u32 (((Td k (Vx wl g k) (wl[k]'jC)).a:Nat):Int) from ha.ev rfl,show a.eval (.tmp 58)=.int .u32 (((Td k (Vx wl g k) (wl[k]'jC)).b:Nat):Int) from ha.ev rfl,show a.eval (.tmp 61)=.int .u32 (((Td k (Vx wl g k) (wl[k]'jC)).c:Nat):Int) from ha.ev rfl,show a.eval (.tmp 63)=.int .u32 (((Td k (Vx wl g k) (wl[k]'jC)).d:Nat):Int) from ha.ev rfl,show a.eval (.tmp 65)=.int .u32 (((Td k (Vx wl g k) (wl[k]'jC)).e:Nat):Int) from ha.ev rfl]) (F.bst (((Td k (Vx wl g k) (wl[k]'jC)).a:Nat):Int) (((Td k (Vx wl g k) (wl[k]'jC)).b:Nat):Int) (((Td k (Vx wl g k) (wl[k]'jC)).c:Nat):Int) (((Td k (Vx wl g k) (wl[k]'jC)).d:Nat):Int) (((Td k (Vx wl g k) (wl[k]'jC)).e:Nat):Int)) rfl ?_
    rw [← behind_succ (V:=wl) (h:=g) (t:=k) jC]
    refine Ul rfl rfl rfl rfl jG zY jH F.lay154 rfl rfl ?_
    iterate 4 refine Stp ?_
    refine YO rfl rfl rfl rfl rfl yA rfl ?_
    iterate 2 refine Stp ?_
    refine Xa (a':=[(25,_)]) (k+1) ([(b4,rowO [TT (Vx wl g (k+1))] 154)]) (.cons (k:=25) rfl (.cons (k:=9) rfl (.cons (k:=8) rfl (.cons (k:=6) rfl (.cons (k:=5) rfl (.cons (k:=4) rfl (.cons (k:=2) rfl (.nil)))))))) jP (fun w hw=>by first|exact hw|exact hw.c) ?_ ?_
    ·exact ⟨rfl,rfl,by omega,rfl⟩
    ·omega
   ·iterate 8 refine Stp ?_
    obtain rfl:k=80:=by omega
    iterate 4 refine Stp ?_
    refine Y_pk [68,8,5,4,2] ?_;refine Wt (Hin:=[(b1,rowO [TT (g)] 154)]) (.succ .zero) jA (fun (i:Nat) M3 h1 z=>M3=M2∧z=[(68,.int .i64 (i:Int))]∧i≤5∧h1=[(b1,rowO [TT (sumTo g (Vx wl g 80) i)] 154)]) (fun i=>5-i) (0) (⟨rfl,rfl,by omega,rfl⟩) ?_
    rintro i M3 h1 z hm3 ⟨hM3,rfl,hi,rfl⟩
    subst hM3
    iterate 6 refine Stp ?_
    refine ZW rfl (cT fun hc8=>?_) (cF fun hc8=>?_)
    ·iterate 10 refine Stp ?_
     refine Yg (l:=[0,1,2,3,4,5,6,7,8]) #[0,1,3,0,8,24,63,127,255] _ rfl jI jI St.drawn (fun _ h=>h) ?_;refine Yk ?_;refine XC rfl rfl rfl rfl F.arr154 jR jC rfl ?_;refine WQ rfl rfl rfl jB F.lay152 (TK _ jC) rfl ?_
     rw [sumTo_at jC]
     refine Yk ?_;refine XC rfl rfl rfl rfl F.arr154 jR jC rfl ?_;refine WQ rfl rfl rfl jB F.lay152 (TK _ jC) rfl ?_;refine YO rfl rfl rfl rfl rfl (by exact wrap_u32 _) rfl ?_
     rw [add_sum]
     refine XC rfl rfl rfl rfl F.arr154 jR jC rfl ?_;refine X_store_cell rfl rfl rfl rfl rfl rfl jH F.lay152 (arr_len (f:=stV (sumTo g (Vx wl g 80) i)) jC) (arr_set jC) ?_
     rw [sumTo_set jC]
     iterate 4 refine Stp ?_
     refine YO rfl rfl rfl rfl rfl yA rfl ?_
     iterate 2 refine Stp ?_
     refine Xa (a':=[(68,_)]) (i+1) ([(b1,rowO [TT (sumTo g (Vx wl g 80) (i+1))] 154)]) (.cons (k:=68) rfl (.cons (k:=8) rfl (.cons (k:=5) rfl (.cons (k:=4) rfl (.cons (k:=2) rfl (.nil)))))) jP (fun w hw=>by first|exact hw|exact hw.c) ?_ ?_
     ·exact ⟨rfl,rfl,by omega,rfl⟩
     ·omega
    ·iterate 7 refine Stp ?_
     refine Zy F.lay154 ?_;refine Ul rfl rfl rfl rfl jG zY jH F.lay154 rfl rfl ?_
     iterate 4 refine Stp ?_
     refine ZV (.inr rfl) (.cell rfl jB F.lay154 rfl rfl (.tmp rfl .nil)) (fun w hw=>?_)
     obtain rfl:i=5:=by omega
     refine ⟨_,M3,rfl,jE,hw.c,?_⟩
     subst hwl
     rw [← stepN_is (by rw [Vm,hs])]
     rfl
end Go.Proofs.YtglnjnacodgmaaaGreatDoor.K
namespace Go.Proofs
open Go.Shelf
def Tryz.repL_ren:Go.Shelf.Ren:=⟨fun|105=>149|212=>186|99=>187|165=>188|166=>189|170=>190|169=>191|263=>213|264=>214|206=>215|240=>216|241=>217|276=>226|277=>227|n=>n,fun|9=>9|3=>3|4=>4|20=>20|0=>0|46=>136|109=>245|5=>5|72=>250|76=>253|51=>152|146=>276|53=>42|148=>278|70=>248|37=>202|75=>252|127=>280|164=>290|80=>255|n=>n,fun|n=>n⟩
theorem Tryz.repL:Go.Proofs.Lays.n105 Tryz.prog Tryz.repL_ren:={
  mixed:=by kernel_rfl
  f99:=Tryz.func187.trans (congrArg some (by kernel_rfl))
  f105:=Tryz.func149.trans (congrArg some (by kernel_rfl))
  f165:=Tryz.func188.trans (congrArg some (by kernel_rfl))
  f166:=Tryz.func189.trans (congrArg some (by kernel_rfl))
  f169:=Tryz.func191.trans (congrArg some (by kernel_rfl))
  f170:=Tryz.func190.trans (congrArg some (by kernel_rfl))
  f206:=Tryz.func215.trans (congrArg some (by kernel_rfl))
  f212:=Tryz.func186.trans (congrArg some (by kernel_rfl))
  f240:=Tryz.func216.trans (congrArg some (by kernel_rfl))
  f241:=Tryz.func217.trans (congrArg some (by kernel_rfl))
  f263:=Tryz.func213.trans (congrArg some (by kernel_rfl))
  f264:=Tryz.func214.trans (congrArg some (by kernel_rfl))
  f276:=Tryz.func226.trans (congrArg some (by kernel_rfl))
  f277:=Tryz.func227.trans (congrArg some (by kernel_rfl))
  t0:=Tryz.underlying0
  a0:=Tryz.isAgg0
  z0:=Tryz.sizeOf0
  v0:=Tryz.zeroValue0
  t3:=Tryz.underlying3
  a3:=Tryz.isAgg3
  z3:=Tryz.sizeOf3
  v3:=Tryz.zeroValue3
  t4:=Tryz.underlying4
  a4:=Tryz.isAgg4
  z4:=Tryz.sizeOf4
  v4:=Tryz.zeroValue4
  t5:=Tryz.underlying5
  a5:=Tryz.isAgg5
  z5:=Tryz.sizeOf5
  v5:=Tryz.zeroValue5
  t9:=Tryz.underlying9
  a9:=Tryz.isAgg9
  z9:=Tryz.sizeOf9
  v9:=Tryz.zeroValue9
  t20:=Tryz.underlying20
  a20:=Tryz.isAgg20
  z20:=Tryz.sizeOf20
  v20:=Tryz.zeroValue20
  t37:=Tryz.underlying202
  a37:=Tryz.isAgg202
  z37:=Tryz.sizeOf202
  v37:=Tryz.zeroValue202
  t46:=Tryz.underlying136
  a46:=Tryz.isAgg136
  z46:=Tryz.sizeOf136
  v46:=Tryz.zeroValue136
  t51:=Tryz.underlying152
  a51:=Tryz.isAgg152
  z51:=Tryz.sizeOf152
  v51:=Tryz.zeroValue152
  t53:=Tryz.underlying42
  a53:=Tryz.isAgg42
  z53:=Tryz.sizeOf42
  v53:=Tryz.zeroValue42
  t70:=Tryz.underlying248
  a70:=Tryz.isAgg248
  z70:=Tryz.sizeOf248
  v70:=Tryz.zeroValue248
  t72:=Tryz.underlying250
  a72:=Tryz.isAgg250
  z72:=Tryz.sizeOf250
  v72:=Tryz.zeroValue250
  t75:=Tryz.underlying252
  a75:=Tryz.isAgg252
  z75:=Tryz.sizeOf252
  v75:=Tryz.zeroValue252
  t76:=Tryz.underlying253
  a76:=Tryz.isAgg253
  z76:=Tryz.sizeOf253
  v76:=Tryz.zeroValue253
  t109:=Tryz.underlying245
  a109:=Tryz.isAgg245
  z109:=Tryz.sizeOf245
  v109:=Tryz.zeroValue245
  t127:=Tryz.underlying280
  a127:=Tryz.isAgg280
  z127:=Tryz.sizeOf280
  v127:=Tryz.zeroValue280
  t146:=Tryz.underlying276
  a146:=Tryz.isAgg276
  z146:=Tryz.sizeOf276
  v146:=Tryz.zeroValue276
  t148:=Tryz.underlying278
  a148:=Tryz.isAgg278
  z148:=Tryz.sizeOf278
  v148:=Tryz.zeroValue278
  t164:=Tryz.underlying290
  a164:=Tryz.isAgg290
  z164:=Tryz.sizeOf290
  v164:=Tryz.zeroValue290 }
end Go.Proofs
namespace Go.Esp
open Go.Proofs Go.Shelf Go.RowKit Go.Lib
theorem St.below {M:Mem} {H:Hp} {w w':World} (hM:M.dr=0) (h:St M H w) (hb:RowKit.Below w.heap.size w w'):St M H w':=by
  have hk:∀ b o,w.heap[b]?=some o→w'.heap[b]?=some o:=fun b o hbo=>by
    rw [hb.block b (Array.getElem?_eq_some_iff.1 hbo).1];exact hbo
  exact ⟨fun b o hm=>hk b o (h.mem b o hm),fun b o hm=>hk b o (h.own b o hm),h.sep,h.nodup,hb.os.trans h.io.1,hb.tape.trans h.io.2.1,hb.output.trans h.io.2.2.1,by rw [hM];exact Nat.zero_le _⟩
theorem repExtra:Builder.Extra Tryz.prog Tryz.repL_ren:={
  sizeBuilder:=by kernel_rfl
  liesBuilder:=by kernel_rfl
  t5:=Tryz.repL.t5
  a5:=Tryz.repL.a5
  z5:=Tryz.repL.z5
  v5:=Tryz.repL.v5
  infoByte:=by kernel_rfl
  cellsByte:=by kernel_rfl
  sizeByte:=by kernel_rfl
  neB5:=by decide }
theorem repeatL_one (b:UInt8):∀ c,repeatL [b] c=List.replicate c b
  | 0=>rfl
  | c+1=>by rw [List.replicate_succ,← repeatL_one b c];rfl
theorem RepS_ok (M:Mem) (s:ByteArray) (c:Nat) (hM:M.dr=0) (hc:c≤9223372036854775807) (hl:s.size * c≤140737488355328) :
    Fs Tryz.prog (Tryz.repL_ren.f 105) [.string s,.int .i64 (c:Int)] M (fun v=>v=.string ⟨(repeatL s.data.toList c).toArray⟩):=fun H w hw =>
  (Any.strings_Repeat Tryz.repL repExtra s c w hc hl).mono fun e w' ⟨he,hb⟩=>⟨_,he,St.below hM hw hb,rfl⟩
end Go.Esp
namespace Go.Esp
open Go.Lib Go.Proofs
theorem natsOf_app (a b:ByteArray):XY (a++b)=XY a++XY b:=by
  unfold XY;rw [ByteArray.data_append,Array.toList_append,List.map_append]
theorem natsOf_rep (c:Nat):XY ⟨(repeatL (⟨#[0]⟩:ByteArray).data.toList c).toArray⟩=List.replicate c 0:=by
  show (repeatL [0] c).map _=_
  rw [repeatL_one,List.map_replicate];rfl
theorem rep_size (c:Nat):(⟨(repeatL (⟨#[0]⟩:ByteArray).data.toList c).toArray⟩:ByteArray).size=c:=by
  rw [← Vm,natsOf_rep,List.length_replicate]
theorem natsOf_str {l:List Nat} (h:∀ n∈l,n<256):XY (strOfNums (l.map fun n:Nat=>(n:Int)))=l:=by
  unfold XY
  rw [strOfNums_data,List.map_map,List.map_map]
  refine (List.map_congr_left (g:=id) fun n hn=>?_).trans (List.map_id l)
  have:=h n hn
  simp [UInt8.toNat_ofNat',Nat.mod_eq_of_lt this]
def tailN (n:Nat):List Nat:=(List.range 8).map fun j=>n / 256 ^ (7-j) % 256
def rowsT (n i:Nat):List Nat:=List.replicate (8-i) 0++(tailN n).drop (8-i)
theorem rowsT_len (n i:Nat) (h:i≤8):(rowsT n i).length=8:=by simp [rowsT,tailN] <;> omega
theorem rowsT_set {n i:Nat} (h:i<8):(rowsT n i).set (7-i) (n / 256 ^ i % 256)=rowsT n (i+1):=by
  match i,h with
  | 0,_=>rfl
  | 1,_=>rfl
  | 2,_=>rfl
  | 3,_=>rfl
  | 4,_=>rfl
  | 5,_=>rfl
  | 6,_=>rfl
  | 7,_=>rfl
theorem rowsT_all (n:Nat):rowsT n 8=tailN n:=rfl
theorem tailN_lt {n:Nat}:∀ b∈tailN n,b<256:=fun b hb=>by
  obtain ⟨j,-,rfl⟩:=List.mem_map.1 hb
  exact Nat.mod_lt _ jJ
theorem byte_of (n i:Nat):w8 ((n:Int) / 2 ^ (8 * i))=((n / 256 ^ i % 256:Nat):Int):=by
  rw [show (2:Int) ^ (8 * i)=((256 ^ i:Nat):Int) by rw [Int.pow_mul];simp]
  unfold w8
  rw [← Int.natCast_ediv];omega
theorem pad_is (s:ByteArray):XY (((s++⟨#[128]⟩)++⟨(repeatL (⟨#[0]⟩:ByteArray).data.toList ((119-s.size % 64) % 64)).toArray⟩)++strOfNums ((tailN (8 * s.size)).map fun n:Nat=>(n:Int)))=padN (XY s):=by
  rw [natsOf_app,natsOf_app,natsOf_app,natsOf_rep,natsOf_str tailN_lt]
  unfold padN
  rw [Vm]
  show ((XY s++[128])++_)++_=_
  simp [tailN]
end Go.Esp
namespace Go.Proofs.YtglnjnacodgmaaaGreatDoor.K
open Go.Esp
theorem F.bst0 (w:World):(Instr.build 154 #[(0,.int .u32 1732584193),(1,.int .u32 4023233417),(2,.int .u32 2562383102),(3,.int .u32 271733878),(4,.int .u32 3285377520)]).run Tryz.prog w=.ok (aggV [TT start5]) w:=by kernel_rfl
theorem F.ok149:okFn Tryz.prog 149=true:=by kernel_rfl
theorem Start_ok (M:Mem):Fs Tryz.prog 92 [] M (fun v=>v=aggV ([TT start5])):=by
  refine Xe Tryz.func92 rfl Tryz.ntmps92 rfl ?_;intro H
  iterate 2 refine Stp ?_
  refine Yz F.zero154 ?_;intro b1
  iterate 4 refine Stp ?_
  refine X_buildC rfl rfl (fun a ha=>by simp [show a.eval (.const (.int .u32 1732584193))=.int .u32 1732584193 from ha.ev rfl,show a.eval (.const (.int .u32 4023233417))=.int .u32 4023233417 from ha.ev rfl,show a.eval (.const (.int .u32 2562383102))=.int .u32 2562383102 from ha.ev rfl,show a.eval (.const (.int .u32 271733878))=.int .u32 271733878 from ha.ev rfl,show a.eval (.const (.int .u32 3285377520))=.int .u32 3285377520 from ha.ev rfl]) (F.bst0) rfl ?_;refine Ul rfl rfl rfl rfl jG zY jH F.lay154 rfl rfl ?_
  iterate 3 refine Stp ?_
  refine ZV (.inr rfl) (.cell rfl jB F.lay154 rfl rfl .nil) (fun w hw=>?_)
  refine ⟨_,rfl,(hw.c),?_⟩
  clear hw
  rfl
theorem Pad_ok (M:Mem) (s:ByteArray) (hs:s.size≤4096) (hM:M.dr=0):Fs Tryz.prog 91 [.string s] M (fun v=>∃ p:ByteArray,v=.tuple #[.string p,.int .i64 0]∧XY p=padN (XY s)):=by
  refine Xe Tryz.func91 rfl Tryz.ntmps91 rfl ?_;intro H
  iterate 10 refine Stp ?_
  refine Y_len_str Tryz.underlying9 ?_
  iterate 3 refine Stp ?_
  refine ZW rfl (cT fun hc1=>?_) (cF fun hc1=>?_)
  ·(exfalso;omega)
  ·iterate 5 refine Stp ?_
   refine Y_len_str Tryz.underlying9 ?_;refine X_rem rfl rfl rfl rfl jJ yR rfl ?_;refine YO rfl rfl rfl rfl rfl yA rfl ?_;refine X_rem rfl rfl rfl rfl jJ yR rfl ?_
   rw [show (119-(s.size:Int) % 64) % 64=((((119-s.size % 64) % 64):Nat):Int) by omega]
   iterate 5 refine Stp ?_
   refine X_makeSliceO (k:=8) (zr:=u8R 0) rfl rfl rfl rfl F.elem202 F.zero5 rfl rfl rfl jJ jJ rfl ?_;intro b2 hs1 ho1
   iterate 7 refine Stp ?_
   refine YA F.elem202 ?_
   iterate 4 refine Stp ?_
   refine Y_pk [18,17,5,4,3,2,0] ?_;refine Wt (Hin:=hs1) (.succ .zero) jA (fun (i:Nat) M1 h1 z=>M1=M∧z=[(18,.int .i64 (i:Int))]∧i≤8∧OSl 5 1 (.slice (some ⟨b2,0,none⟩) 8 8) h1 ((rowsT (8 * s.size) (i)).map u8R)) (fun i=>8-i) (0) (⟨rfl,rfl,by omega,ho1⟩) ?_
   rintro i M1 h1 z hm1 ⟨hM1,rfl,hi,ho⟩
   subst hM1
   iterate 6 refine Stp ?_
   refine ZW rfl (cT fun hc2=>?_) (cF fun hc2=>?_)
   ·iterate 13 refine Stp ?_
    refine YO rfl rfl rfl rfl rfl yA rfl ?_
    rw [show (7:Int)-(i:Int)=((7-i:Nat):Int) by omega]
    refine Yk ?_;refine Y_len_str Tryz.underlying9 ?_;refine YO rfl rfl rfl rfl rfl yA rfl ?_
    rw [show (8:Int) * (s.size:Int)=((8 * s.size:Nat):Int) by omega]
    refine Wz rfl rfl rfl Tryz.underlying3 Tryz.underlying42 yE rfl ?_;refine Yk ?_;refine YO rfl rfl rfl rfl rfl yA rfl ?_
    rw [show (8:Int) * (i:Int)=((8 * i:Nat):Int) by omega]
    refine Vt rfl rfl rfl rfl jC (VY (8 * i) (by show 8 * i≤64;omega)) rfl rfl ?_;refine Wz rfl rfl rfl Tryz.underlying42 Tryz.underlying5 (by exact wrap_u8 _) rfl ?_
    rw [byte_of]
    refine Ys rfl rfl rfl rfl F.elem202 jR jC zA rfl ?_
    refine UJ (b:=b2) (j:=7-i) rfl rfl rfl rfl jG (Xw rfl Xx) F.lay5 rfl rfl ho jA (by rw [List.length_map,rowsT_len _ _ hi];omega) ?_;intro hs2 ho2
    replace ho2:OSl 5 1 (.slice (some ⟨b2,0,none⟩) 8 8) hs2 ((rowsT (8 * s.size) (i+1)).map u8R):=by rw [← rowsT_set jC,List.map_set];exact ho2.aZ (by simp [rowsT_len _ _ hi])
    iterate 4 refine Stp ?_
    refine YO rfl rfl rfl rfl rfl yA rfl ?_
    iterate 2 refine Stp ?_
    refine Xa (a':=[(18,_)]) (i+1) (hs2) (.cons (k:=18) rfl (.cons (k:=17) rfl (.cons (k:=5) rfl (.cons (k:=4) rfl (.cons (k:=3) rfl (.cons (k:=2) rfl (.cons (k:=0) rfl (.nil)))))))) jP (fun w hw=>by first|exact hw|exact hw.c) ?_ ?_
    ·exact ⟨rfl,rfl,by omega,ho2⟩
    ·omega
   ·iterate 6 refine Stp ?_
    refine Yg (l:=[0,1,2,3,4,5,6,7,8,9]) #[0,1,0,4,15,0,32,127,255,511] _ rfl jI jI St.drawn (fun _ h=>h) ?_
    obtain rfl:i=8:=by omega
    rw [rowsT_all] at ho
    refine Yk ?_;refine X_cat rfl rfl rfl rfl (by show s.size+1≤_;omega) rfl rfl ?_;refine Yk ?_;refine X_fs rfl rfl F.ok149 rfl (RepS_ok _ ⟨#[0]⟩ ((119-s.size % 64) % 64) hM jC (by show 1 * _≤_;omega)) rfl ?_
    rintro _ rfl
    refine X_cat rfl rfl rfl rfl (by rw [rep_size,ByteArray.size_append];show s.size+1+_≤_;omega) rfl rfl ?_;refine Yk ?_;refine X_convS (l:=tailN (8 * s.size)) rfl rfl rfl (OSl.srcAll ho jA (fun u hu=>by rw [u8_cells] at hu;obtain ⟨z,-,rfl⟩:=List.mem_map.1 hu;rfl)) F.elem202 Tryz.underlying5 Tryz.underlying9 rfl rfl ?_;refine X_cat rfl rfl rfl rfl (by (rw [ByteArray.size_append,rep_size,ByteArray.size_append,strOfNums_size,List.length_map];show s.size+1+_+8≤_;omega)) rfl rfl ?_
    iterate 5 refine Stp ?_
    refine ZV (.inr rfl) (.tmp rfl (.tmp rfl .nil)) (fun w hw=>?_)
    exact ⟨_,rfl,hw.c,_,rfl,pad_is s⟩
end Go.Proofs.YtglnjnacodgmaaaGreatDoor.K
namespace Go.Esp
def Ss (h:St5):Plc:=BitVec.ofNat 160 ((((h.a * 4294967296+h.b) * 4294967296+h.c) * 4294967296+h.d) * 4294967296+h.e)
def sumP (B:List Nat):Plc:=Ss (blocksN (B.length / 64+2) (padN B) start5)
theorem stPlc_at {h:St5} (hh:h.ok) {i:Nat} (hi:i<20):idB (Ss h) i=h.nth (i / 4) / 2 ^ (24-8 * (i % 4)) % 256:=by
  obtain ⟨a,b,c,d,e⟩:=h
  obtain ⟨h1,h2,h3,h4,h5⟩:=hh
  simp only at h1 h2 h3 h4 h5
  have e1:(Ss ⟨a,b,c,d,e⟩).toNat=(((a * 4294967296+b) * 4294967296+c) * 4294967296+d) * 4294967296+e:=by
    unfold Ss
    rw [BitVec.toNat_ofNat]
    exact Nat.mod_eq_of_lt (by show (((a * 4294967296+b) * 4294967296+c) * 4294967296+d) * 4294967296+e<2 ^ 160;omega)
  unfold idB
  rw [e1]
  match i,hi with
  | 0,_=>show _ / 256 ^ 19 % 256=a / 2 ^ 24 % 256;omega
  | 1,_=>show _ / 256 ^ 18 % 256=a / 2 ^ 16 % 256;omega
  | 2,_=>show _ / 256 ^ 17 % 256=a / 2 ^ 8 % 256;omega
  | 3,_=>show _ / 256 ^ 16 % 256=a / 2 ^ 0 % 256;omega
  | 4,_=>show _ / 256 ^ 15 % 256=b / 2 ^ 24 % 256;omega
  | 5,_=>show _ / 256 ^ 14 % 256=b / 2 ^ 16 % 256;omega
  | 6,_=>show _ / 256 ^ 13 % 256=b / 2 ^ 8 % 256;omega
  | 7,_=>show _ / 256 ^ 12 % 256=b / 2 ^ 0 % 256;omega
  | 8,_=>show _ / 256 ^ 11 % 256=c / 2 ^ 24 % 256;omega
  | 9,_=>show _ / 256 ^ 10 % 256=c / 2 ^ 16 % 256;omega
  | 10,_=>show _ / 256 ^ 9 % 256=c / 2 ^ 8 % 256;omega
  | 11,_=>show _ / 256 ^ 8 % 256=c / 2 ^ 0 % 256;omega
  | 12,_=>show _ / 256 ^ 7 % 256=d / 2 ^ 24 % 256;omega
  | 13,_=>show _ / 256 ^ 6 % 256=d / 2 ^ 16 % 256;omega
  | 14,_=>show _ / 256 ^ 5 % 256=d / 2 ^ 8 % 256;omega
  | 15,_=>show _ / 256 ^ 4 % 256=d / 2 ^ 0 % 256;omega
  | 16,_=>show _ / 256 ^ 3 % 256=e / 2 ^ 24 % 256;omega
  | 17,_=>show _ / 256 ^ 2 % 256=e / 2 ^ 16 % 256;omega
  | 18,_=>show _ / 256 ^ 1 % 256=e / 2 ^ 8 % 256;omega
  | 19,_=>show _ / 256 ^ 0 % 256=e / 2 ^ 0 % 256;omega
  | n+20,h=>omega
theorem byte_at {h:St5} (hh:h.ok) {i:Nat} (hi:i<20):w8 (((h.nth (i / 4):Nat):Int) / 2 ^ (24-8 * (i % 4)))=((idB (Ss h) i:Nat):Int):=by
  rw [stPlc_at hh hi]
  generalize 24-8 * (i % 4)=m
  rw [show ((2:Int) ^ m)=((2 ^ m:Nat):Int) by simp]
  unfold w8
  rw [← Int.natCast_ediv]
  generalize h.nth (i / 4) / 2 ^ m=x
  omega
theorem blocksN_nil (n:Nat) (h:St5):blocksN n [] h=h:=by cases n <;> rfl
theorem blocksN_step {n:Nat} {l:List Nat} {h:St5} (hl:l≠[]):blocksN (n+1) l h=blocksN n (l.drop 64) (stepN h (l.take 64)):=by
  cases l with
  | nil=>exact absurd rfl hl
  | cons x l=>rfl
theorem padN_len (B:List Nat):(padN B).length=B.length+9+(119-B.length % 64) % 64:=by
  unfold padN;simp;omega
theorem padN_blocks (B:List Nat):∃ m,(padN B).length=64 * m∧m≤B.length / 64+2:=⟨(padN B).length / 64,by rw [padN_len];omega,by rw [padN_len];omega⟩
theorem natsOf_ext (p:ByteArray) (i j:Nat):XY (p.extract i j)=((XY p).drop i).take (j-i):=by
  unfold XY
  rw [ByteArray.data_extract,Array.toList_extract,List.map_drop.symm,List.map_take.symm]
end Go.Esp
namespace Go.Proofs.YtglnjnacodgmaaaGreatDoor.K
open Go.Esp
theorem F.ok91:okFn Tryz.prog 91=true:=by kernel_rfl
theorem F.ok92:okFn Tryz.prog 92=true:=by kernel_rfl
theorem F.ok93:okFn Tryz.prog 93=true:=by kernel_rfl
theorem Sum_ok (M:Mem) (s:ByteArray) (hs:s.size≤4096) (hM:M.dr=0):Esp.Fn Tryz.prog 52 [.string s] M (fun M' v=>v=.tuple #[aggV [Yb (sumP (XY s))],.int .i64 0]):=by
  refine WF Tryz.func52 rfl Tryz.ntmps52 rfl ?_;intro H
  iterate 2 refine Stp ?_
  refine Yz F.zero36 ?_;intro b1
  iterate 6 refine Stp ?_
  refine X_fs rfl rfl F.ok91 rfl (Pad_ok _ s hs hM) rfl ?_
  rintro _ ⟨p,rfl,hp⟩
  obtain ⟨m,hm9,hmf⟩:=padN_blocks (XY s)
  have hps:p.size=64 * m:=by rw [← Vm,hp,hm9]
  obtain ⟨f,hf⟩:∃ f,f=(XY s).length / 64+2:=⟨_,rfl⟩
  obtain ⟨R9,hR⟩:∃ R9,blocksN (f-0) (XY p) start5=R9:=⟨_,rfl⟩
  iterate 14 refine Stp ?_
  refine ZW rfl (eT fun hc2=>?_) (eF fun hc2=>?_)
  ·simp only [Zs.eta,ZO.eta,ZJ.eta,ZF.eta,Ym.eta,Yv.eta,Yy.eta,Yq.eta,ZN.eta,YF.eta,ZU.eta] at hc2
   (exfalso;simp [eqX] at hc2;done)
  ·simp only [Zs.eta,ZO.eta,ZJ.eta,ZF.eta,Ym.eta,Yv.eta,Yy.eta,Yq.eta,ZN.eta,YF.eta,ZU.eta] at hc2
   iterate 4 refine Stp ?_
   refine X_fs rfl rfl F.ok92 rfl (Start_ok _) rfl ?_
   rintro _ rfl
   refine Yz F.zero154 ?_;intro b3
   refine Ul rfl rfl rfl rfl jG zY jH F.lay154 rfl rfl ?_
   iterate 4 refine Stp ?_
   refine Y_pk [4,6,3,2] ?_;refine Wt (Hin:=[(b3,rowO [TT (start5)] 154)]) (.succ .zero) jA (fun (k:Nat) M2 h1 z=>∃ (q:ByteArray) (g:St5),z=[(4,.string q)]∧k≤m∧q.size=64 * (m-k)∧g.ok∧blocksN (f-k) (XY q) g=R9∧h1=[(b3,rowO [TT (g)] 154)]) (fun k=>m-k) (0) (⟨p,start5,rfl,by omega,by omega,start5_ok,hR,rfl⟩) ?_
   rintro k M2 h1 z hm2 ⟨q,g,rfl,hk,hq,hg,hb,rfl⟩
   iterate 4 refine Stp ?_
   refine Y_str ?_
   iterate 2 refine Stp ?_
   refine ZW rfl (eT fun hc4=>?_) (eF fun hc4=>?_)
   ·iterate 4 refine Stp ?_
    refine Yg (l:=[0,1,2,3,4,5,6,7]) #[0,0,2,7,15,31,31,63] _ rfl jI jI St.drawn (fun _ h=>h) ?_
    have hz9:q.size≠0:=fun h9=>absurd (show q=⟨#[]⟩ from ByteArray.ext (Array.eq_empty_of_size_eq_zero h9)) (by simp_all)
    refine Zy F.lay154 ?_;refine Yk ?_;refine X_slice_str (olo:=none) (ohi:=some 64) rfl rfl rfl .none (.some rfl rfl) Tryz.underlying9 (by show 64≤q.size;omega) (Nat.zero_le _) (show _=q.extract 0 64 from rfl) rfl ?_;refine X_fn rfl rfl F.ok93 rfl (Step_ok _ g (q.extract 0 64) hg (by rw [← Vm,natsOf_ext];simp [Vm];omega)) rfl ?_
    rintro _ M4 hm4 rfl
    iterate 3 refine Stp ?_
    refine Ul rfl rfl rfl rfl jG zY jH F.lay154 rfl rfl ?_
    iterate 5 refine Stp ?_
    refine X_slice_str (olo:=some 64) (ohi:=none) rfl rfl rfl (.some rfl rfl) .none Tryz.underlying9 (Nat.le_refl _) (by show 64≤q.size;omega) (show _=q.extract 64 q.size from rfl) rfl ?_
    iterate 2 refine Stp ?_
    refine Xa (a':=[(4,_)]) (k+1) ([(b3,rowO [TT (stepN g (XY (q.extract 0 64)))] 154)]) (.cons (k:=4) rfl (.cons (k:=6) rfl (.cons (k:=3) rfl (.cons (k:=2) rfl (.nil))))) (hm2.trans hm4) (fun w hw=>by first|exact hw|exact hw.c) ?_ ?_
    ·refine ⟨q.extract 64 q.size,stepN g (XY (q.extract 0 64)),rfl,by omega,by rw [← Vm,natsOf_ext];simp [Vm];omega,stepN_ok,?_,rfl⟩
     rw [← hb,show f-k=(f-(k+1))+1 by omega,blocksN_step (by intro h9;have:=Vm q;rw [h9] at this;simp at this;omega),natsOf_ext,natsOf_ext]
     congr 1
     exact List.take_of_length_le (by simp [Vm])
    ·omega
   ·iterate 7 refine Stp ?_
    refine Yz F.zero36 ?_;intro b5
    iterate 9 refine Stp ?_
    refine Y_pk [30,7,6,3,2] ?_;refine Wt (Hin:=[(b5,rowO [Yb 0] 36)]) (.succ .zero) jA (fun (i:Nat) M3 h1 z=>M3=M2∧z=[(30,.int .i64 (i:Int))]∧i≤20∧h1=[(b5,rowO [.arr 20 (frontV (Ss g) 0 i)] 36)]) (fun i=>20-i) (0) (⟨rfl,rfl,by omega,by rw [frontV_none];rfl⟩) ?_
    rintro i M3 h1 z hm3 ⟨hM3,rfl,hi,rfl⟩
    subst hM3
    iterate 6 refine Stp ?_
    refine ZW rfl (cT fun hc6=>?_) (cF fun hc6=>?_)
    ·iterate 13 refine Stp ?_
     refine X_quo rfl rfl rfl rfl jJ yU rfl ?_
     rw [show (i:Int) / 4=((i / 4:Nat):Int) by omega]
     refine XC rfl rfl rfl rfl F.arr154 jR jC rfl ?_;refine WQ rfl rfl rfl jB F.lay152 (TK _ jC) rfl ?_;refine Yk ?_;refine X_rem rfl rfl rfl rfl jJ yR rfl ?_
     rw [show (i:Int) % 4=((i % 4:Nat):Int) by omega]
     iterate 2 refine YO rfl rfl rfl rfl rfl yA rfl ?_
     rw [show (24:Int)-8 * ((i % 4:Nat):Int)=((24-8 * (i % 4):Nat):Int) by omega]
     refine Vt rfl rfl rfl rfl jC (VY (24-8 * (i % 4)) (by show _≤32;omega)) rfl rfl ?_;refine Wz rfl rfl rfl Tryz.underlying152 Tryz.underlying5 (by exact wrap_u8 _) rfl ?_;refine XC rfl rfl rfl rfl F.arr36 jR jC rfl ?_;refine X_store_cell rfl rfl rfl rfl rfl rfl jH F.lay5 (arr_len jC) (arr_set jC) ?_
     rw [frontV_step (Ss g) 0 (k:=i) jC (byte_at hg jC)]
     iterate 4 refine Stp ?_
     refine YO rfl rfl rfl rfl rfl yA rfl ?_
     iterate 2 refine Stp ?_
     refine Xa (a':=[(30,_)]) (i+1) ([(b5,rowO [.arr 20 (frontV (Ss g) 0 (i+1))] 36)]) (.cons (k:=30) rfl (.cons (k:=7) rfl (.cons (k:=6) rfl (.cons (k:=3) rfl (.cons (k:=2) rfl (.nil)))))) jP (fun w hw=>by first|exact hw|exact hw.c) ?_ ?_
     ·exact ⟨rfl,rfl,by omega,rfl⟩
     ·omega
    ·iterate 7 refine Stp ?_
     obtain rfl:i=20:=by omega
     rw [frontV_all]
     rw [show (Seg.arr 20 (idV (Ss g)))=Yb (Ss g) from rfl]
     refine Zy F.lay36 ?_;refine Ya F.lay36 ?_
     iterate 4 refine Stp ?_
     refine ZV (.inr rfl) (.cell rfl jB F.lay36 rfl rfl (.tmp rfl .nil)) (fun w hw=>?_)
     have hq0:q=⟨#[]⟩:=by simp_all
     refine ⟨_,M3,rfl,jE,hw.c,?_⟩
     have hg9:Ss g=sumP (XY s):=by
      unfold sumP;rw [← hf,← hp,show f=f-0 by omega,hR,← hb,hq0]
      show _=Ss (blocksN _ [] g)
      rw [blocksN_nil]
     rw [← hg9]
     rfl
end Go.Proofs.YtglnjnacodgmaaaGreatDoor.K
namespace Go.Proofs
open Go.Shelf
end Go.Proofs
namespace Go.Esp
open Go.Proofs Go.Shelf Go.RowKit Go.Lib
end Go.Esp
namespace Go.Proofs.YtglnjnacodgmaaaGreatDoor.K
open Go.Esp
theorem F.ok54:okFn Tryz.prog 54=true:=by kernel_rfl
def lessF (a b:Zs):Int:=if a=b then 0 else if Vl a.id b.id then -1 else 1
theorem less_ok (M:Mem) (a:Zs) (b:Zs):Fs Tryz.prog 54 [a.enc,b.enc] M (fun v=>v=Value.int .i64 (lessF a b)):=by
  obtain ⟨a_addr,a_id⟩:=a
  obtain ⟨b_addr,b_id⟩:=b
  refine Xe Tryz.func54 rfl Tryz.ntmps54 rfl ?_;intro H
  iterate 2 refine Stp ?_
  refine Xq ?_;intro b1
  refine Xq ?_;intro b2
  iterate 7 refine Stp ?_
  iterate 2 refine Zy F.lay38 ?_
  refine VE (m:=20) rfl rfl rfl rfl rfl jG jG F.lay38 F.kinds38 rfl F.guard38 jS jS rfl rfl rfl ?_;intro c3 he4
  replace he4:c3=true↔Segs.cells _=Segs.cells _:=he4
  obtain rfl:=eqD he4 (Zs.inj (x:=⟨_,_⟩) (y:=⟨_,_⟩));clear he4
  iterate 3 refine Stp ?_
  refine ZW rfl (cT fun hc5=>?_) (cF fun hc5=>?_)
  ·iterate 8 refine Stp ?_
   refine ZV (.inr rfl) (.tmp rfl .nil) (fun w hw=>?_)
   refine ⟨_,rfl,(hw.c),?_⟩
   clear hw
   refine congrArg (Value.int .i64) ?_
   unfold lessF
   simp_all
  ·iterate 2 refine Stp ?_
   refine Zi F.foff38_1 ?_;refine Zy F.lay36 ?_;refine Zi F.foff38_1 ?_;refine Zy F.lay36 ?_;refine X_fs rfl rfl F.ok95 rfl (Less_ok _ _ _) rfl ?_
   rintro _ rfl
   iterate 3 refine Stp ?_
   refine ZW rfl (cT fun hc6=>?_) (cF fun hc6=>?_)
   ·iterate 8 refine Stp ?_
    refine ZV (.inr rfl) (.tmp rfl .nil) (fun w hw=>?_)
    refine ⟨_,rfl,(hw.c),?_⟩
    clear hw
    refine congrArg (Value.int .i64) ?_
    unfold lessF
    simp_all
   ·iterate 9 refine Stp ?_
    refine ZV (.inr rfl) (.tmp rfl .nil) (fun w hw=>?_)
    refine ⟨_,rfl,(hw.c),?_⟩
    clear hw
    refine congrArg (Value.int .i64) ?_
    unfold lessF
    simp_all
theorem less_swo:Sort.SWO (ltOf lessF):=by
  have e:∀ x y:Zs,ltOf lessF x y=decide (Vl x.id y.id):=by
   intro x y;unfold ltOf lessF
   by_cases h0:x=y
   ·subst h0;simp [Vl]
   ·by_cases h:Vl x.id y.id <;> simp [h,h0]
  exact ⟨fun x=>by rw [e];simp [Vl],fun x y z h1 h2=>by rw [e] at h1 h2 ⊢;exact decide_eq_true (Nat.lt_trans (of_decide_eq_true h1) (of_decide_eq_true h2)),fun x y z h1 h2=>by rw [e] at h1 h2 ⊢;exact decide_eq_false (Nat.not_lt.2 (Nat.le_trans (Nat.not_lt.1 (of_decide_eq_false h2)) (Nat.not_lt.1 (of_decide_eq_false h1))))⟩
instance:Inhabited Zs:=⟨⟨0,0⟩⟩
theorem SortC_ok (M:Mem) (b c:Nat) (l:List Zs) (hs:Hp) (ho:OSl 38 21 (.slice (some ⟨b,0,none⟩) l.length c) hs (l.map Zs.segs)) (hl:l.length≤1000000):Fh Tryz.prog 46 [.slice (some ⟨b,0,none⟩) l.length c,.func (.func 54) #[] #[]] M hs (fun M' v Hout=>M'=M∧v=.tuple #[]∧∃ l':List Zs,l'.Perm l∧l'.Pairwise (fun x y=>¬lessF y x<0)∧OSl 38 21 (.slice (some ⟨b,0,none⟩) l.length c) Hout (l'.map Zs.segs)) :=
  sort_fh (f:=Zs.segs) (sz:=21) Tryz.sortL Tryz.isAgg38 Tryz.sizeOf38 jJ (fun x=>(Segs.cells_length _).trans (Zs.len x)) (fun x=>Zs.flat x) lessF less_swo 54 F.ok54 (fun M x y=>less_ok M x y) ho hl M
end Go.Proofs.YtglnjnacodgmaaaGreatDoor.K
namespace Go.Proofs.YtglnjnacodgmaaaGreatDoor.K
open Go.Esp
theorem F.ok51:okFn Tryz.prog 51=true:=by kernel_rfl
def OddA (z:Int):Prop:=z<0∨999<z
instance (z:Int):Decidable (OddA z):=by unfold OddA;exact inferInstance
theorem odd_ok (M:Mem) (addr:Int):Fs Tryz.prog 51 [.int .i64 addr] M (fun v=>v=Value.bool (decide (OddA addr))):=by
  refine Xe Tryz.func51 rfl Tryz.ntmps51 rfl ?_;intro H
  iterate 10 refine Stp ?_
  refine Yt 5 rfl (cT fun hc1=>?_) (cF fun hc1=>?_)
  ·iterate 7 refine Stp ?_
   refine ZV (.inr rfl) (.tmp rfl .nil) (fun w hw=>?_)
   refine ⟨_,rfl,(hw.c),?_⟩
   clear hw
   refine congrArg Value.bool ?_
   exact (decide_eq_true (by unfold OddA;omega)).symm
  ·iterate 7 refine Stp ?_
   refine ZV (.inr rfl) (.tmp rfl .nil) (fun w hw=>?_)
   refine ⟨_,rfl,(hw.c),?_⟩
   clear hw
   refine congrArg Value.bool ?_
   exact decide_eq_decide.2 (by unfold OddA;omega)
theorem IndexOdd_ok (M:Mem) (l:(Sl Int))  (hl0:SlK M (oneI .i64) 1 l):Fs Tryz.prog 82 [Sl.val l,.func (.func 51) #[] #[]] M (fun v=>∃ z:Int,v=.int .i64 z∧(0≤z↔∃ a∈l.l,OddA a)):=by
  obtain ⟨l_a,l_c,l_l⟩:=l
  have k_l:SlK M (oneI .i64) 1 ⟨l_a,l_c,l_l⟩:=hl0
  have s_l:SlM M l_a (l_l.map (oneI .i64)) 1:=k_l.h1
  have n_l:(l_l.map (oneI .i64)).length=l_l.length:=List.length_map ..
  have m_l:l_l.length≤9223372036854775807:=k_l.h2
  have c_l:l_l.length≤l_c:=k_l.h3
  refine Xe Tryz.func82 rfl Tryz.ntmps82 rfl ?_;intro H
  iterate 9 refine Stp ?_
  refine YA F.elem32 ?_
  iterate 4 refine Stp ?_
  refine Y_pk [8,7,4,0,1] ?_;refine VI (.succ .zero) (fun (k:Nat) z=>z=[(8,.int .i64 (k:Int))]∧k≤l_l.length∧(∀ j (hj:j<l_l.length),j<k→¬OddA l_l[j])) (fun k=>l_l.length-k) (0) (⟨rfl,by omega,by (intro j h2 hj;omega)⟩) ?_
  rintro k _ ⟨rfl,hk,hI⟩
  iterate 6 refine Stp ?_
  refine ZW rfl (cT fun hc1=>?_) (cF fun hc1=>?_)
  ·iterate 15 refine Stp ?_
   refine Ys rfl rfl rfl rfl F.elem32 jR jC yB rfl ?_;refine Xm rfl rfl rfl jE yC F.lay3 rfl rfl rfl ?_;refine Sy rfl rfl rfl F.ok51 rfl rfl (odd_ok M _) rfl ?_
   rintro _ rfl
   iterate 2 refine Stp ?_
   refine ZW rfl (cT fun hc2=>?_) (cF fun hc2=>?_)
   ·iterate 12 refine Stp ?_
    refine ZV (.inr rfl) (.tmp rfl .nil) (fun w hw=>?_)
    refine ⟨_,rfl,hw.c,_,rfl,?_⟩
    show _↔∃ a∈l_l,OddA a
    exact ⟨fun _=>⟨l_l[k]'jC,List.getElem_mem jC,by first|assumption|simp_all⟩,fun _=>by omega⟩
   ·iterate 4 refine Stp ?_
    refine YO rfl rfl rfl rfl rfl yA rfl ?_
    iterate 2 refine Stp ?_
    refine Vq (a':=[(8,_)]) (k+1) (.cons (k:=8) rfl (.cons (k:=7) rfl (.cons (k:=4) rfl (.cons (k:=0) rfl (.cons (k:=1) rfl (.nil)))))) (fun w hw=>by first|exact hw|exact hw.c) ?_ ?_
    ·refine ⟨rfl,by omega,?_⟩
     (intro j h2 hj;rcases Nat.lt_or_ge j k with h9|h9;exact hI j h2 h9;obtain rfl:j=k:=jC;simp_all)
    ·omega
  ·iterate 11 refine Stp ?_
   refine ZV (.inr rfl) (.tmp rfl .nil) (fun w hw=>?_)
   refine ⟨_,rfl,hw.c,_,rfl,?_⟩
   show _↔∃ a∈l_l,OddA a
   exact ⟨fun h9=>by omega,fun ⟨x9,h8,h9⟩=>by obtain ⟨j,hj,rfl⟩:=List.getElem_of_mem h8;exact absurd h9 (hI j (show j<l_l.length from hj) (by have:j<l_l.length:=hj;omega))⟩
theorem ContainsOdd_ok (M:Mem) (l:(Sl Int))  (hl0:SlK M (oneI .i64) 1 l):Fs Tryz.prog 42 [Sl.val l,.func (.func 51) #[] #[]] M (fun v=>v=.bool (decide (∃ a∈l.l,OddA a))):=by
  obtain ⟨l_a,l_c,l_l⟩:=l
  have k_l:SlK M (oneI .i64) 1 ⟨l_a,l_c,l_l⟩:=hl0
  have s_l:SlM M l_a (l_l.map (oneI .i64)) 1:=k_l.h1
  have n_l:(l_l.map (oneI .i64)).length=l_l.length:=List.length_map ..
  have m_l:l_l.length≤9223372036854775807:=k_l.h2
  have c_l:l_l.length≤l_c:=k_l.h3
  refine Xe Tryz.func42 rfl Tryz.ntmps42 rfl ?_;intro H
  iterate 9 refine Stp ?_
  refine X_fs rfl rfl F.ok82 rfl (IndexOdd_ok _ ⟨l_a,l_c,l_l⟩ k_l) rfl ?_
  rintro _ ⟨z9,rfl,hz9⟩
  iterate 5 refine Stp ?_
  refine ZV (.inr rfl) (.tmp rfl .nil) (fun w hw=>?_)
  exact ⟨_,rfl,hw.c,congrArg Value.bool (decide_eq_decide.2 hz9)⟩
end Go.Proofs.YtglnjnacodgmaaaGreatDoor.K
namespace Go.Proofs.YtglnjnacodgmaaaGreatDoor.K
open Go.Esp
theorem F.ok52:okFn Tryz.prog 52=true:=by kernel_rfl
theorem F.ok53:okFn Tryz.prog 53=true:=by kernel_rfl
def digS (a:Int):ByteArray:=⟨(Lib.decDigits a.toNat).toArray⟩
def nodeS:ByteArray:=⟨#[110,111,100,101]⟩
def peerN (a:Int):Zs:=⟨a,sumP (XY (nodeS++digS a))⟩
theorem dec_len {u:Nat} (h:u<1000):(Lib.decDigits u).length≤3:=by
  rw [Lib.decDigits];split
  ·simp
  ·rw [Lib.decDigits];split
   ·simp
   ·rw [Lib.decDigits];split
    ·simp
    ·omega
theorem digS_size {a:Int} (h:¬OddA a):(nodeS++digS a).size≤7:=by
  unfold OddA at h
  have h9:(digS a).size≤3:=by
   show (Lib.decDigits a.toNat).toArray.size≤3
   rw [List.size_toArray];exact dec_len jC
  rw [ByteArray.size_append];show 4+_≤7;omega
def Digs (M0:Mem) (l:List Int):Prop:=∀ (M:Mem),M0.le M→∀ (a:Int),a∈l→¬OddA a→Fs Tryz.prog 53 [.int .i64 a] M (fun v=>v=.string (digS a))
theorem Digs.mono {M0 M1:Mem} {l:List Int} (h:Digs M0 l) (hm:M0.le M1):Digs M1 l:=fun M hM=>h M (hm.trans hM)
def OfR (M:Mem) (l:List Int) (v:Value):Prop:=∃ (s:Sl Zs) (c:Int),v=.tuple #[s.val,.int .i64 c]∧SlK M Zs.segs 21 s ∧
  (if l.length<1∨16<l.length then s.l=[]∧c=2 else if ∃ a∈l,OddA a then s.l=[]∧c=1 else ∃ l':List Zs,l'.Perm (l.map peerN)∧l'.Pairwise (fun x y=>¬lessF y x<0)∧if Wy l' then s.l=l'∧c=0 else s.l=[]∧c=9)
theorem Of_ok (M:Mem) (l:(Sl Int)) (hl0:SlK M (oneI .i64) 1 l) (hM:M.dr=0) (hI:Digs M l.l):Esp.Fn Tryz.prog 24 [Sl.val l] M (fun M' v=>OfR M' l.l v):=by
  obtain ⟨l_a,l_c,l_l⟩:=l
  have k_l:SlK M (oneI .i64) 1 ⟨l_a,l_c,l_l⟩:=hl0
  have s_l:SlM M l_a (l_l.map (oneI .i64)) 1:=k_l.h1
  have n_l:(l_l.map (oneI .i64)).length=l_l.length:=List.length_map ..
  have m_l:l_l.length≤9223372036854775807:=k_l.h2
  have c_l:l_l.length≤l_c:=k_l.h3
  replace hI:Digs M l_l:=hI
  refine WF Tryz.func24 rfl Tryz.ntmps24 rfl ?_;intro H
  iterate 10 refine Stp ?_
  refine YA F.elem32 ?_
  iterate 2 refine Stp ?_
  refine Yt 13 rfl (cT fun hc1=>?_) (cF fun hc1=>?_)
  ·iterate 15 refine Stp ?_
   refine ZV (.inr rfl) (.tmp rfl (.tmp rfl .nil)) (fun w hw=>?_)
   refine ⟨_,M,rfl,Mem.le.refl M,hw.c,?_⟩
   show OfR _ l_l _
   refine ⟨⟨none,0,[]⟩,_,rfl,SlK.nil,?_⟩
   rw [if_pos jC]
   exact ⟨rfl,rfl⟩
  ·refine Yk ?_
   refine YA F.elem32 ?_
   iterate 4 refine Stp ?_
   refine ZW rfl (cT fun hc2=>?_) (cF fun hc2=>?_)
   ·iterate 8 refine Stp ?_
    refine ZV (.inr rfl) (.tmp rfl (.tmp rfl .nil)) (fun w hw=>?_)
    refine ⟨_,M,rfl,Mem.le.refl M,hw.c,?_⟩
    show OfR _ l_l _
    refine ⟨⟨none,0,[]⟩,_,rfl,SlK.nil,?_⟩
    rw [if_pos jC]
    exact ⟨rfl,rfl⟩
   ·iterate 12 refine Stp ?_
    refine X_fs rfl rfl F.ok42 rfl (ContainsOdd_ok _ ⟨l_a,l_c,l_l⟩ k_l) rfl ?_
    rintro _ rfl
    iterate 2 refine Stp ?_
    refine ZW rfl (cT fun hc3=>?_) (cF fun hc3=>?_)
    ·simp only [Zs.eta,ZO.eta,ZJ.eta,ZF.eta,Ym.eta,Yv.eta,Yy.eta,Yq.eta,ZN.eta,YF.eta,ZU.eta] at hc3
     iterate 8 refine Stp ?_
     refine ZV (.inr rfl) (.tmp rfl (.tmp rfl .nil)) (fun w hw=>?_)
     refine ⟨_,M,rfl,Mem.le.refl M,hw.c,?_⟩
     show OfR _ l_l _
     refine ⟨⟨none,0,[]⟩,_,rfl,SlK.nil,?_⟩
     rw [if_neg jC,if_pos jE]
     exact ⟨rfl,rfl⟩
    ·simp only [Zs.eta,ZO.eta,ZJ.eta,ZF.eta,Ym.eta,Yv.eta,Yy.eta,Yq.eta,ZN.eta,YF.eta,ZU.eta] at hc3
     iterate 4 refine Stp ?_
     have hodd:¬∃ a∈l_l,OddA a:=by assumption
     iterate 7 refine Stp ?_
     refine YA F.elem32 ?_
     iterate 4 refine Stp ?_
     refine Y_pk [23,5,22,21,3,2] ?_;refine Wt (Hin:=[]) (.succ (.succ .zero)) jA (fun (k:Nat) M1 h1 z=>∃ v,z=[(23,.int .i64 (k:Int)),(5,v)]∧k≤l_l.length∧OSl 38 21 v h1 (((l_l.take k).map peerN).map Zs.segs)) (fun k=>l_l.length-k) (0) (⟨_,rfl,by omega,OSl.nil⟩) ?_
     rintro k M1 h1 z hm1 ⟨v0,rfl,hk,ho⟩
     obtain ⟨ad0,cp0,rfl⟩:=ho.val
     have hml:(((l_l.take k).map peerN).map Zs.segs).length=k:=by simp;omega
     rw [hml] at ho ⊢
     iterate 6 refine Stp ?_
     refine ZW rfl (cT fun hc4=>?_) (cF fun hc4=>?_)
     ·iterate 6 refine Stp ?_
      refine Ys rfl rfl rfl rfl F.elem32 jR jC yB rfl ?_;refine Xm rfl rfl rfl (by exact SlM.mono jE jE) yC F.lay3 rfl rfl rfl ?_
      iterate 6 refine Stp ?_
      refine X_fs rfl rfl F.ok53 rfl (hI _ hm1 l_l[k] (List.getElem_mem jC) (fun h9=>hodd ⟨_,List.getElem_mem jC,h9⟩)) rfl ?_
      rintro _ rfl
      refine X_cat (a:=nodeS) rfl rfl rfl rfl (by have:=digS_size (show ¬OddA l_l[k] from fun h9=>hodd ⟨_,List.getElem_mem jC,h9⟩);rw [ByteArray.size_append] at this;omega) rfl rfl ?_;refine X_fn rfl rfl F.ok52 rfl (Sum_ok _ (nodeS++digS l_l[k]) (Nat.le_trans (digS_size (fun h9=>hodd ⟨_,List.getElem_mem jC,h9⟩)) jJ) (hm1.loose hM)) rfl ?_
      rintro _ M2 hm2 rfl
      iterate 3 refine Stp ?_
      refine Yz F.zero36 ?_;intro b5
      refine Ya F.lay36 ?_
      iterate 10 refine Stp ?_
      refine ZW rfl (eT fun hc6=>?_) (eF fun hc6=>?_)
      ·simp only [Zs.eta,ZO.eta,ZJ.eta,ZF.eta,Ym.eta,Yv.eta,Yy.eta,Yq.eta,ZN.eta,YF.eta,ZU.eta] at hc6
       (exfalso;simp [eqX] at hc6;done)
      ·simp only [Zs.eta,ZO.eta,ZJ.eta,ZF.eta,Ym.eta,Yv.eta,Yy.eta,Yq.eta,ZN.eta,YF.eta,ZU.eta] at hc6
       iterate 5 refine Stp ?_
       refine Zy F.lay36 ?_;refine Xo rfl rfl F.bld38 (.cons rfl jG (.cons rfl jG .nil)) rfl rfl ?_
       refine YS rfl rfl F.elem39 F.zero38 rfl rfl (.cons rfl jG .nil) rfl rfl jL rfl ?_;intro b7 hob8
       refine WT (m:=1000000) rfl rfl rfl rfl rfl F.elem39 F.zero38 zL rfl jE jA (Src.own hob8.lens jO rfl jB) jN jJ rfl ?_;intro v11 hs10 ho9;obtain ⟨adv11,cpv11,rfl⟩:=ho9.val
       iterate 5 refine Stp ?_
       refine YO rfl rfl rfl rfl rfl yA rfl ?_
       iterate 2 refine Stp ?_
       refine Xa (a':=[(23,_),(5,_)]) (k+1) (hs10) (.cons (k:=23) rfl (.cons (k:=5) rfl (.cons (k:=22) rfl (.cons (k:=21) rfl (.cons (k:=3) rfl (.cons (k:=2) rfl (.nil))))))) (hm1.trans hm2) (fun w hw=>by first|exact hw|exact hw.c) ?_ ?_
       ·refine ⟨_,rfl,by omega,?_⟩
        rw [List.take_succ_eq_append_getElem jC,List.map_append,List.map_append]
        exact ho9
       ·omega
     ·iterate 6 refine Stp ?_
      obtain rfl:k=l_l.length:=by omega
      rw [List.take_length] at ho
      obtain ⟨pl,hpl⟩:∃ pl,pl=l_l.map peerN:=⟨_,rfl⟩
      have hpn:l_l.length=pl.length:=by rw [hpl,List.length_map]
      rw [hpn]
      rw [hpn,← hpl] at ho
      obtain ⟨b9,rfl⟩:∃ b,ad0=some ⟨b,0,none⟩:=by
       cases ad0 with
       |none =>
        have h9:=ho.noneAll.1
        rw [h9] at hpn
        exact absurd hpn (by show l_l.length≠0;omega)
       |some ad=>obtain ⟨b,rfl⟩:=ho.someAll;exact ⟨b,rfl⟩
      refine Wh (l:=[0,1]) (Hin:=h1) jA rfl ?_;refine Yk ?_;refine WE rfl rfl F.ok46 rfl (SortC_ok _ b9 cp0 pl h1 ho jC) jA (fun _ _ _ hm hw=>(hw.lower jV).c) (ZT rfl) ?_
      rintro _ M3 hs9 hm3 ⟨hM3,rfl,l9,hp9,hsw9,ho9⟩;subst M3
      iterate 4 refine Stp ?_
      have hl9:=hp9.length_eq
      rw [← hl9]
      rw [← hl9] at ho9
      refine Sp ho9 jA (fun M4 hm4 k_s=>?_)
      iterate 2 refine Stp ?_
      refine X_fs rfl rfl F.ok55 rfl (Circ_ok _ ⟨_,_,_⟩ jE) rfl ?_
      rintro _ rfl
      iterate 3 refine Stp ?_
      refine ZW rfl (eT fun hc12=>?_) (eF fun hc12=>?_)
      ·simp only [Zs.eta,ZO.eta,ZJ.eta,ZF.eta,Ym.eta,Yv.eta,Yy.eta,Yq.eta,ZN.eta,YF.eta,ZU.eta] at hc12
       iterate 8 refine Stp ?_
       refine ZV (.inr rfl) (.tmp rfl (.tmp rfl .nil)) (fun w hw=>?_)
       refine ⟨_,M4,rfl,hm1.trans hm4,hw.c,?_⟩
       show OfR _ l_l _
       refine ⟨⟨none,0,[]⟩,_,rfl,SlK.nil,?_⟩
       rw [if_neg jC,if_neg hodd]
       refine ⟨l9,by rw [← hpl];exact hp9,hsw9,?_⟩
       rw [if_neg jE]
       exact ⟨rfl,rfl⟩
      ·simp only [Zs.eta,ZO.eta,ZJ.eta,ZF.eta,Ym.eta,Yv.eta,Yy.eta,Yq.eta,ZN.eta,YF.eta,ZU.eta] at hc12
       iterate 10 refine Stp ?_
       refine ZV (.inr rfl) (.tmp rfl (.tmp rfl .nil)) (fun w hw=>?_)
       refine ⟨_,M4,rfl,hm1.trans hm4,hw.c,?_⟩
       show OfR _ l_l _
       refine ⟨⟨_,cp0,l9⟩,_,rfl,k_s,?_⟩
       rw [if_neg jC,if_neg hodd]
       refine ⟨l9,by rw [← hpl];exact hp9,hsw9,?_⟩
       rw [if_pos jE]
       exact ⟨rfl,rfl⟩
end Go.Proofs.YtglnjnacodgmaaaGreatDoor.K
namespace Go.Esp
def insC (p:Zs):List Zs→List Zs
  | []=>[p]
  | q::l=>if Vl q.id p.id then q::insC p l else p::q::l
def sortC (l:List Zs):List Zs:=l.foldr insC []
theorem insC_perm (p:Zs):∀ l:List Zs,(insC p l).Perm (p::l)
  | []=>List.Perm.refl _
  | q::l=>by
    unfold insC
    split
    · exact ((insC_perm p l).cons q).trans (List.Perm.swap p q l)
    · exact List.Perm.refl _
theorem sortC_perm:∀ l:List Zs,(sortC l).Perm l
  | []=>List.Perm.refl _
  | p::l=>(insC_perm p (sortC l)).trans ((sortC_perm l).cons p)
theorem insC_sorted {p:Zs}:∀ {l:List Zs},l.Pairwise (fun x y=>¬Vl y.id x.id)→(insC p l).Pairwise (fun x y=>¬Vl y.id x.id)
  | [],_=>by simp [insC]
  | q::l,h=>by
    have h2:=List.pairwise_cons.1 h
    unfold insC
    split
    · rename_i e
      refine List.pairwise_cons.2 ⟨fun y hy=>?_,insC_sorted h2.2⟩
      rcases List.mem_cons.1 ((insC_perm p l).mem_iff.1 hy) with rfl|hy
      · unfold Vl at *;omega
      · exact h2.1 y hy
    · rename_i e
      refine List.pairwise_cons.2 ⟨fun y hy=>?_,h⟩
      rcases List.mem_cons.1 hy with rfl|hy
      · exact e
      · have:=h2.1 y hy
        unfold Vl at *;omega
theorem sortC_sorted:∀ l:List Zs,(sortC l).Pairwise (fun x y=>¬Vl y.id x.id)
  | []=>List.Pairwise.nil
  | p::l=>insC_sorted (sortC_sorted l)
theorem circ_one {l l':List Zs} (hp:l.Perm l') (h:TP l) (h':l'.Pairwise (fun x y=>¬Vl y.id x.id)):l'=l:=by
  have key:∀ a∈l,∀ b∈l,¬Vl a.id b.id→¬Vl b.id a.id→a=b:=by
    intro a ha b hb h1 h2
    obtain ⟨i,hi,rfl⟩:=List.getElem_of_mem ha
    obtain ⟨j,hj,rfl⟩:=List.getElem_of_mem hb
    rcases Nat.lt_trichotomy i j with h9|h9|h9
    · exact absurd (List.pairwise_iff_getElem.1 h.2.2 i j hi hj h9) h1
    · subst h9;rfl
    · exact absurd (List.pairwise_iff_getElem.1 h.2.2 j i hj hi h9) h2
  refine List.Perm.eq_of_pairwise (le:=fun x y=>¬Vl y.id x.id) ?_ h' (h.2.2.imp fun h=>by unfold Vl at *;omega) hp.symm
  intro a b ha hb h1 h2
  exact key a (hp.mem_iff.2 ha) b hb h2 h1
theorem circ_sort {l L:List Zs} (hp:l.Perm L) (hs:l.Pairwise (fun x y=>¬Vl y.id x.id)):Wy l↔Wy (sortC L):=by
  constructor
  · intro h
    rw [circ_one (hp.trans (sortC_perm L).symm) h.2 (sortC_sorted L)]
    exact h
  · intro h
    rw [circ_one ((sortC_perm L).trans hp.symm) h.2 hs]
    exact h
def likeT (n:Nd) (t:Tb):Bool:=n.joined && decide (n.table.pred=t.pred) && decide (n.table.succ=t.succ) && decide (n.table.fingers=t.fingers)
def idealAt (r:Rg) (t:Tb):Bool:=match getA t.self.addr r.nodes with
  | none=>false
  | some n=>likeT n t
def circR (pn:Int→Zs) (r:Rg):List Zs:=sortC ((Tc r).map pn)
def VW (pn:Int→Zs) (r:Rg):Bool:=decide (Wy (circR pn r)) && (setL (circR pn r) r.copies.toNat).all (idealAt r)
theorem ideal_none {pn:Int→Zs} {r:Rg} (h:¬Wy (circR pn r)):VW pn r=false:=by
  unfold VW;rw [decide_eq_false h];rfl
theorem ideal_no {pn:Int→Zs} {r:Rg} {l:List Zs} {k:Nat} (hl:circR pn r=l) {t:Tb} (hk:(setL l r.copies.toNat)[k]?=some t) (h:idealAt r t=false):VW pn r=false:=by
  unfold VW
  rw [hl]
  have:(setL l r.copies.toNat).all (idealAt r)=false:=by
    rw [List.all_eq_false]
    exact ⟨t,List.mem_of_getElem? hk,by simp [h]⟩
  rw [this,Bool.and_false]
theorem ideal_yes {pn:Int→Zs} {r:Rg} {l:List Zs} (hl:circR pn r=l) (hc:Wy l) (h:∀ j (hj:j<(setL l r.copies.toNat).length),idealAt r (setL l r.copies.toNat)[j]=true):VW pn r=true:=by
  unfold VW
  rw [hl,decide_eq_true hc,Bool.true_and,List.all_eq_true]
  intro t ht
  obtain ⟨j,hj,rfl⟩:=List.getElem_of_mem ht
  exact h j hj
theorem like_yes {n:Nd} {t:Tb}:likeT n t=true↔n.joined=true∧n.table.pred=t.pred∧n.table.succ=t.succ∧n.table.fingers=t.fingers:=by
  unfold likeT
  simp only [Bool.and_eq_true,decide_eq_true_eq,and_assoc]
theorem like_no {n:Nd} {t:Tb} (h:¬(n.joined=true∧n.table.pred=t.pred∧n.table.succ=t.succ∧n.table.fingers=t.fingers)):likeT n t=false:=by
  cases hb:likeT n t with
  | false=>rfl
  | true=>exact absurd (like_yes.1 hb) h
def NodeR (M:Mem) (r:Rg) (a:Int) (v:Value):Prop:=∃ (x:ZJ) (c:Int),v=.tuple #[x.enc,.int .i64 c]∧ZJ.ok M x∧((∃ n,getA a r.nodes=some n∧x.nd=n∧c=0)∨(getA a r.nodes=none∧c=7))
def UN (pn:Int→Zs):Nat→Rg→Nat×Rg
  | 0,r=>(0,r)
  | n+1,r=>if VW pn r=true then (0,r) else ((UN pn n (TC r)).1+1,(UN pn n (TC r)).2)
theorem RIs.okD {M:Mem} {r:Rg} {l:JM ZJ} (h:RIs M r l) {a:Int} {x:ZJ} (hx:(Wg l a).getD ZJ.zero=x):ZJ.ok M x:=by
  cases hg:Wg l a with
  | none=>rw [hg] at hx;rw [← hx];exact ZJ.zero_ok M
  | some v=>rw [hg] at hx;rw [← hx];exact h.ok _ (jmGet_mem hg)
theorem RIs.like {M:Mem} {r:Rg} {l:JM ZJ} (h:RIs M r l) {a:Int} {x:ZJ} {t:Tb} (hx:(Wg l a).getD ZJ.zero=x) (ha:t.self.addr=a):idealAt r t=likeT x.nd t:=by
  subst ha
  cases hg:Wg l t.self.addr with
  | none =>
    rw [hg] at hx
    have h0:getA t.self.addr r.nodes=Option.none:=by rw [← h.get,hg];rfl
    unfold idealAt
    rw [h0,← hx]
    rfl
  | some v =>
    rw [hg] at hx
    have h0:getA t.self.addr r.nodes=Option.some v.nd:=by rw [← h.get,hg];rfl
    unfold idealAt
    rw [h0,← hx]
    rfl
def Sg (pn:Int→Zs) (n k:Nat) (r r1:Rg):Prop:=UN pn n r=(k+(UN pn (n-k) r1).1,(UN pn (n-k) r1).2)
theorem Sg.start {pn:Int→Zs} {n:Nat} {r:Rg}:Sg pn n 0 r r:=by
  unfold Sg;rw [Nat.sub_zero,Nat.zero_add]
theorem Sg.step {pn:Int→Zs} {n k:Nat} {r r1:Rg} (h:Sg pn n k r r1) (hk:k<n) (hi:VW pn r1=false):Sg pn n (k+1) r (TC r1):=by
  unfold Sg at *
  rw [h,show n-k=(n-(k+1))+1 by omega]
  have e:UN pn (n-(k+1)+1) r1=((UN pn (n-(k+1)) (TC r1)).1+1,(UN pn (n-(k+1)) (TC r1)).2):=by
    show (if VW pn r1=true then (0,r1) else _)=_
    rw [if_neg (by rw [hi];decide)]
  rw [e]
  exact Prod.ext (by show k+(_+1)=k+1+_;omega) rfl
theorem Sg.ends {pn:Int→Zs} {n k:Nat} {r r1:Rg} (h:Sg pn n k r r1) (he:¬k<n∨VW pn r1=true):UN pn n r=(k,r1):=by
  unfold Sg at h
  rw [h]
  have e:UN pn (n-k) r1=(0,r1):=by
    cases hn:n-k with
    | zero=>rfl
    | succ m =>
      show (if VW pn r1=true then (0,r1) else _)=_
      rw [if_pos (he.resolve_left jC)]
  rw [e]
  rfl
theorem live_at {r:Rg} {a:Int} (h:a∈Tc r):∃ n,getA a r.nodes=some n:=by
  cases hg:getA a r.nodes with
  | none=>exact absurd h (getA_none.1 hg)
  | some n=>exact ⟨n,rfl⟩
theorem NodeR.live {M:Mem} {r:Rg} {a:Int} {v:Value} {n:Nd} (h:NodeR M r a v) (hn:getA a r.nodes=some n):∃ x:ZJ,v=.tuple #[x.enc,.int .i64 0]∧ZJ.ok M x∧x.nd=n:=by
  obtain ⟨x,c,rfl,h1,h2⟩:=h
  rcases h2 with ⟨n',g1,g2,rfl⟩|⟨g1,g2⟩
  · rw [hn] at g1
    cases g1
    exact ⟨x,rfl,h1,g2⟩
  · rw [hn] at g1;cases g1
end Go.Esp
namespace Go.Proofs.YtglnjnacodgmaaaGreatDoor
open Go.Esp
theorem F.foff78_0:foff Tryz.prog 78 0=some 0:=by kernel_rfl
theorem F.lay24:lay Tryz.prog 24=some (false,1):=by kernel_rfl
theorem F.ok24:okFn Tryz.prog 24=true:=by kernel_rfl
theorem F.ok65:okFn Tryz.prog 65=true:=by kernel_rfl
theorem digs_all {M:Mem} (hp:PowM M) (l:List Int):K.Digs M l:=by
  intro M1 hM a _ ho
  unfold K.OddA at ho
  obtain ⟨n,rfl⟩:∃ n:Nat,a=n:=⟨a.toNat,by omega⟩
  exact Itoa_all M1 (hp.mono hM) n jC
theorem odd_iff {a:Int}:¬K.OddA a↔Yo a:=by unfold K.OddA Yo;omega
theorem of1 {M:Mem} {a:Int} {v:Value} (ha:Yo a) (h:K.OfR M [a] v):∃ s:Sl Zs,v=.tuple #[s.val,.int .i64 0]∧SlK M Zs.segs 21 s∧s.l=[K.peerN a]:=by
  obtain ⟨s,c,rfl,k,h⟩:=h
  rw [if_neg jU,if_neg (by rintro ⟨x,hx,ho⟩;rw [List.mem_singleton.1 hx] at ho;exact odd_iff.2 ha ho)] at h
  obtain ⟨l',hp,hs,h⟩:=h
  obtain rfl:l'=[K.peerN a]:=List.perm_singleton.1 hp
  have hc:Wy [K.peerN a]:=⟨⟨by simp,by simp⟩,fun p hp=>by rw [List.mem_singleton.1 hp];exact ha,List.pairwise_singleton ..,List.pairwise_singleton ..⟩
  rw [if_pos hc] at h
  obtain ⟨h1,rfl⟩:=h
  exact ⟨s,rfl,k,h1⟩
theorem OfF_ok (M:Mem) (a:Option Addr) (c n:Nat) (l:List Int) (hn:n=l.length) (hs:Hp) (ho:OSl 3 1 (.slice a n c) hs (l.map (oneI .i64))) (hM:M.dr=0) (hI:K.Digs M l):Fh Tryz.prog 24 [.slice a n c] M hs (fun M' v Hout=>Hout=[]∧K.OfR M' l v):=fun H w hw=>by
  subst hn
  obtain ⟨M1,h1,h2,h3⟩:=ho.frz hw
  exact (K.Of_ok M1 ⟨a,c,l⟩ h3 (h1.loose hM) (hI.mono h1) H w h2).mono fun e w2 ⟨v,M2,g1,g2,g3,g4⟩=>⟨v,M2,[],g1,h1.trans g2,g3,rfl,g4⟩
theorem of_live {M:Mem} {r:Rg} {v:Value} (h:K.OfR M (Tc r) v):∃ (s:Sl Zs) (c:Int),v=.tuple #[s.val,.int .i64 c]∧SlK M Zs.segs 21 s∧((c=0∧Wy (circR K.peerN r)∧s.l=circR K.peerN r)∨(c≠0∧¬Wy (circR K.peerN r))):=by
  obtain ⟨s,c,rfl,k,h⟩:=h
  refine ⟨s,c,rfl,k,?_⟩
  have hp9:=sortC_perm ((Tc r).map K.peerN)
  split at h
  ·rename_i hl
   refine .inr ⟨by omega,fun hc=>?_⟩
   have h1:=hc.1
   unfold circR at h1
   rw [hp9.length_eq,List.length_map] at h1
   omega
  ·split at h
   ·rename_i hl ho
    obtain ⟨a,ha,ho⟩:=ho
    refine .inr ⟨by omega,fun hc=>?_⟩
    have:=hc.2.1 (K.peerN a) (hp9.mem_iff.2 (List.mem_map_of_mem ha))
    exact odd_iff.2 this ho
   ·obtain ⟨l',hp,hs,h⟩:=h
    have hs2:l'.Pairwise (fun x y=>¬Vl y.id x.id):=hs.imp fun {x y} h9 h8=>h9 (by
     unfold K.lessF
     rw [if_neg (fun e=>by subst e;exact Nat.lt_irrefl _ h8),if_pos h8]
     decide)
    have hiff:=circ_sort hp hs2
    split at h
    ·rename_i hc
     refine .inl ⟨h.2,hiff.1 hc,?_⟩
     rw [h.1]
     exact (circ_one (hp.trans hp9.symm) hc.2 (sortC_sorted _)).symm
    ·rename_i hc
     exact .inr ⟨by omega,fun h9=>hc (hiff.2 h9)⟩
theorem begin1_ok (M:Mem) (self:Zs) (gb mb bb:Nat) (r:Rg) (bx:Nat):Fo Tryz.prog 62 ([self.enc]++[.pointer (some ⟨bx,0,none⟩)]) M ((gb,rowO [.one (.int .i64 r.copies),.one (.map (some mb)),.one (.pointer (some ⟨bb,0,none⟩))] 78)::[(bx,rowO [.one (.pointer (some ⟨gb,0,none⟩))] 24)]) (fun M' v=>NeE M' v (Uw self r.copies)):=by
  obtain ⟨self_addr,self_id⟩:=self
  refine Vu Tryz.func62 rfl Tryz.ntmps62 rfl ?_;intro H
  iterate 2 refine Stp ?_
  refine Xq ?_;intro b1
  refine Yz F.zero44 ?_;intro b2
  iterate 4 refine Stp ?_
  refine Yg (l:=[0,1,2,3,4,5,6,7,8,9]) #[0,0,2,6,14,31,63,63,255,511] _ rfl jI jI St.drawn (fun _ h=>h) ?_;refine Zy F.lay38 ?_;refine Zy F.lay24 ?_;refine YT ?_;refine Zi F.foff78_0 ?_;refine Zy F.lay3 ?_;refine X_fn rfl rfl F.ok63 rfl (Alone_ok M ⟨self_addr,self_id⟩ r.copies) rfl ?_
  rintro _ M1 hm1 ⟨⟨⟨⟨Xh,Xs⟩,⟨Xi,Xt⟩,⟨XB,XA,Xz⟩,⟨Xl,Xk,Xj⟩⟩,Vf,Vb,Uo,Ve,Tq,VF,Vg,Va,WL,Vc,WM,Vd,⟨WP,WO,WN⟩,Un,Um⟩,rfl,ey,oky⟩
  try simp only at ey oky
  iterate 2 refine Stp ?_
  refine Wf F.lay44 ?_
  iterate 4 refine Stp ?_
  refine ZV (.inr rfl) (.cell rfl jB F.lay44 rfl rfl (.tmp rfl .nil)) (fun w hw=>?_)
  exact ⟨_,M1,rfl,hm1,hw.c,⟨⟨⟨Xh,Xs⟩,⟨Xi,Xt⟩,⟨XB,XA,Xz⟩,⟨Xl,Xk,Xj⟩⟩,Vf,Vb,Uo,Ve,Tq,VF,Vg,Va,WL,Vc,WM,Vd,⟨WP,WO,WN⟩,Un,Um⟩,rfl,ey,oky⟩
theorem join1_ok (M:Mem) (self:Zs) (gb mb bb:Nat) (r:Rg) (bx by_:Nat) (boot:Int):Fo Tryz.prog 64 ([self.enc]++[.pointer (some ⟨bx,0,none⟩),.pointer (some ⟨by_,0,none⟩)]) M ((gb,rowO [.one (.int .i64 r.copies),.one (.map (some mb)),.one (.pointer (some ⟨bb,0,none⟩))] 78)::[(bx,rowO [.one (.pointer (some ⟨gb,0,none⟩))] 24),(by_,rowO [.one (.int .i64 boot)] 3)]) (fun M' v=>NeE M' v (UT self r.copies boot)):=by
  obtain ⟨self_addr,self_id⟩:=self
  refine Vu Tryz.func64 rfl Tryz.ntmps64 rfl ?_;intro H
  iterate 2 refine Stp ?_
  refine Xq ?_;intro b1
  refine Yz F.zero44 ?_;intro b2
  iterate 4 refine Stp ?_
  refine Yg (l:=[0,1,2,3,4,5,6,7,8,9,10]) #[0,0,2,6,14,0,63,127,127,511,1023] _ rfl jI jI St.drawn (fun _ h=>h) ?_;refine Zy F.lay38 ?_;refine Zy F.lay24 ?_;refine YT ?_;refine Zi F.foff78_0 ?_
  iterate 2 refine Zy F.lay3 ?_
  refine X_fn rfl rfl F.ok65 rfl (Joining_ok M ⟨self_addr,self_id⟩ r.copies boot) rfl ?_
  rintro _ M1 hm1 ⟨⟨⟨⟨Xh,Xs⟩,⟨Xi,Xt⟩,⟨XB,XA,Xz⟩,⟨Xl,Xk,Xj⟩⟩,Vf,Vb,Uo,Ve,Tq,VF,Vg,Va,WL,Vc,WM,Vd,⟨WP,WO,WN⟩,Un,Um⟩,rfl,ey,oky⟩
  try simp only at ey oky
  iterate 2 refine Stp ?_
  refine Wf F.lay44 ?_
  iterate 4 refine Stp ?_
  refine ZV (.inr rfl) (.cell rfl jB F.lay44 rfl rfl (.tmp rfl .nil)) (fun w hw=>?_)
  exact ⟨_,M1,rfl,hm1,hw.c,⟨⟨⟨Xh,Xs⟩,⟨Xi,Xt⟩,⟨XB,XA,Xz⟩,⟨Xl,Xk,Xj⟩⟩,Vf,Vb,Uo,Ve,Tq,VF,Vg,Va,WL,Vc,WM,Vd,⟨WP,WO,WN⟩,Un,Um⟩,rfl,ey,oky⟩
theorem may_ok (M:Mem) (addr:Int):Fs Tryz.prog 60 [.int .i64 addr] M (fun v=>v=Value.bool (decide (Yo addr))):=by
  refine Xe Tryz.func60 rfl Tryz.ntmps60 rfl ?_;intro H
  iterate 10 refine Stp ?_
  refine Yt 5 rfl (cT fun hc1=>?_) (cF fun hc1=>?_)
  ·iterate 7 refine Stp ?_
   refine ZV (.inr rfl) (.tmp rfl .nil) (fun w hw=>?_)
   refine ⟨_,rfl,(hw.c),?_⟩
   clear hw
   refine congrArg Value.bool ?_
   exact decide_eq_decide.2 (by unfold Yo;omega)
  ·iterate 7 refine Stp ?_
   refine ZV (.inr rfl) (.tmp rfl .nil) (fun w hw=>?_)
   refine ⟨_,rfl,(hw.c),?_⟩
   clear hw
   refine congrArg Value.bool ?_
   exact (decide_eq_false (by unfold Yo;omega)).symm
theorem start_okR (M:Mem) (gb:Nat) (N:Int) (r:Rg) (Hb:Hp) (hR:YX gb N r M Hb) (a:Int) (ha:Yo a) (hM:M.dr=0) (hP:PowM M) (fid:FuncId) (caps:List Value) (E:Hp) (X:Nd×Int) (hfid:okFn Tryz.prog fid=true) (hof:∀ (M1:Mem) (mb bb:Nat),M.le M1→Fo Tryz.prog fid ([Zs.enc (K.peerN a)]++caps) M1 ((gb,rowO [.one (.int .i64 r.copies),.one (.map (some mb)),.one (.pointer (some ⟨bb,0,none⟩))] 78)::E) (fun M' v=>NeE M' v X)) (hfew:r.nodes.length<16):Fh Tryz.prog 61 [.pointer (some ⟨gb,0,none⟩),.int .i64 a,.func (.func fid) #[] caps.toArray] M (Hb++E) (fun M' v Hb'=>v=.int .i64 (UR r a X).2∧YX gb N (UR r a X).1 M' Hb'):=by
  obtain ⟨mb,bb,o,jl,hb,rfl,hbag,hom,hri⟩:=hR
  obtain ⟨⟨YI,p_id⟩,hpn⟩:∃ p,K.peerN a=p:=⟨_,rfl⟩
  rw [hpn] at hof
  refine YR (fun H=>(gb,rowO [.one (.int .i64 r.copies),.one (.map (some mb)),.one (.pointer (some ⟨bb,0,none⟩))] 78)::(mb,o)::(hb++(E++H))) (fun _=>by simp only [List.append_assoc,List.cons_append,List.nil_append]) Tryz.func61 rfl Tryz.ntmps61 rfl ?_;intro H
  iterate 8 refine Stp ?_
  refine YS rfl rfl F.elem32 F.zero3 rfl rfl (.cons rfl jG .nil) rfl rfl jL rfl ?_;intro b1 hob2
  refine WE rfl rfl F.ok24 rfl (OfF_ok M _ _ _ [a] rfl _ hob2 hM (digs_all hP _)) jA (fun _ _ _ hm hw=>(hw.lower jV).c) (ZT rfl) ?_
  rintro _ M1 _ hm1 ⟨rfl,hv⟩
  obtain ⟨⟨p_a,p_c,p_l⟩,rfl,k_p,hp1⟩:=of1 ha hv
  rw [hpn] at hp1
  simp only at hp1
  subst hp1
  have s_p:=k_p.h1
  try simp only at s_p
  simp only [Sl.val]
  iterate 14 refine Stp ?_
  refine ZW rfl (eT fun hc3=>?_) (eF fun hc3=>?_)
  ·simp only [Zs.eta,ZO.eta,ZJ.eta,ZF.eta,Ym.eta,Yv.eta,Yy.eta,Yq.eta,ZN.eta,YF.eta,ZU.eta] at hc3
   (exfalso;simp [eqX] at hc3;done)
  ·simp only [Zs.eta,ZO.eta,ZJ.eta,ZF.eta,Ym.eta,Yv.eta,Yy.eta,Yq.eta,ZN.eta,YF.eta,ZU.eta] at hc3
   iterate 4 refine Stp ?_
   refine XD_perm (H':=(gb,rowO [.one (.int .i64 r.copies),.one (.map (some mb)),.one (.pointer (some ⟨bb,0,none⟩))] 78)::(E++(mb,o)::(hb++H))) (List.Perm.cons _ (List.perm_append_comm_assoc ((mb,o)::hb) E H)) ?_
   iterate 2 refine Stp ?_
   refine Ys rfl rfl rfl rfl F.elem39 jR zK (by exact SlM.plain jE zK) rfl ?_;refine Xm rfl rfl rfl jE (by exact rfl) F.lay38 rfl rfl rfl ?_;refine X_foV (caps:=caps) rfl rfl rfl hfid rfl rfl (hof M1 mb bb hm1) (Rem.here (hs:=(gb,rowO [.one (.int .i64 r.copies),.one (.map (some mb)),.one (.pointer (some ⟨bb,0,none⟩))] 78)::E) _) (ZT rfl) ?_
   rintro _ M2 hm2 ⟨⟨⟨⟨Xh,Xs⟩,⟨Xi,Xt⟩,⟨XB,XA,Xz⟩,⟨Xl,Xk,Xj⟩⟩,Vf,Vb,Uo,Ve,Tq,VF,Vg,Va,WL,Vc,WM,Vd,⟨WP,WO,WN⟩,Un,Um⟩,rfl,ey,oky⟩
   try simp only at ey oky
   iterate 3 refine Stp ?_
   refine Yz F.zero44 ?_;intro b4
   refine Wf F.lay44 ?_
   iterate 10 refine Stp ?_
   refine ZW rfl (cT fun hc5=>?_) (cF fun hc5=>?_)
   ·refine C_region_anyR (l:=[0,1,2,3,4,5,6]) (Hin:=[(mb,o)]) #[0,1,3,7,0,0,63] jA rfl jI jI ?_
    iterate 2 refine Stp ?_
    refine Zi F.foff78_1 ?_;refine Zy F.lay76 ?_;refine Yk ?_;refine Zy F.lay44 ?_
    refine X_mapUpdateJ (en:=ZJ.enc) (v:=⟨⟨⟨Xh,Xs⟩,⟨Xi,Xt⟩,⟨XB,XA,Xz⟩,⟨Xl,Xk,Xj⟩⟩,Vf,Vb,Uo,Ve,Tq,VF,Vg,Va,WL,Vc,WM,Vd,⟨WP,WO,WN⟩,Un,Um⟩) rfl rfl rfl rfl rfl ⟨Tryz.underlying3⟩ Tryz.underlying76 hom jB ?_;intro o2 hom2;refine ⟨_,jH,?_⟩
    iterate 9 refine Stp ?_
    refine ZV (.inr rfl) (.tmp rfl .nil) (fun w hw=>?_)
    have e9:UR r a X=({ r with nodes:=putA a (ZJ.nd ⟨⟨⟨Xh,Xs⟩,⟨Xi,Xt⟩,⟨XB,XA,Xz⟩,⟨Xl,Xk,Xj⟩⟩,Vf,Vb,Uo,Ve,Tq,VF,Vg,Va,WL,Vc,WM,Vd,⟨WP,WO,WN⟩,Un,Um⟩) r.nodes },0):=start_good jE ey
    exact ⟨_,M2,((gb,rowO [.one (.int .i64 r.copies),.one (.map (some mb)),.one (.pointer (some ⟨bb,0,none⟩))] 78)::(mb,o2)::hb),rfl,hm1.trans hm2,hw.c,by rw [e9];exact congrArg (Value.int .i64) jE,by rw [e9];exact YX.intro (r:={ r with nodes:=putA a (ZJ.nd ⟨⟨⟨Xh,Xs⟩,⟨Xi,Xt⟩,⟨XB,XA,Xz⟩,⟨Xl,Xk,Xj⟩⟩,Vf,Vb,Uo,Ve,Tq,VF,Vg,Va,WL,Vc,WM,Vd,⟨WP,WO,WN⟩,Un,Um⟩) r.nodes }) hbag hom2 ((hri.mono (hm1.trans hm2)).put (n:=⟨⟨⟨Xh,Xs⟩,⟨Xi,Xt⟩,⟨XB,XA,Xz⟩,⟨Xl,Xk,Xj⟩⟩,Vf,Vb,Uo,Ve,Tq,VF,Vg,Va,WL,Vc,WM,Vd,⟨WP,WO,WN⟩,Un,Um⟩) oky (.inr hfew))⟩
   ·iterate 9 refine Stp ?_
    refine ZV (.inr rfl) (.tmp rfl .nil) (fun w hw=>?_)
    have e9:UR r a X=_:=start_bad jE
    exact ⟨_,M2,((gb,rowO [.one (.int .i64 r.copies),.one (.map (some mb)),.one (.pointer (some ⟨bb,0,none⟩))] 78)::(mb,o)::hb),rfl,hm1.trans hm2,hw.c,by rw [e9];rfl,by rw [e9];exact YX.intro hbag hom (hri.mono (hm1.trans hm2))⟩
theorem F.foff31_0:foff Tryz.prog 31 0=some 0:=by kernel_rfl
theorem F.foff31_1:foff Tryz.prog 31 1=some 1:=by kernel_rfl
theorem F.ok60:okFn Tryz.prog 60=true:=by kernel_rfl
theorem F.ok61:okFn Tryz.prog 61=true:=by kernel_rfl
theorem F.ok62:okFn Tryz.prog 62=true:=by kernel_rfl
theorem F.ok64:okFn Tryz.prog 64=true:=by kernel_rfl
theorem F.ok66:okFn Tryz.prog 66=true:=by kernel_rfl
theorem begin_okR (M:Mem) (gb:Nat) (N:Int) (r:Rg) (Hb:Hp) (hR:YX gb N r M Hb) (a:Int) (hM:M.dr=0) (hP:PowM M):Fh Tryz.prog 28 [.pointer (some ⟨gb,0,none⟩),.int .i64 a] M Hb (fun M' v Hb'=>v=.int .i64 (Tp K.peerN r a).2∧YX gb N (Tp K.peerN r a).1 M' Hb'):=by
  obtain ⟨mb,bb,o,jl,hb,rfl,hbag,hom,hri⟩:=hR
  refine YR (fun H=>(gb,rowO [.one (.int .i64 r.copies),.one (.map (some mb)),.one (.pointer (some ⟨bb,0,none⟩))] 78)::(mb,o)::(hb++H)) (fun _=>by simp only [List.append_assoc,List.cons_append,List.nil_append]) Tryz.func28 rfl Tryz.ntmps28 rfl ?_;intro H
  iterate 2 refine Stp ?_
  refine Xq ?_;intro b1
  iterate 8 refine Stp ?_
  refine X_fs rfl rfl F.ok60 rfl (may_ok _ _) rfl ?_
  rintro _ rfl
  iterate 4 refine Stp ?_
  refine ZW rfl (eT fun hc2=>?_) (eF fun hc2=>?_)
  ·iterate 8 refine Stp ?_
   refine ZV (.inr rfl) (.tmp rfl .nil) (fun w hw=>?_)
   have e9:Tp K.peerN r a=_:=begin_bad jE
   exact ⟨_,M,_,rfl,Mem.le.refl M,hw.cnt (H':=((gb,rowO [.one (.int .i64 r.copies),.one (.map (some mb)),.one (.pointer (some ⟨bb,0,none⟩))] 78)::(mb,o)::hb)++H) jF,by rw [e9];rfl,by rw [e9];exact YX.intro hbag hom hri⟩
  ·iterate 2 refine Stp ?_
   refine Zy F.lay24 ?_;refine YT ?_;refine Zi F.foff78_1 ?_;refine Zy F.lay76 ?_;refine X_len_mapJ rfl rfl rfl rfl Tryz.underlying76 jB hom rfl ?_
   iterate 4 refine Stp ?_
   refine ZW rfl (cT fun hc3=>?_) (cF fun hc3=>?_)
   ·iterate 8 refine Stp ?_
    refine ZV (.inr rfl) (.tmp rfl .nil) (fun w hw=>?_)
    have e9:Tp K.peerN r a=_:=begin_kind jE zQ
    exact ⟨_,M,_,rfl,Mem.le.refl M,hw.cnt (H':=((gb,rowO [.one (.int .i64 r.copies),.one (.map (some mb)),.one (.pointer (some ⟨bb,0,none⟩))] 78)::(mb,o)::hb)++H) jF,by rw [e9];rfl,by rw [e9];exact YX.intro hbag hom hri⟩
   ·iterate 4 refine Stp ?_
    refine YB (l:=[0,1,2,3,4]) [3] rfl ?_;refine Zy F.lay24 ?_;refine Yk ?_;refine VL rfl rfl rfl rfl rfl ?_
    have hoa:Yo a:=by first|assumption|(simp_all;done)
    refine X_fhWC H rfl rfl rfl F.ok61 rfl (start_okR M gb N r _ (YX.intro (mb:=mb) hbag hom hri) a hoa hM hP 62 [.pointer (some ⟨b1,0,none⟩)] [(b1,rowO [.one (.pointer (some ⟨gb,0,none⟩))] 24)] (Uw (K.peerN a) r.copies) F.ok62 (fun M1 mb bb hm=>begin1_ok M1 (K.peerN a) gb mb bb r b1) zQ) jF (ZT rfl) ?_
    rintro v9 M9 hb9 hm9 ⟨hv9,hR9⟩
    iterate 2 refine Stp ?_
    refine Xu ?_
    iterate 2 refine Stp ?_
    refine ZV (.inr rfl) (.tmp rfl .nil) (fun w hw=>?_)
    rw [← begin_good (pn:=K.peerN) hoa zQ] at hv9 hR9
    exact ⟨_,M9,hb9,rfl,hm9,hw.c,by rw [hv9];rfl,hR9⟩
theorem join_okR (M:Mem) (gb:Nat) (N:Int) (r:Rg) (Hb:Hp) (hR:YX gb N r M Hb) (a b:Int) (hM:M.dr=0) (hP:PowM M):Fh Tryz.prog 29 [.pointer (some ⟨gb,0,none⟩),.int .i64 a,.int .i64 b] M Hb (fun M' v Hb'=>v=.int .i64 (UU K.peerN r a b).2∧YX gb N (UU K.peerN r a b).1 M' Hb'):=by
  obtain ⟨mb,bb,o,jl,hb,rfl,hbag,hom,hri⟩:=hR
  refine YR (fun H=>(gb,rowO [.one (.int .i64 r.copies),.one (.map (some mb)),.one (.pointer (some ⟨bb,0,none⟩))] 78)::(mb,o)::(hb++H)) (fun _=>by simp only [List.append_assoc,List.cons_append,List.nil_append]) Tryz.func29 rfl Tryz.ntmps29 rfl ?_;intro H
  iterate 2 refine Stp ?_
  refine Xq ?_;intro b1
  refine Xq ?_;intro b2
  iterate 5 refine Stp ?_
  refine Zy F.lay24 ?_;refine YT ?_;refine Zi F.foff78_1 ?_;refine Zy F.lay76 ?_;refine Yk ?_;refine X_lookup2J (en:=ZJ.enc) (z:=ZJ.zero) rfl rfl rfl rfl ⟨Tryz.underlying3⟩ Tryz.underlying76 (show _=some (ZJ.enc ZJ.zero) from F.zero44) jB hom rfl ?_
  obtain ⟨⟨⟨⟨Xd,XQ⟩,⟨XO,XZ⟩,⟨We,Wd,Wc⟩,⟨XH,XG,XF⟩⟩,UE,UA,TJ,UD,Sq,Tk,UF,Uz,Uc,UB,Ud,UC,⟨Ug,Uf,Ue⟩,TI,TH⟩,hx9⟩:∃ x:ZJ,(Wg jl (a)).getD ZJ.zero=x:=⟨_,rfl⟩
  rw [hx9]
  iterate 3 refine Stp ?_
  refine Yz F.zero44 ?_;intro b3
  refine Wf F.lay44 ?_
  iterate 4 refine Stp ?_
  refine Yg (l:=[0,1,2,3,4,5,6,7,8,9,10,11]) #[0,1,3,7,0,31,63,127,127,0,767,2047] _ rfl jI jI St.drawn (fun _ h=>h) ?_;refine Zy F.lay24 ?_;refine YT ?_;refine Zi F.foff78_1 ?_;refine Zy F.lay76 ?_;refine Zy F.lay3 ?_;refine X_lookup2J (en:=ZJ.enc) (z:=ZJ.zero) rfl rfl rfl rfl ⟨Tryz.underlying3⟩ Tryz.underlying76 (show _=some (ZJ.enc ZJ.zero) from F.zero44) jB hom rfl ?_
  obtain ⟨⟨⟨⟨z_table_self_addr,z_table_self_id⟩,⟨z_table_pred_addr,z_table_pred_id⟩,⟨z_table_succ_a,z_table_succ_c,z_table_succ_l⟩,⟨z_table_fingers_a,z_table_fingers_c,z_table_fingers_l⟩⟩,z_copies,z_joined,z_boot,z_cursor,z_req,z_askTo,z_askReq,z_pingTo,z_pingReq,z_findTo,z_findReq,z_findID,⟨z_avoid_a,z_avoid_c,z_avoid_l⟩,z_hops,z_turn⟩,hz9⟩:∃ x:ZJ,(Wg jl (b)).getD ZJ.zero=x:=⟨_,rfl⟩
  rw [hz9]
  iterate 3 refine Stp ?_
  refine Yz F.zero44 ?_;intro b4
  refine Wf F.lay44 ?_
  iterate 8 refine Stp ?_
  refine X_fs rfl rfl F.ok60 rfl (may_ok _ _) rfl ?_
  rintro _ rfl
  iterate 2 refine Stp ?_
  refine Yt 33 rfl (eT fun hc5=>?_) (eF fun hc5=>?_)
  ·iterate 21 refine Stp ?_
   refine ZV (.inr rfl) (.tmp rfl .nil) (fun w hw=>?_)
   have e9:UU K.peerN r a b=_:=join_bad yQ
   exact ⟨_,M,_,rfl,Mem.le.refl M,hw.cnt (H':=((gb,rowO [.one (.int .i64 r.copies),.one (.map (some mb)),.one (.pointer (some ⟨bb,0,none⟩))] 78)::(mb,o)::hb)++H) jF,by rw [e9];rfl,by rw [e9];exact YX.intro hbag hom hri⟩
  ·refine Zy F.lay3 ?_
   refine X_fs rfl rfl F.ok60 rfl (may_ok _ _) rfl ?_
   rintro _ rfl
   iterate 3 refine Stp ?_
   refine Yt 38 rfl (eT fun hc6=>?_) (eF fun hc6=>?_)
   ·iterate 16 refine Stp ?_
    refine ZV (.inr rfl) (.tmp rfl .nil) (fun w hw=>?_)
    have e9:UU K.peerN r a b=_:=join_bad (by exact .inr (.inl jE))
    exact ⟨_,M,_,rfl,Mem.le.refl M,hw.cnt (H':=((gb,rowO [.one (.int .i64 r.copies),.one (.map (some mb)),.one (.pointer (some ⟨bb,0,none⟩))] 78)::(mb,o)::hb)++H) jF,by rw [e9];rfl,by rw [e9];exact YX.intro hbag hom hri⟩
   ·refine Yk ?_
    refine Zy F.lay3 ?_
    iterate 5 refine Stp ?_
    refine ZW rfl (cT fun hc7=>?_) (cF fun hc7=>?_)
    ·iterate 8 refine Stp ?_
     refine ZV (.inr rfl) (.tmp rfl .nil) (fun w hw=>?_)
     have e9:UU K.peerN r a b=_:=join_bad (by exact .inr (.inr jE))
     exact ⟨_,M,_,rfl,Mem.le.refl M,hw.cnt (H':=((gb,rowO [.one (.int .i64 r.copies),.one (.map (some mb)),.one (.pointer (some ⟨bb,0,none⟩))] 78)::(mb,o)::hb)++H) jF,by rw [e9];rfl,by rw [e9];exact YX.intro hbag hom hri⟩
    ·iterate 6 refine Stp ?_
     refine ZW rfl (fun hc8=>?_) (fun hc8=>?_)
     ·skip
      iterate 8 refine Stp ?_
      refine ZV (.inr rfl) (.tmp rfl .nil) (fun w hw=>?_)
      have hna:¬(¬Yo a∨¬Yo b∨a=b):=by simp_all
      have hoa:Yo a∧Yo b∧¬a=b:=by by_cases h1:Yo a <;> by_cases h2:Yo b <;> simp_all
      have e9:UU K.peerN r a b=_:=join_twice hoa (by rw [← hri.isS];assumption)
      exact ⟨_,M,_,rfl,Mem.le.refl M,hw.cnt (H':=((gb,rowO [.one (.int .i64 r.copies),.one (.map (some mb)),.one (.pointer (some ⟨bb,0,none⟩))] 78)::(mb,o)::hb)++H) jF,by rw [e9];rfl,by rw [e9];exact YX.intro hbag hom hri⟩
     ·skip
      iterate 2 refine Stp ?_
      refine Zy F.lay24 ?_;refine YT ?_;refine Zi F.foff78_1 ?_;refine Zy F.lay76 ?_;refine X_len_mapJ rfl rfl rfl rfl Tryz.underlying76 jB hom rfl ?_
      iterate 4 refine Stp ?_
      refine ZW rfl (cT fun hc9=>?_) (cF fun hc9=>?_)
      ·iterate 8 refine Stp ?_
       refine ZV (.inr rfl) (.tmp rfl .nil) (fun w hw=>?_)
       have hna:¬(¬Yo a∨¬Yo b∨a=b):=by simp_all
       have hoa:Yo a∧Yo b∧¬a=b:=by by_cases h1:Yo a <;> by_cases h2:Yo b <;> simp_all
       have e9:UU K.peerN r a b=_:=join_full hoa zR zQ
       exact ⟨_,M,_,rfl,Mem.le.refl M,hw.cnt (H':=((gb,rowO [.one (.int .i64 r.copies),.one (.map (some mb)),.one (.pointer (some ⟨bb,0,none⟩))] 78)::(mb,o)::hb)++H) jF,by rw [e9];rfl,by rw [e9];exact YX.intro hbag hom hri⟩
      ·iterate 7 refine Stp ?_
       refine ZW rfl (fun hc10=>?_) (fun hc10=>?_)
       ·skip
        iterate 8 refine Stp ?_
        refine ZV (.inr rfl) (.tmp rfl .nil) (fun w hw=>?_)
        have hna:¬(¬Yo a∨¬Yo b∨a=b):=by simp_all
        have hoa:Yo a∧Yo b∧¬a=b:=by by_cases h1:Yo a <;> by_cases h2:Yo b <;> simp_all
        have e9:UU K.peerN r a b=_:=join_none hoa zR zQ (by rw [← hri.isS];first|assumption|exact isS_no jE)
        exact ⟨_,M,_,rfl,Mem.le.refl M,hw.cnt (H':=((gb,rowO [.one (.int .i64 r.copies),.one (.map (some mb)),.one (.pointer (some ⟨bb,0,none⟩))] 78)::(mb,o)::hb)++H) jF,by rw [e9];rfl,by rw [e9];exact YX.intro hbag hom hri⟩
       ·skip
        iterate 4 refine Stp ?_
        refine YB (l:=[0,1,2,3,4]) [3] rfl ?_;refine Zy F.lay24 ?_;refine Yk ?_;refine VL rfl rfl rfl rfl rfl ?_
        have hna:¬(¬Yo a∨¬Yo b∨a=b):=by simp_all
        have hoa:Yo a∧Yo b∧¬a=b:=by by_cases h1:Yo a <;> by_cases h2:Yo b <;> simp_all
        refine X_fhWC H rfl rfl rfl F.ok61 rfl (start_okR M gb N r _ (YX.intro (mb:=mb) hbag hom hri) a hoa.1 hM hP 64 [.pointer (some ⟨b1,0,none⟩),.pointer (some ⟨b2,0,none⟩)] [(b1,rowO [.one (.pointer (some ⟨gb,0,none⟩))] 24),(b2,rowO [.one (.int .i64 b)] 3)] (UT (K.peerN a) r.copies b) F.ok64 (fun M1 mb bb hm=>join1_ok M1 (K.peerN a) gb mb bb r b1 b2 b) zQ) jF (ZT rfl) ?_
        rintro v9 M9 hb9 hm9 ⟨hv9,hR9⟩
        iterate 2 refine Stp ?_
        refine Xu ?_
        iterate 2 refine Stp ?_
        refine ZV (.inr rfl) (.tmp rfl .nil) (fun w hw=>?_)
        rw [← join_good (pn:=K.peerN) hoa zR zQ (by rw [← hri.isS];first|assumption|exact isS_yes jE)] at hv9 hR9
        exact ⟨_,M9,hb9,rfl,hm9,hw.c,by rw [hv9];rfl,hR9⟩
theorem goes_okR (M:Mem) (gb:Nat) (N:Int) (r:Rg) (Hb:Hp) (hR:YX gb N r M Hb) (t:Yy) (hN:N+2≤1000000000000000):Fh Tryz.prog 30 [.pointer (some ⟨gb,0,none⟩),t.enc] M Hb (fun M' v Hb'=>v=.int .i64 (Sa r t.kind t.a).2∧YX gb (N+2) (Sa r t.kind t.a).1 M' Hb'):=by
  obtain ⟨XP,t_a,t_b⟩:=t
  obtain ⟨mb,bb,o,jl,hb,rfl,hbag,hom,hri⟩:=hR
  refine YR (fun H=>(gb,rowO [.one (.int .i64 r.copies),.one (.map (some mb)),.one (.pointer (some ⟨bb,0,none⟩))] 78)::(mb,o)::(hb++H)) (fun _=>by simp only [List.append_assoc,List.cons_append,List.nil_append]) Tryz.func30 rfl Tryz.ntmps30 rfl ?_;intro H
  iterate 2 refine Stp ?_
  refine Xq ?_;intro b1
  iterate 4 refine Stp ?_
  refine Yg (l:=[0,1,2,3,4,5,6,7,8,9,10,11,12]) #[0,1,3,7,0,16,63,127,255,255,0,1535,4095] _ rfl jI jI St.drawn (fun _ h=>h) ?_
  iterate 2 refine Stp ?_
  refine Zi F.foff78_1 ?_;refine Zy F.lay76 ?_;refine Zi F.foff31_1 ?_;refine Zy F.lay3 ?_;refine X_lookup2J (en:=ZJ.enc) (z:=ZJ.zero) rfl rfl rfl rfl ⟨Tryz.underlying3⟩ Tryz.underlying76 (show _=some (ZJ.enc ZJ.zero) from F.zero44) jB hom rfl ?_
  obtain ⟨⟨⟨⟨Xd,XQ⟩,⟨XO,XZ⟩,⟨We,Wd,Wc⟩,⟨XH,XG,XF⟩⟩,UE,UA,TJ,UD,Sq,Tk,UF,Uz,Uc,UB,Ud,UC,⟨Ug,Uf,Ue⟩,TI,TH⟩,hx9⟩:∃ x:ZJ,(Wg jl (t_a)).getD ZJ.zero=x:=⟨_,rfl⟩
  rw [hx9]
  iterate 3 refine Stp ?_
  refine Yz F.zero44 ?_;intro b2
  refine Wf F.lay44 ?_
  iterate 10 refine Stp ?_
  refine ZW rfl (fun hc3=>?_) (fun hc3=>?_)
  ·skip
   iterate 7 refine Stp ?_
   refine ZV (.inr rfl) (.tmp rfl .nil) (fun w hw=>?_)
   have hno:getA t_a r.nodes=none:=hri.none (by exact isS_no jE)
   have e9:Sa r XP t_a=_:=goes_none hno
   exact ⟨_,M,_,rfl,Mem.le.refl M,hw.cnt (H':=((gb,rowO [.one (.int .i64 r.copies),.one (.map (some mb)),.one (.pointer (some ⟨bb,0,none⟩))] 78)::(mb,o)::hb)++H) jF,by rw [e9];rfl,by rw [e9];exact YX.intro (hbag.mono jC) hom hri⟩
  ·skip
   iterate 5 refine Stp ?_
   refine Zi F.foff31_0 ?_;refine Zy F.lay3 ?_
   iterate 14 refine Stp ?_
   refine ZW rfl (cT fun hc4=>?_) (cF fun hc4=>?_)
   ·iterate 5 refine Stp ?_
    have hsm:=hri.some hx9 (by exact isS_yes jE)
    refine Stp ?_;refine Zy F.lay44 ?_;refine X_fn rfl rfl F.ok66 rfl (Leave_ok M ⟨⟨⟨Xd,XQ⟩,⟨XO,XZ⟩,⟨We,Wd,Wc⟩,⟨XH,XG,XF⟩⟩,UE,UA,TJ,UD,Sq,Tk,UF,Uz,Uc,UB,Ud,UC,⟨Ug,Uf,Ue⟩,TI,TH⟩ hsm.2) rfl ?_
    rintro _ M2 hm2 ⟨⟨q_a,q_c,q_l⟩,rfl,sq,kq,oq⟩
    simp only [Sl.val]
    try simp only at sq kq oq
    have hR2:=YX.intro (mb:=mb) (N:=N) (g:=gb) hbag hom (hri.mono hm2)
    iterate 7 refine Stp ?_
    have hq9:ReqS (sndl q_l):=by rw [sq];exact req_leave _
    have hl9:(sndl q_l).length≤2:=by rw [sq];exact len_leave _
    have hl8:(sndl q_l).length=q_l.length:=List.length_map ..
    refine YB (l:=[0,1,2,3,4]) [4] rfl ?_;refine Yk ?_;refine Zi F.foff31_1 ?_;refine Zy F.lay3 ?_;refine Yk ?_;refine X_fhWC ((b1,rowO (Yy.segs ⟨XP,t_a,t_b⟩) 31)::H) rfl rfl rfl F.ok67 rfl (send_okR M2 gb N _ _ hR2 t_a ⟨q_a,q_c,q_l⟩ kq oq hq9 (by show N+(q_l.length:Int)≤_;omega)) jF (ZT rfl) ?_
    rintro _ M5 hb5 hm5 ⟨hM5,rfl,hR5⟩;subst M5
    try simp only at hR5
    have sR:=sendR_most r t_a (sndl q_l)
    obtain ⟨mb5,bb5,o5,jl5,hb6,rfl,hbag5,hom5,hri5⟩:=hR5
    have hd5:=hri5.del t_a
    refine Xb (Xu ?_)
    iterate 3 refine Stp ?_
    refine C_region_anyR (l:=[0,1,2,3,4,5,6]) (Hin:=[(mb5,o5)]) #[0,1,3,7,0,16,63] jA rfl jI jI ?_
    iterate 2 refine Stp ?_
    refine Zi F.foff78_1 ?_;refine Zy F.lay76 ?_;refine Zi F.foff31_1 ?_;refine Zy F.lay3 ?_
    refine X_deleteJ (en:=ZJ.enc) rfl rfl rfl rfl rfl ⟨Tryz.underlying3⟩ Tryz.underlying76 hom5 jB ?_;intro o2 hom2;refine ⟨_,jH,?_⟩
    iterate 11 refine Stp ?_
    refine ZV (.inr rfl) (.tmp rfl .nil) (fun w hw=>?_)
    obtain rfl:XP=3:=by omega
    have e9:Sa r 3 t_a=_:=goes_leave hsm.1 sq
    rw [sR.2.2] at hd5
    exact ⟨_,M2,((gb,rowO [.one (.int .i64 (UO r t_a (sndl q_l)).copies),.one (.map (some mb5)),.one (.pointer (some ⟨bb5,0,none⟩))] 78)::(mb5,o2)::hb6),rfl,hm2,hw.c,by rw [e9];rfl,by rw [e9];exact YX.intro (r:={ UO r t_a (sndl q_l) with nodes:=delA t_a r.nodes }) (hbag5.mono jC) hom2 hd5⟩
   ·iterate 3 refine Stp ?_
    refine K_miss jJ ?_
    iterate 4 refine Stp ?_
    have hsm:=hri.some hx9 (by exact isS_yes jE)
    refine C_region_anyR (l:=[0,1,2,3,4,5,6]) (Hin:=[(mb,o)]) #[0,1,3,7,0,16,63] jA rfl jI jI ?_
    iterate 2 refine Stp ?_
    refine Zi F.foff78_1 ?_;refine Zy F.lay76 ?_;refine Zi F.foff31_1 ?_;refine Zy F.lay3 ?_
    refine X_deleteJ (en:=ZJ.enc) rfl rfl rfl rfl rfl ⟨Tryz.underlying3⟩ Tryz.underlying76 hom jB ?_;intro o2 hom2;refine ⟨_,jH,?_⟩
    iterate 11 refine Stp ?_
    refine ZV (.inr rfl) (.tmp rfl .nil) (fun w hw=>?_)
    have e9:Sa r XP t_a=_:=goes_crash hsm.1 jE
    exact ⟨_,M,((gb,rowO [.one (.int .i64 r.copies),.one (.map (some mb)),.one (.pointer (some ⟨bb,0,none⟩))] 78)::(mb,o2)::hb),rfl,Mem.le.refl M,hw.c,by rw [e9];rfl,by rw [e9];exact YX.intro (r:={ r with nodes:=delA t_a r.nodes }) (hbag.mono jC) hom2 (hri.del t_a)⟩
end Go.Proofs.YtglnjnacodgmaaaGreatDoor
