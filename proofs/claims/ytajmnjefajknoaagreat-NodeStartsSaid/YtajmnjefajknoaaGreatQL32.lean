/-
  Texts of this claim, one behind the other: Ident, CircleM, IdentN, T1, IdxF, TableM, T2, T3, Rules6, T4, T5, Rules7, T6, T7, T8, T9, T10, T11, T12, TableP, T13, T14, T15, TableS, T16, SortL, SortM, T17, T18.
-/
import Derived.Test.YtajmnjefajknoaaGreatQL31
import Derived.Laws.Sem
import Derived.Test.YtajmnjefajknoaaGreatRows
import Derived.Laws.MakeOwn
import Derived.Shelf.SlSortCmp.WholeK
import Derived.Shelf.SlGeneric
import Derived.Ground.SlsfProg
set_option linter.unusedSimpArgs false
set_option linter.unusedVariables false
set_option linter.unnecessarySimpa false
namespace Go.Esp
theorem ofB_step {f g:Nat→Nat} (hf:∀ i,f i<256) (hg:∀ i,g i<256) {n:Nat} (h:ofB n f<ofB n g):ofB (n+1) f<ofB (n+1) g:=by
  have:=hf n
  have:=hg n
  simp only [ofB]
  omega
theorem ofB_mono {f g:Nat→Nat} (hf:∀ i,f i<256) (hg:∀ i,g i<256) {m:Nat} (h:ofB m f<ofB m g):∀ n,ofB (m+n) f<ofB (m+n) g
  | 0=>h
  | n+1=>ofB_step hf hg (ofB_mono hf hg h n)
theorem less_of {a b:Plc} {k:Nat} (hk:k<20) (h:∀ j,j<k→idB a j=idB b j) (hlt:idB a k<idB b k):a.toNat<b.toNat:=by
  rw [← idB_toNat a,← idB_toNat b]
  have h1:ofB (k+1) (idB a)<ofB (k+1) (idB b):=by
    simp only [ofB,ofB_congr h]
    omega
  have:=ofB_mono (idB_lt a) (idB_lt b) h1 (20-(k+1))
  rwa [show k+1+(20-(k+1))=20 by omega] at this
theorem less_at {a b:Plc} {k:Nat} (hk:k<20) (h:∀ j,j<k→idB a j=idB b j) (hne:¬idB a k=idB b k):a.toNat<b.toNat↔idB a k<idB b k:=by
  constructor
  · intro hlt
    rcases Nat.lt_or_ge (idB a k) (idB b k) with h1|h1
    · exact h1
    · have:=less_of hk (fun j hj=>(h j hj).symm) (show idB b k<idB a k by omega)
      omega
  · exact less_of hk h
theorem plc_eq {a b:Plc} (h:∀ j,j<20→idB a j=idB b j):a=b:=by
  apply BitVec.eq_of_toNat_eq
  rw [← idB_toNat a,← idB_toNat b]
  exact ofB_congr h
def Vq (x:Plc):ByteArray:=⟨((List.range 20).map fun i=>(idB x i).toUInt8).toArray⟩
theorem idBytes_size (x:Plc):(Vq x).size=20:=by simp [Vq,ByteArray.size]
theorem idBytes_at (x:Plc) {i:Nat} (h:i<20):(Vq x)[i]! = (idB x i).toUInt8:=by
  have hs:i<(Vq x).size:=by rw [idBytes_size];exact h
  rw [getElem!_pos (Vq x) i hs]
  show (((List.range 20).map fun i=>(idB x i).toUInt8).toArray)[i]'(by simpa using h)=_
  simp
theorem u8_inj {m n:Nat} (hm:m<256) (hn:n<256):m.toUInt8=n.toUInt8↔m=n:=by
  constructor
  · intro h
    have:=congrArg UInt8.toNat h
    simp only [Nat.toUInt8,UInt8.toNat_ofNat'] at this
    omega
  · rintro rfl;rfl
theorem u8_lt {m n:Nat} (hm:m<256) (hn:n<256):m.toUInt8<n.toUInt8↔m<n:=by
  rw [UInt8.lt_iff_toNat_lt]
  simp only [Nat.toUInt8,UInt8.toNat_ofNat']
  omega
def cmpP (a b:Plc):Int:=if a.toNat<b.toNat then -1 else if a=b then 0 else 1
theorem cmp_bytes (a b:Plc):Extern.BytealgCompare.cmp (Vq a) (Vq b)=cmpP a b:=by
  unfold Extern.BytealgCompare.cmp cmpP
  rw [idBytes_size,idBytes_size,Nat.min_self]
  cases hf:(List.range 20).find? fun i=>(Vq a)[i]! != (Vq b)[i]! with
  | none =>
    have h:=List.find?_eq_none.1 hf
    have e:a=b:=plc_eq fun j hj=>by
      have:=h j (List.mem_range.2 hj)
      rw [idBytes_at a hj,idBytes_at b hj] at this
      exact (u8_inj (idB_lt _ _) (idB_lt _ _)).1 (by simpa using this)
    subst e
    simp
  | some i =>
    have h1:=List.find?_some hf
    have hi:i<20:=List.mem_range.1 (List.mem_of_find?_eq_some hf)
    have h2:∀ j,j<i→idB a j=idB b j:=by
      intro j hj
      have hj':j<20:=by omega
      rw [List.find?_range_eq_some] at hf
      have:=hf.2.2 j hj
      rw [idBytes_at a hj',idBytes_at b hj'] at this
      exact (u8_inj (idB_lt _ _) (idB_lt _ _)).1 (by simpa using this)
    rw [idBytes_at a hi,idBytes_at b hi] at h1
    have hne:¬idB a i=idB b i:=fun e=>by rw [e] at h1;simp at h1
    have hl:=less_at hi h2 hne
    simp only [idBytes_at a hi,idBytes_at b hi,u8_lt (idB_lt a i) (idB_lt b i)]
    have hab:a≠b:=fun e=>hne (by rw [e])
    simp only [hl,hab,if_false]
section
variable {P:Program} {M:Mem} {H:Hp}
theorem run_loadBytes {x:Plc} {w:World} {b:Nat} {T:TypeId} (hb:w.heap[b]?=some (rowO [Yq x] T)):∀ (n k:Nat) (acc:ByteArray),k+n=20→acc.data.toList=(List.range k).map (fun i=>(idB x i).toUInt8) →
    (Extern.Bytes.loadBytes ⟨b,k,none⟩ n acc).run P w=.ok (Vq x) w
  | 0,k,acc,hk,ha=>by
    have:acc=Vq x:=by
      apply ByteArray.ext
      apply Array.ext'
      rw [ha]
      simp [Vq,show k=20 by omega]
    subst this
    rfl
  | n+1,k,acc,hk,ha=>by
    have hk':k<20:=by omega
    have hc:w.cell? ⟨b,k,none⟩=some (.int .u8 (idB x k)):=by
      rw [cell_of_row hb]
      have:=id_at' (x:=x) hk'
      simpa using this
    unfold Extern.Bytes.loadBytes
    rw [Sem.run_bind,run_load,hc]
    show (Sem.run P _ w)=_
    have:=run_loadBytes hb n (k+1) (acc.push (idB x k).toUInt8) (by omega) (by simp [ByteArray.push,ha,List.range_succ])
    simpa [Addr.add_lit] using this
theorem run_compare {a b:Plc} {ba bb:Nat} {T U:TypeId} {w:World} (ha:w.heap[ba]?=some (rowO [Yq a] T)) (hb:w.heap[bb]?=some (rowO [Yq b] U)) :
    (Extern.BytealgCompare.compare #[.slice (some ⟨ba,0,none⟩) 20 20,.slice (some ⟨bb,0,none⟩) 20 20]).run P w=.ok (.int .i64 (cmpP a b)) w:=by
  have h1:(Extern.Bytes.bytesOf (.slice (some ⟨ba,0,none⟩) 20 20)).run P w=.ok (Vq a) w:=run_loadBytes ha 20 0 .empty rfl (by rfl)
  have h2:(Extern.Bytes.bytesOf (.slice (some ⟨bb,0,none⟩) 20 20)).run P w=.ok (Vq b) w:=run_loadBytes hb 20 0 .empty rfl (by rfl)
  show (do let u ← Extern.Bytes.bytesOf (.slice (some ⟨ba,0,none⟩) 20 20);let v ← Extern.Bytes.bytesOf (.slice (some ⟨bb,0,none⟩) 20 20);pure (goInt (Extern.BytealgCompare.cmp u v)):Sem Value).run P w=_
  rw [YJ h1,YJ h2,cmp_bytes]
  rfl
end
end Go.Esp
namespace Go.Esp
def VO (a b:Plc):Prop:=a.toNat<b.toNat
instance (a b:Plc):Decidable (VO a b):=by unfold VO;exact inferInstance
theorem cmpP_neg {a b:Plc}:cmpP a b<0↔VO a b:=by
  unfold cmpP VO
  split
  · rename_i h;simp [h]
  · rename_i h
    split <;> simp [h]
def CircOk (l:List ZD):Prop:=(∀ p∈l,0≤p.addr∧p.addr≤999)∧(l.map ZD.addr).Nodup∧l.Pairwise (fun p q=>VO p.id q.id)
instance (l:List ZD):Decidable (CircOk l):=by unfold CircOk;exact inferInstance
def IsCircle (l:List ZD):Prop:=(1≤l.length∧l.length≤16)∧CircOk l
instance (l:List ZD):Decidable (IsCircle l):=by unfold IsCircle;exact inferInstance
def pO (l:List ZD) (x:Plc) (i:Nat):Bool:=match l[i]? with
  | some p=>decide (¬VO p.id x)
  | none=>true
def ownerI (l:List ZD) (x:Plc):Nat:=firstP (pO l x) l.length % l.length
def ofII (r:Int×Int):Value:=.tuple #[.int .i64 r.1,.int .i64 r.2]
def ownerR (l:List ZD) (x:Plc):Int×Int:=if IsCircle l then ((ownerI l x:Nat),0) else (0,1)
end Go.Esp
namespace Go.Esp
def VY (x:Plc) (k:Nat):Vector Value 20:=Vector.ofFn fun i:Fin 20=>if 20≤i.val+k then .int .u8 (idB x i.val) else .int .u8 0
theorem lastV_get (x:Plc) (k:Nat) {i:Nat} (h:i<20):(VY x k)[i]=if 20≤i+k then .int .u8 (idB x i) else .int .u8 0:=by
  unfold VY;rw [Vector.getElem_ofFn]
theorem lastV_none' (x:Plc):VY x 0=idV 0:=by
  apply Vector.ext;intro i hi
  rw [lastV_get x 0 hi,if_neg (by omega),VD _ hi];simp [idB]
theorem lastV_all (x:Plc):VY x 20=idV x:=by
  apply Vector.ext;intro i hi
  rw [lastV_get x 20 hi,if_pos (by omega),VD _ hi]
theorem lastV_step (x:Plc) {k:Nat} (h:k<20) {v:Int} (hv:v=(idB x (19-k):Nat)):(VY x k).set (19-k) (.int .u8 v)=VY x (k+1):=by
  subst hv
  apply Vector.ext;intro i hi
  rw [lastV_get x (k+1) hi]
  by_cases e:i=19-k
  · subst e
    rw [Vector.getElem_set_self,if_pos (by omega)]
  · rw [Vector.getElem_set_ne _ _ (Ne.symm e),lastV_get x k hi]
    by_cases h1:20≤i+k
    · rw [if_pos h1,if_pos (by omega)]
    · rw [if_neg h1,if_neg (by omega)]
def frontV (x y:Plc) (k:Nat):Vector Value 20:=Vector.ofFn fun i:Fin 20=>if i.val<k then .int .u8 (idB x i.val) else .int .u8 (idB y i.val)
theorem mod_step (A P:Nat):A % (P * 256)=A % P+P * (A / P % 256):=Nat.mod_mul
theorem pow_step (k:Nat):256 ^ (k+1)=256 ^ k * 256:=Nat.pow_succ 256 k
theorem pow20:(256:Nat) ^ 20=2 ^ 160:=by decide
theorem idB_at (x:Plc) {k:Nat} (h:k<20):idB x (19-k)=x.toNat / 256 ^ k % 256:=by
  unfold idB;rw [show 19-(19-k)=k by omega]
theorem pow_split {k:Nat} (h:k<20):∃ C,2 ^ 160=256 ^ k * (256 * C):=by
  refine ⟨256 ^ (19-k),?_⟩
  rw [← pow20,← Nat.mul_assoc,← pow_step,← Nat.pow_add];congr 1;omega
theorem big_div (X:Nat) {k:Nat} (h:k<20):X % 2 ^ 160 / 256 ^ k % 256=X / 256 ^ k % 256:=by
  obtain ⟨C,hC⟩:=pow_split h
  rw [hC,Nat.mod_mul_right_div_self,Nat.mod_mul_right_mod]
def VJ (a b:Plc) (k:Nat):Nat:=(a.toNat % 256 ^ k+b.toNat % 256 ^ k) / 256 ^ k
theorem carryK_zero (a b:Plc):VJ a b 0=0:=by unfold VJ;simp [Nat.mod_one]
theorem carryK_le (a b:Plc) (k:Nat):VJ a b k≤1:=by
  unfold VJ
  have hp:0<256 ^ k:=Nat.pow_pos (by decide)
  have h1:=Nat.mod_lt a.toNat hp
  have h2:=Nat.mod_lt b.toNat hp
  exact Nat.le_of_lt_succ ((Nat.div_lt_iff_lt_mul hp).2 (by omega))
theorem sum_step (a b:Plc) {k:Nat} (h:k<20) :
    (VJ a b k+(idB a (19-k)+idB b (19-k))) % 256=idB (a+b) (19-k)∧(VJ a b k+(idB a (19-k)+idB b (19-k))) / 256=VJ a b (k+1):=by
  rw [idB_at a h,idB_at b h,idB_at (a+b) h,BitVec.toNat_add,big_div _ h]
  unfold VJ
  rw [pow_step,mod_step,mod_step]
  have hp:0<256 ^ k:=Nat.pow_pos (by decide)
  generalize 256 ^ k=P at hp ⊢
  have e1:=Nat.div_add_mod a.toNat P
  have e2:=Nat.div_add_mod b.toNat P
  generalize a.toNat=A at *
  generalize b.toNat=B at *
  have e3:(A+B) / P=A / P+B / P+(A % P+B % P) / P:=by
    conv=>lhs;rw [← e1,← e2]
    rw [show P * (A / P)+A % P+(P * (B / P)+B % P)=(A % P+B % P)+P * (A / P+B / P) by rw [Nat.mul_add];omega,Nat.add_mul_div_left _ _ hp]
    omega
  constructor
  · rw [e3];omega
  · rw [← Nat.div_div_eq_div_mul,show A % P+P * (A / P % 256)+(B % P+P * (B / P % 256))=(A % P+B % P)+P * (A / P % 256+B / P % 256) by rw [Nat.mul_add];omega,Nat.add_mul_div_left _ _ hp]
def borrowK (a b:Plc) (k:Nat):Nat:=if a.toNat % 256 ^ k<b.toNat % 256 ^ k then 1 else 0
theorem sub_toNat (a b:Plc):(a-b).toNat=(a.toNat+(2 ^ 160-b.toNat)) % 2 ^ 160:=by
  rw [BitVec.toNat_sub];congr 1;omega
theorem pow_lt {k:Nat} (h:k<160):2 ^ k<2 ^ 160:=Nat.pow_lt_pow_right (by decide) h
def powP (k:Nat):Plc:=BitVec.ofNat 160 (2 ^ k)
theorem powP_nat {k:Nat} (h:k<160):(powP k).toNat=2 ^ k:=by
  unfold powP;rw [BitVec.toNat_ofNat,Nat.mod_eq_of_lt (pow_lt h)]
theorem powP_byte {k i:Nat} (h:k<160) (hi:i<20):idB (powP k) i=if i=19-k / 8 then 2 ^ (k % 8) else 0:=by
  unfold idB
  rw [powP_nat h,show (256:Nat)=2 ^ 8 by decide,← Nat.pow_mul]
  have hk:=Nat.div_add_mod k 8
  split
  · rename_i e
    rw [show k=8 * (19-i)+k % 8 by omega,Nat.pow_add,Nat.mul_div_cancel_left _ (Nat.pow_pos (by decide)),show (8 * (19-i)+k % 8) % 8=k % 8 by omega]
    exact Nat.mod_eq_of_lt (Nat.pow_lt_pow_right (by decide) (by omega))
  · rename_i e
    rcases Nat.lt_or_ge (k / 8) (19-i) with h1|h1
    · rw [Nat.div_eq_of_lt (Nat.pow_lt_pow_right (by decide) (by omega))]
    · obtain ⟨d,hd⟩:∃ d,k=8 * (19-i)+8+d:=⟨k-8 * (19-i)-8,by omega⟩
      rw [hd,Nat.add_assoc,Nat.pow_add,Nat.mul_div_cancel_left _ (Nat.pow_pos (by decide)),Nat.pow_add]
      exact Nat.mul_mod_right _ _
theorem powV {k:Nat} (h:k<160) {v:Int} (hv:v=((2 ^ (k % 8):Nat):Int)):(idV 0).set (19-k / 8) (.int .u8 v)=idV (powP k):=by
  subst hv
  apply Vector.ext;intro i hi
  rw [VD _ hi,powP_byte h hi]
  by_cases e:i=19-k / 8
  · subst e;rw [Vector.getElem_set_self,if_pos rfl]
  · rw [Vector.getElem_set_ne _ _ (Ne.symm e),VD _ hi,if_neg e];simp [idB]
def OpenP (a x b:Plc):Prop:=x≠a∧(a=b∨VO (x-a) (b-a))
instance (a x b:Plc):Decidable (OpenP a x b):=by unfold OpenP;exact inferInstance
def HalfP (a x b:Plc):Prop:=x=b∨OpenP a x b
instance (a x b:Plc):Decidable (HalfP a x b):=by unfold HalfP;exact inferInstance
theorem plc_nat {a b:Plc}:a=b↔a.toNat=b.toNat:=⟨fun h=>by rw [h],BitVec.eq_of_toNat_eq⟩
theorem open_arms (a x b:Plc):OpenP a x b↔(if a=b then x≠a else if VO a b then VO a x∧VO x b else VO a x∨VO x b):=by
  have ha:a.toNat<2 ^ 160:=a.isLt
  have hb:b.toNat<2 ^ 160:=b.isLt
  have hx:x.toNat<2 ^ 160:=x.isLt
  unfold OpenP
  by_cases h1:a=b
  · rw [if_pos h1];simp [h1]
  · rw [if_neg h1]
    by_cases h2:VO a b
    · rw [if_pos h2]
      unfold VO at *
      rw [sub_toNat,sub_toNat]
      simp only [ne_eq,plc_nat] at *
      omega
    · rw [if_neg h2]
      unfold VO at *
      rw [sub_toNat,sub_toNat]
      simp only [ne_eq,plc_nat] at *
      omega
theorem sum_at (a b:Plc) {m:Nat} (h:m<20):((VJ a b (20-(m+1)):Nat)+((idB a m:Nat)+(idB b m:Nat)):Int) % 256=(idB (a+b) m:Nat)∧((VJ a b (20-(m+1)):Nat)+((idB a m:Nat)+(idB b m:Nat)):Int) / 256=(VJ a b (20-m):Nat):=by
  have h1:=sum_step a b (k:=19-m) (by omega)
  rw [show 19-(19-m)=m by omega,show 19-m+1=20-m by omega] at h1
  rw [show 20-(m+1)=19-m by omega]
  omega
theorem lastV_put (x:Plc) {m:Nat} (h:m<20) {v:Int} (hv:v=(idB x m:Nat)):(VY x (20-(m+1))).set m (.int .u8 v)=VY x (20-m):=by
  have:=lastV_step x (k:=19-m) (by omega) (v:=v) (by rw [show 19-(19-m)=m by omega];exact hv)
  simp only [show 19-(19-m)=m by omega,show 19-m+1=20-m by omega] at this
  simpa only [show 20-(m+1)=19-m by omega] using this
def powR (k:Int):Plc×Int:=if 0≤k∧k<160 then (powP k.toNat,0) else (0,1)
def ofIdI (r:Plc×Int):Value:=.tuple #[aggV [Yq r.1],.int .i64 r.2]
theorem powV0 {k:Nat} (h:k<160) {j:Nat} (hj:j=19-k / 8) {v:Int} (hv:v=((2 ^ (k % 8):Nat):Int)) (hp:j<20):(idV 0).set j (.int .u8 v) hp=idV (powP k):=by
  subst hj;exact powV h hv
theorem shl_one {k:Nat}:IntKind.u8.wrap (1 * 2 ^ (min ((k % 8:Nat):Int).toNat IntKind.u8.bits))=((2 ^ (k % 8):Nat):Int):=by
  have h:k % 8<8:=Nat.mod_lt _ (by decide)
  generalize k % 8=j at h
  have:j=0∨j=1∨j=2∨j=3∨j=4∨j=5∨j=6∨j=7:=by omega
  rcases this with rfl|rfl|rfl|rfl|rfl|rfl|rfl|rfl <;> decide
end Go.Esp
set_option maxRecDepth 8000
set_option maxHeartbeats 1000000
namespace Go.Proofs.YtajmnjefajknoaaGreat
open Go.Esp
theorem F.arr23:arOf Tryz.prog 23=some (20,5):=by kernel_rfl
theorem F.ext165:Ext Tryz.prog 165 Extern.BytealgCompare.compare:=fun args w=>by kernel_rfl
theorem F.lay23:lay Tryz.prog 23=some (true,20):=by kernel_rfl
theorem F.lay5:lay Tryz.prog 5=some (false,1):=by kernel_rfl
theorem F.ok150:okFn Tryz.prog 150=true:=by kernel_rfl
theorem F.zero23:Wa Tryz.prog 23=some (aggV [Yq 0]):=by rw [VI];kernel_rfl
theorem bcmp_ok (M:Mem) (ba bb:Nat) (a b:Plc):Fo Tryz.prog 150 [.slice (some ⟨ba,0,none⟩) 20 20,.slice (some ⟨bb,0,none⟩) 20 20] M [(bb,rowO [Yq b] 23),(ba,rowO [Yq a] 23)] (fun M' v=>M'=M∧v=.int .i64 (cmpP a b)):=by
  refine WT Tryz.func150 rfl Tryz.ntmps150 rfl ?_;intro H
  refine ZI (Zm (l:=[0]) rfl ?_);refine ZB ?_;refine Zo (Zn (ZI (Zm (l:=[0,1,2,3]) rfl ?_)))
  iterate 2 refine Zv ?_
  refine X_ext rfl rfl F.ext165 rfl (fun w hw=>run_compare (hw.own _ _ (by repeat first|exact List.Mem.head _|refine List.Mem.tail _ ?_|refine List.mem_append_right _ ?_)) (hw.own _ _ (by repeat first|exact List.Mem.head _|refine List.Mem.tail _ ?_|refine List.mem_append_right _ ?_))) rfl ?_;refine ZB ?_;refine Zo (Zn (Y_pk [4] ?_));refine Yg ?_
  refine Ya (.inr rfl) (.tmp rfl .nil) (fun w hw=>?_)
  exact ⟨_,M,rfl,Mem.le.refl M,hw.c,rfl,rfl⟩
theorem Less_ok (M:Mem) (a:Plc) (b:Plc):Fs Tryz.prog 141 [aggV [Yq a],aggV [Yq b]] M (fun v=>v=Value.bool (decide (VO a b))):=by
  refine Xm Tryz.func141 rfl Tryz.ntmps141 rfl ?_;intro H
  refine ZI (Zm (l:=[0,1,2]) rfl ?_)
  refine Xk ?_;intro b1
  refine Xk ?_;intro b2
  refine ZB ?_;refine Zo (Zn (Y_pk [4,3,2] ?_));refine ZI (Yy (l:=[0,1,2,3,4]) #[0,0,3,7,15] _ rfl (by kernel_rfl) (by kernel_rfl) St.drawn (fun _ h=>h) ?_)
  iterate 2 refine X_slice_arr rfl rfl rfl F.arr23 rfl ?_
  refine X_fo rfl rfl F.ok150 rfl (bcmp_ok _ _ _ a b) (by repeat first|exact Rem.here _|exact Rem.two|apply Rem.skip|apply Rem.over) (YA rfl) ?_
  rintro _ M1 _ ⟨hM1,rfl⟩;subst M1
  refine Yz ?_;refine ZB ?_;refine Zo (Zn (Y_pk [4] ?_));refine Yg ?_
  refine Ya (.inr rfl) (.tmp rfl .nil) (fun w hw=>?_)
  refine ⟨_,rfl,(hw.c),?_⟩
  clear hw
  exact congrArg Value.bool (decide_eq_decide.2 cmpP_neg)
theorem Plus_ok (M:Mem) (a:Plc) (b:Plc):Fs Tryz.prog 86 [aggV [Yq a],aggV [Yq b]] M (fun v=>v= (aggV [Yq (a+b)])):=by
  refine Xm Tryz.func86 rfl Tryz.ntmps86 rfl ?_;intro H
  refine ZI (Zm (l:=[0,1,2]) rfl ?_)
  refine Xk ?_;intro b1
  refine Xk ?_;intro b2
  refine YT F.zero23 ?_;intro b3
  refine Zo (Zn (Y_pk [4,3,2] ?_));refine ZI (Zm (l:=[0]) rfl ?_)
  refine YT F.zero23 ?_;intro b4
  refine Zo (Zn (ZI (Zm (l:=[0]) rfl ?_)));refine ZB ?_;refine Zo (Zn ?_)
  iterate 2 refine ZI ?_
  refine Zm (l:=[0]) rfl ?_;refine ZB ?_;refine Zo (Zn (Xd (Y_pk [6,7,5,4,3,2] ?_)));refine VH (Hin:=[(b4,rowO [Yq 0] 23)]) (.succ (.succ .zero)) (by repeat first|exact Rem.here _|exact Rem.two|apply Rem.skip|apply Rem.over) (fun (j:Nat) M1 h1 z=>M1=M∧z=[(6,.int .u64 ((VJ a b (20-j):Nat):Int)),(7,.int .i64 ((j:Int)-1))]∧j≤20∧h1=[(b4,rowO [.arr 20 (VY (a+b) (20-j))] 23)]) (fun j=>j) (20) (⟨rfl,by simp only [Nat.sub_self];rw [carryK_zero];rfl,by omega,by simp only [Nat.sub_self];rw [lastV_none'];rfl⟩) ?_
  rintro j M1 h1 z hm1 ⟨hM1,rfl,hk,rfl⟩
  subst hM1
  rcases j with _|m
  ·rw [show (((0:Nat):Int)-1)=-1 from rfl,show VY (a+b) (20-0)=idV (a+b) from lastV_all _]
   iterate 2 refine ZI ?_
   refine Zm (l:=[0,1]) rfl ?_;refine Zv ?_;refine Yz ?_;refine Zo (Zn ?_)
   refine Yx rfl (fun hc5=>?_) (fun hc5=>?_)
   ·replace hc5:=dT hc5
    (exfalso;omega)
   ·replace hc5:=dF hc5
    refine XS ?_
    iterate 2 refine XM ?_
    refine Wl (Zn (Y_pk [5,4] ?_));refine ZI (Zm (l:=[0,1]) rfl ?_);refine ZH F.lay23 ?_;refine Yi F.lay23 ?_;refine Zo (Zn (Y_pk [4] ?_));refine Yg ?_
    refine Ya (.inr rfl) (.cell rfl (by repeat first|exact List.Mem.head _|refine List.Mem.tail _ ?_|refine List.mem_append_right _ ?_) F.lay23 rfl rfl .nil) (fun w hw=>?_)
    refine ⟨_,rfl,(hw.c),?_⟩
    clear hw
    rfl
  ·rw [show (((m+1:Nat):Int)-1)=(m:Int) by omega]
   have ha:=idB_lt a m
   have hb:=idB_lt b m
   have hc:=carryK_le a b (20-(m+1))
   have hs:=sum_at a b (m:=m) (by omega)
   iterate 2 refine ZI ?_
   refine Zm (l:=[0,1]) rfl ?_;refine Zv ?_;refine Yz ?_;refine Zo (Zn ?_)
   refine Yx rfl (fun hc6=>?_) (fun hc6=>?_)
   ·replace hc6:=dT hc6
    refine Yv (Zn (ZI (Xd (ZI (Yy (l:=[0,1,2,3,4,5,6,7,8,9,10,11]) #[0,0,2,6,14,0,32,96,224,510,1023,2047] _ rfl (by kernel_rfl) (by kernel_rfl) St.drawn (fun _ h=>h) ?_)))))
    iterate 2 refine Zv ?_
    refine X_indexAddr_arr rfl rfl rfl rfl F.arr23 (by rfl) (by omega) rfl ?_;refine X_load_cell rfl rfl rfl (by repeat first|exact List.Mem.head _|refine List.Mem.tail _ ?_|refine List.mem_append_right _ ?_) F.lay5 (by exact id_at (by omega)) rfl ?_;refine X_conv rfl rfl rfl Tryz.underlying5 Tryz.underlying129 (by exact wrap_u64_in (by decide) (by omega)) rfl ?_;refine Zv ?_;refine X_indexAddr_arr rfl rfl rfl rfl F.arr23 (by rfl) (by omega) rfl ?_;refine X_load_cell rfl rfl rfl (by repeat first|exact List.Mem.head _|refine List.Mem.tail _ ?_|refine List.mem_append_right _ ?_) F.lay5 (by exact id_at (by omega)) rfl ?_;refine X_conv rfl rfl rfl Tryz.underlying5 Tryz.underlying129 (by exact wrap_u64_in (by decide) (by omega)) rfl ?_
    iterate 2 refine XN rfl rfl rfl rfl rfl (by exact wrap_u64_in (by decide) (by omega)) rfl ?_
    refine ZB ?_;refine Zo (Zn (ZI (Zm (l:=[0,1,2,3,4]) rfl ?_)))
    iterate 2 refine Zv ?_
    refine X_conv rfl rfl rfl Tryz.underlying129 Tryz.underlying5 (by exact wrap_u8 _) rfl ?_;refine X_indexAddr_arr rfl rfl rfl rfl F.arr23 (by rfl) (by omega) rfl ?_;refine X_store_cell rfl rfl rfl rfl rfl rfl (by repeat first|exact Upd.head|apply Upd.tail|apply Upd.over) F.lay5 (arr_len (by omega)) (arr_set (by omega)) ?_
    rw [lastV_put (a+b) (m:=m) (by omega) (by exact hs.1)]
    refine Zo (Zn (Zm (l:=[0,1,2]) rfl ?_));refine Zv ?_;refine X_shift rfl rfl rfl rfl (by decide) (shr_lit 8 (by decide)) rfl rfl ?_;refine ZB ?_;refine Zo (XV (Zn (Zm (l:=[0,1,2]) rfl ?_)));refine Zv ?_;refine XN rfl rfl rfl rfl rfl (by exact Xn (by decide) (by omega)) rfl ?_;refine ZB ?_;refine Zo ?_;refine Wq (a':=[(6,_),(7,_)]) (m) ([(b4,rowO [.arr 20 (VY (a+b) (20-m))] 23)]) (.cons (k:=6) rfl (.cons (k:=7) rfl (.cons (k:=5) rfl (.cons (k:=4) rfl (.cons (k:=3) rfl (.cons (k:=2) rfl (.nil))))))) (by exact Mem.le.refl _) (fun w hw=>by first|exact hw|exact hw.c) ?_ ?_
    ·refine ⟨rfl,?_,by omega,rfl⟩
     exact congrArg (fun v=>[(6,Value.int .u64 v),(7,Value.int .i64 ((m:Int)-1))]) (by simpa using hs.2)
    ·omega
   ·replace hc6:=dF hc6
    (exfalso;omega)
end Go.Proofs.YtajmnjefajknoaaGreat
namespace Go.Esp
def idxF {α:Type} (p:α→Bool) (l:List α):Int:=if l.any p then (l.findIdx p:Int) else -1
theorem idxF_at {α:Type} {p:α→Bool} {l:List α} {k:Nat} (hk:k<l.length) (h1:∀ j (h:j<k),p (l[j]'(by omega))=false) (h2:p l[k]=true):idxF p l=k:=by
  unfold idxF
  rw [if_pos (List.any_eq_true.2 ⟨_,List.getElem_mem hk,h2⟩)]
  congr 1
  exact (List.findIdx_eq hk).2 ⟨h2,fun j hj=>by simpa using h1 j hj⟩
theorem idxF_none {α:Type} {p:α→Bool} {l:List α} (h:∀ j (h:j<l.length),p l[j]=false):idxF p l=-1:=by
  unfold idxF
  rw [if_neg]
  intro ha
  obtain ⟨x,hx,hp⟩:=List.any_eq_true.1 ha
  obtain ⟨j,hj,rfl⟩:=List.getElem_of_mem hx
  rw [h j hj] at hp;cases hp
theorem idxF_nn {α:Type} {p:α→Bool} {l:List α}:decide (0≤idxF p l)=l.any p:=by
  unfold idxF
  by_cases h:l.any p=true
  · rw [if_pos h,h];simp
  · rw [if_neg h];simp at h;simp;exact h
def bsP {α:Type} (cmp:α→Int) (l:List α) (j:Nat):Bool:=match l[j]? with
  | some y=>decide (0≤cmp y)
  | none=>false
def bsAt {α:Type} (cmp:α→Int) (l:List α):Nat:=firstP (bsP cmp l) l.length
def bsIs {α:Type} (cmp:α→Int) (l:List α):Bool:=match l[bsAt cmp l]? with
  | some y=>decide (cmp y=0)
  | none=>false
end Go.Esp
namespace Go.Esp
def YH (a:Int):Prop:=0≤a∧a≤999
instance (a:Int):Decidable (YH a):=by unfold YH;exact inferInstance
def YW:ZD:=⟨-1,0⟩
def Xr (s p:ZD):Prop:=YH p.addr∧p.addr≠s.addr∧p.id≠s.id
instance (s p:ZD):Decidable (Xr s p):=by unfold Xr;exact inferInstance
def VF (s p:ZD):Prop:=p=YW∨Xr s p
instance (s p:ZD):Decidable (VF s p):=by unfold VF;exact inferInstance
def hasA (l:List ZD) (a:Int):Prop:=a∈l.map ZD.addr
instance (l:List ZD) (a:Int):Decidable (hasA l a):=by unfold hasA;exact inferInstance
structure Tb where
  self:ZD
  pred:ZD
  succ:List ZD
  fingers:List ZD
  deriving DecidableEq
def ZL.tb (t:ZL):Tb:=⟨t.self,t.pred,t.succ.l,t.fingers.l⟩
def VT (s:ZD) (l:List ZD):Prop:=(∀ p∈l,Xr s p)∧(l.map ZD.addr).Nodup
instance (s:ZD) (l:List ZD):Decidable (VT s l):=by unfold VT;exact inferInstance
def IsTb (t:Tb):Prop:=YH t.self.addr∧VF t.self t.pred∧t.succ.length≤8∧t.fingers.length=160∧VT t.self t.succ∧∀ p∈t.fingers,VF t.self p
instance (t:Tb):Decidable (IsTb t):=by unfold IsTb;exact inferInstance
def Tb.zero:Tb:=⟨⟨0,0⟩,⟨0,0⟩,[],[]⟩
def newT (self:ZD):Tb×Int:=if YH self.addr then (⟨self,YW,[],List.replicate 160 YW⟩,0) else (Tb.zero,1)
def Xl (t:Tb):ZD:=t.succ.headD t.self
def CloserT (t:Tb) (p:ZD):Prop:=Xr t.self p∧OpenP t.self.id p.id (Xl t).id
instance (t:Tb) (p:ZD):Decidable (CloserT t p):=by unfold CloserT;exact inferInstance
def Vx (s:ZD) (r:Int):List ZD→List ZD→List ZD
  | acc,[]=>acc
  | acc,p::rest=>if ¬Xr s p∨(acc.length:Int)=r then acc else if hasA acc p.addr then Vx s r acc rest else Vx s r (acc++[p]) rest
def Vz (t:Tb) (first:ZD) (rest:List ZD) (r:Int):Tb×Int :=
  if IsTb t∧Xr t.self first∧1≤r∧r≤8 then ({ t with succ:=Vx t.self r [first] rest },0) else (Tb.zero,1)
def VC (t:Tb) (p:ZD):Tb:=if IsTb t∧Xr t.self p∧(t.pred=YW∨OpenP t.pred.id p.id t.self.id) then { t with pred:=p } else t
def inArc (s p:ZD) (j:Nat):Bool:=decide (HalfP s.id (s.id+powP j) p.id)
def WL (s p:ZD) (k:Nat):Nat→Nat→Nat
  | j,0=>j
  | j,n+1=>if k<j∧inArc s p j=false then j else WL s p k (j+1) n
def fingerOf (t:Tb) (p:ZD):ZD:=if p=t.self then YW else p
def WZ (t:Tb) (k:Int) (p:ZD):Tb×Int×Int :=
  if IsTb t∧(0≤k∧k<160)∧(p=t.self∨Xr t.self p) then
    let e:=WL t.self p k.toNat k.toNat (160-k.toNat)
    ({ t with fingers:=t.fingers.take k.toNat++List.replicate (e-k.toNat) (fingerOf t p)++t.fingers.drop e },if e=160 then 0 else e,0)
  else (Tb.zero,0,1)
def Wg (t:Tb) (a:Int):Tb :=
  ⟨t.self,if t.pred.addr=a then YW else t.pred,t.succ.filter (fun p=>p.addr≠a),t.fingers.map (fun p=>if p.addr=a then YW else p)⟩
def insP (p:ZD):List ZD→List ZD
  | []=>[p]
  | q::l=>if q.addr<p.addr then q::insP p l else p::q::l
def knownStep (s:ZD) (out:List ZD) (p:ZD):List ZD:=if p.addr<0∨p.addr=s.addr∨hasA out p.addr then out else insP p out
def knownT (t:Tb):List ZD:=(t.pred::(t.succ++t.fingers)).foldl (knownStep t.self) []
def nearStep (s:ZD) (id:Plc) (avoid:List Int) (b:ZD×Bool) (p:ZD):ZD×Bool :=
  if p.addr∈avoid∨¬OpenP s.id p.id id then b else if b.2=false∨OpenP b.1.id p.id id then (p,true) else b
def WB (t:Tb) (id:Plc) (avoid:List Int):ZD×Bool:=(knownT t).foldl (nearStep t.self id avoid) (YW,false)
def VN (t:Tb) (id:Plc):ZD×Bool:=(Xl t,decide (HalfP t.self.id id (Xl t).id))
theorem any_has {l:List ZD} {a:Int}:(l.any fun p=>decide (p.addr=a))=decide (hasA l a):=by
  rw [Bool.eq_iff_iff];simp [hasA,List.mem_map]
theorem hasA_at {l:List ZD} {a:Int} {k:Nat} (hk:k<l.length) (h:l[k].addr=a):hasA l a:=List.mem_map.2 ⟨_,List.getElem_mem hk,h⟩
theorem hasA_none {l:List ZD} {a:Int} (h:∀ j (h:j<l.length),¬l[j].addr=a):¬hasA l a:=by
  intro hm
  obtain ⟨p,hp,rfl⟩:=List.mem_map.1 hm
  obtain ⟨j,hj,rfl⟩:=List.getElem_of_mem hp
  exact h j hj rfl
theorem succOk_take {s:ZD} {l:List ZD} {k:Nat} (hk:k<l.length):VT s (l.take (k+1))↔VT s (l.take k)∧Xr s l[k]∧¬hasA (l.take k) l[k].addr:=by
  have e:l.take (k+1)=l.take k++[l[k]]:=by rw [List.take_add_one,List.getElem?_eq_getElem hk];rfl
  rw [e]
  unfold VT hasA
  simp only [List.mem_append,List.mem_singleton,List.map_append,List.map_cons,List.map_nil,List.nodup_append,List.nodup_cons,List.not_mem_nil,not_false_eq_true,List.nodup_nil,and_true,true_and]
  constructor
  · rintro ⟨h1,h2,h3⟩
    exact ⟨⟨fun p hp=>h1 p (.inl hp),h2⟩,h1 _ (.inr rfl),fun hm=>h3 _ hm _ rfl rfl⟩
  · rintro ⟨⟨h1,h2⟩,h3,h4⟩
    refine ⟨fun p hp=>?_,h2,fun a ha b hb=>?_⟩
    · rcases hp with hp|rfl
      · exact h1 p hp
      · exact h3
    · subst hb;intro e;subst e;exact h4 ha
theorem succOk_pre {s:ZD} {l:List ZD} (h:VT s l) (k:Nat):VT s (l.take k):=⟨fun p hp=>h.1 p (List.mem_of_mem_take hp),h.2.sublist ((List.take_sublist k l).map _)⟩
def TabIs (M:Mem) (v:Value) (T:Tb):Prop:=∃ t:ZL,v=t.enc∧t.tb=T∧ZL.ok M t
theorem TabIs.mono {M M':Mem} {v:Value} {T:Tb} (h:TabIs M v T) (hm:M.le M'):TabIs M' v T:=let ⟨t,h1,h2,h3⟩:=h;⟨t,h1,h2,h3.mono hm⟩
theorem WA {M:Mem} {sa:Int} {si:Plc} {pa:Int} {pi:Plc} {s1 s2:Sl ZD} {v1 v2:Value} {T:Tb} (h1:v1=s1.val) (h2:v2=s2.val) (k1:SlK M ZD.segs 21 s1) (k2:SlK M ZD.segs 21 s2) (hT:(⟨⟨sa,si⟩,⟨pa,pi⟩,s1.l,s2.l⟩:Tb)=T) :
    TabIs M (aggV [.one (.int .i64 sa),Yq si,.one (.int .i64 pa),Yq pi,.one v1,.one v2]) T:=by
  subst h1 h2
  exact ⟨⟨⟨sa,si⟩,⟨pa,pi⟩,s1,s2⟩,rfl,hT,⟨k1,k2⟩⟩
theorem WK {M:Mem}:TabIs M (aggV [.one (.int .i64 0),Yq 0,.one (.int .i64 0),Yq 0,.one (.slice none 0 0),.one (.slice none 0 0)]) Tb.zero:=⟨ZL.zero,rfl,rfl,ZL.zero_ok M⟩
def TabE (M:Mem) (v:Value) (r:Tb×Int):Prop:=∃ u,v=.tuple #[u,.int .i64 r.2]∧TabIs M u r.1
theorem isTb_small {t:ZL} (h:IsTb t.tb):t.succ.l.length≤40∧t.fingers.l.length≤200:=by
  obtain ⟨_,_,h1,h2,_⟩:=h
  simp only [ZL.tb] at h1 h2
  omega
def kept {α:Type} (p:α→Bool) (l:List α):List α:=l.filter (fun x=>!p x)
theorem kept_none {α:Type} {p:α→Bool} {l:List α} (h:idxF p l=-1):kept p l=l:=by
  unfold idxF at h
  split at h
  · rename_i h1;omega
  · rename_i h1
    unfold kept
    rw [List.filter_eq_self]
    intro x hx
    simp at h1
    simp [h1 x hx]
theorem idxF_some {α:Type} {p:α→Bool} {l:List α} (h:idxF p l≠-1):∃ i,idxF p l=(i:Nat)∧∃ hi:i<l.length,kept p (l.take (i+1))=l.take i∧p l[i]=true:=by
  unfold idxF at h ⊢
  split
  · rename_i h1
    have hi:l.findIdx p<l.length:=List.findIdx_lt_length_of_exists (by simpa using h1)
    refine ⟨l.findIdx p,rfl,hi,?_,List.findIdx_getElem (w:=hi)⟩
    unfold kept
    rw [List.take_add_one,List.getElem?_eq_getElem hi,List.filter_append]
    have e1:(l.take (l.findIdx p)).filter (fun x=>!p x)=l.take (l.findIdx p):=by
      rw [List.filter_eq_self]
      intro x hx
      obtain ⟨j,hj,rfl⟩:=List.mem_take_iff_getElem.1 hx
      have:=List.not_of_lt_findIdx (p:=p) (xs:=l) (i:=j) (by omega)
      simp [this]
    have e2:p (l[l.findIdx p])=true:=List.findIdx_getElem (w:=hi)
    rw [e1];simp [e2]
  · rename_i h1;rw [if_neg h1] at h;exact (h rfl).elim
theorem filt_step {α:Type} {p:α→Bool} {l:List α} {j:Nat} (hj:j<l.length):kept p (l.take (j+1))=if p l[j] then kept p (l.take j) else kept p (l.take j)++[l[j]]:=by
  unfold kept
  rw [List.take_add_one,List.getElem?_eq_getElem hj,List.filter_append]
  cases h:p l[j] <;> simp [h]
theorem keep_put {α:Type} {w l:List α} {i j:Nat} {q:List α} (hw:w.length=l.length) (hij:i<j) (hj:j<l.length) (h1:w.take i=q) (h2:w.drop j=l.drop j):(w.set i l[j]).length=l.length∧(w.set i l[j]).take (i+1)=q++[l[j]]∧(w.set i l[j]).drop (j+1)=l.drop (j+1):=by
  refine ⟨by simpa using hw,?_,?_⟩
  · rw [List.take_add_one,List.getElem?_set_self (by omega),List.take_set_of_le (Nat.le_refl i),h1];rfl
  · rw [List.drop_set_of_lt (by omega)]
    have:=congrArg (List.drop 1) h2
    simpa [List.drop_drop] using this
theorem drop_at {α:Type} {w l:List α} {j:Nat} (hw:w.length=l.length) (hj:j<l.length) (h2:w.drop j=l.drop j):w[j]'(by omega)=l[j]:=by
  have e1:=List.drop_eq_getElem_cons (l:=w) (i:=j) (by omega)
  have e2:=List.drop_eq_getElem_cons (l:=l) (i:=j) hj
  rw [e1,e2] at h2
  exact (List.cons.inj h2).1
theorem kept_ne {l:List ZD} {a:Int}:kept (fun p=>decide (p.addr=a)) l=l.filter (fun p=>p.addr≠a):=by
  unfold kept;congr 1;funext p;simp
def gone1 (a:Int) (p:ZD):ZD:=if p.addr=a then YW else p
theorem turn_step {α:Type} {w l:List α} {f:α→α} {k:Nat} (hw:w.length=l.length) (hk:k<l.length) (h1:w.take k=(l.take k).map f) (h2:w.drop k=l.drop k) {x:α} (hx:x=f l[k]) :
    (w.set k x).length=l.length∧(w.set k x).take (k+1)=(l.take (k+1)).map f∧(w.set k x).drop (k+1)=l.drop (k+1):=by
  refine ⟨by simpa using hw,?_,?_⟩
  · rw [List.take_add_one,List.getElem?_set_self (by omega),List.take_set_of_le (Nat.le_refl k),h1,List.take_add_one,List.getElem?_eq_getElem hk,List.map_append,hx];rfl
  · rw [List.drop_set_of_lt (by omega)]
    have:=congrArg (List.drop 1) h2
    simpa [List.drop_drop] using this
theorem turn_stay {α:Type} {w l:List α} {f:α→α} {k:Nat} (hw:w.length=l.length) (hk:k<l.length) (h1:w.take k=(l.take k).map f) (h2:w.drop k=l.drop k) (hx:l[k]=f l[k]) :
    w.take (k+1)=(l.take (k+1)).map f∧w.drop (k+1)=l.drop (k+1):=by
  constructor
  · rw [List.take_add_one,List.getElem?_eq_getElem (by omega),drop_at hw hk h2,h1,List.take_add_one,List.getElem?_eq_getElem hk,List.map_append]
    simp [← hx]
  · have:=congrArg (List.drop 1) h2
    simpa [List.drop_drop] using this
def ofPB (r:ZD×Bool):Value:=.tuple #[r.1.enc,.bool r.2]
end Go.Esp
namespace Go.Proofs.YtajmnjefajknoaaGreat
open Go.Esp
theorem F.bld25:Bld Tryz.prog 25 [[.one (.int .i64 0)],[Yq 0]]:=by rw [VI];exact ⟨by kernel_rfl,by kernel_rfl⟩
theorem F.guard23:Tryz.prog.eqGuardType Tryz.prog.depth 23=false:=by kernel_rfl
theorem F.kinds23:WW Tryz.prog 20 23=some [.i .u8,.i .u8,.i .u8,.i .u8,.i .u8,.i .u8,.i .u8,.i .u8,.i .u8,.i .u8,.i .u8,.i .u8,.i .u8,.i .u8,.i .u8,.i .u8,.i .u8,.i .u8,.i .u8,.i .u8]:=by kernel_rfl
theorem F.lay25:lay Tryz.prog 25=some (true,21):=by kernel_rfl
theorem F.ok114:okFn Tryz.prog 114=true:=by kernel_rfl
theorem F.ok141:okFn Tryz.prog 141=true:=by kernel_rfl
theorem F.zero25:Wa Tryz.prog 25=some (aggV [.one (.int .i64 0),Yq 0]):=by rw [VI];kernel_rfl
theorem Power_ok_in (M:Mem) (n:Nat) (h:n<160):Fs Tryz.prog 85 [.int .i64 (n:Int)] M (fun v=>v=.tuple #[aggV [Yq (powP n)],.int .i64 0]):=by
  have h8:((n:Nat):Int) % 8=((n % 8:Nat):Int):=(Int.natCast_emod _ _).symm
  have h9:(19:Int)-((n:Nat):Int) / 8=((19-n / 8:Nat):Int):=by omega
  refine Xm Tryz.func85 rfl Tryz.ntmps85 rfl ?_;intro H
  refine ZI (Zm (l:=[0,1]) rfl ?_)
  refine YT F.zero23 ?_;intro b1
  refine ZB ?_;refine Zo (Zn (ZI (Zm (l:=[0]) rfl ?_)))
  refine YT F.zero23 ?_;intro b2
  refine Zo (Zn ?_)
  iterate 2 refine ZI ?_
  refine Zm (l:=[0,1,2,3,4,5]) rfl ?_;refine Zv ?_;refine Yz ?_;refine Zv ?_
  refine Yh 7 rfl (fun hc3=>?_) (fun hc3=>?_)
  ·replace hc3:=dT hc3
   (exfalso;omega)
  ·replace hc3:=dF hc3
   refine Zv ?_;refine Yz ?_;refine ZK ?_;refine Zo (Zn (Y_pk [10,4,3,2,0] ?_))
   refine Yx rfl (fun hc4=>?_) (fun hc4=>?_)
   ·replace hc4:=dT hc4
    (exfalso;omega)
   ·replace hc4:=dF hc4
    refine Yv (Zn (Y_pk [4,3,2,0] ?_));refine ZI (Zm (l:=[0,1,2,3,4,5,6,7]) rfl ?_);refine Zv ?_;refine X_quo rfl rfl rfl rfl (by decide) (by exact quo_in rfl (by omega) (by omega) (by omega)) rfl ?_;refine XN rfl rfl rfl rfl rfl (by exact Xn (by decide) (by omega)) rfl ?_
    rw [h9]
    refine Zv ?_;refine X_rem rfl rfl rfl rfl (by decide) (by exact rem_nn (by omega)) rfl ?_
    rw [h8]
    refine X_shift rfl rfl rfl rfl (by omega) rfl rfl rfl ?_;refine X_indexAddr_arr rfl rfl rfl rfl F.arr23 (by rfl) (by omega) rfl ?_
    have hl8:n / 8≤19:=by omega
    refine X_store_cell rfl rfl rfl rfl rfl rfl (by repeat first|exact Upd.head|apply Upd.tail|apply Upd.over) F.lay5 (arr_len (by omega)) (arr_set (by omega)) ?_
    rw [powV0 (k:=n) h rfl shl_one (by omega)]
    refine Zo (Zn (Y_pk [4,3,2] ?_));refine ZI (Zm (l:=[0,1,2]) rfl ?_);refine ZH F.lay23 ?_;refine Yi F.lay23 ?_;refine ZB ?_;refine Zo (Zn (Y_pk [3,2] ?_));refine Yg ?_
    refine Ya (.inr rfl) (.cell rfl (by repeat first|exact List.Mem.head _|refine List.Mem.tail _ ?_|refine List.mem_append_right _ ?_) F.lay23 rfl rfl (.tmp rfl .nil)) (fun w hw=>?_)
    refine ⟨_,rfl,(hw.c),?_⟩
    clear hw
    rfl
theorem Open_ok (M:Mem) (a:Plc) (x:Plc) (b:Plc):Fs Tryz.prog 114 [aggV [Yq a],aggV [Yq x],aggV [Yq b]] M (fun v=>v=Value.bool (decide (OpenP a x b))):=by
  refine Xm Tryz.func114 rfl Tryz.ntmps114 rfl ?_;intro H
  refine ZI (Zm (l:=[0,1,2,3]) rfl ?_)
  refine Xk ?_;intro b1
  refine Xk ?_;intro b2
  refine Xk ?_;intro b3
  refine ZB ?_;refine Zo (Zn (Y_pk [6,5,4,3] ?_));refine ZI (Xd (ZI (Zm (l:=[0,1,2,3]) rfl ?_)))
  iterate 2 refine ZH F.lay23 ?_
  refine Wf (m:=20) rfl rfl rfl rfl rfl (by constructor) (by constructor) F.lay23 F.kinds23 rfl F.guard23 (Vg WE) (Vg WE) rfl rfl rfl ?_;intro c4 he5
  replace he5:c4=true↔Segs.cells _=Segs.cells _:=he5
  obtain rfl:=eqD he5 (cells_id1 (x:=_) (y:=_));clear he5
  refine ZB ?_;refine Zo (Zn (Y_pk [7,6,5,4,3] ?_))
  refine Yx rfl (fun hc6=>?_) (fun hc6=>?_)
  ·replace hc6:=dT hc6
   refine ZI (Zm (l:=[0,1,2,3]) rfl ?_)
   iterate 2 refine ZH F.lay23 ?_
   refine Wf (m:=20) rfl rfl rfl rfl rfl (by constructor) (by constructor) F.lay23 F.kinds23 rfl F.guard23 (Vg WE) (Vg WE) rfl rfl rfl ?_;intro c7 he8
   replace he8:c7=true↔¬(Segs.cells _=Segs.cells _):=he8
   obtain rfl:=neD he8 (cells_id1 (x:=_) (y:=_));clear he8
   refine ZB ?_;refine Zo (Zn (Y_pk [6,5,4,3] ?_));refine Yg (Xi (YG ?_))
   refine Ya (.inr rfl) (.tmp rfl .nil) (fun w hw=>?_)
   refine ⟨_,rfl,(hw.c),?_⟩
   clear hw
   refine congrArg Value.bool ?_
   simp_all [open_arms]
  ·replace hc6:=dF hc6
   refine ZI (Zm (l:=[0,1,2,3]) rfl ?_)
   iterate 2 refine ZH F.lay23 ?_
   refine X_fs rfl rfl F.ok141 rfl (Less_ok _ _ _) rfl ?_
   rintro _ rfl
   refine ZB ?_;refine Zo (Zn (Y_pk [14,6,5,4,3] ?_))
   refine Yx rfl (fun hc9=>?_) (fun hc9=>?_)
   ·replace hc9:=dT hc9
    refine ZI (Zm (l:=[0,1,2,3,4,5,6,7,8]) rfl ?_)
    iterate 2 refine ZH F.lay23 ?_
    refine X_fs rfl rfl F.ok141 rfl (Less_ok _ _ _) rfl ?_
    rintro _ rfl
    refine Zv ?_
    refine Yh 21 rfl (fun hc10=>?_) (fun hc10=>?_)
    ·replace hc10:=dT hc10
     iterate 2 refine ZH F.lay23 ?_
     refine X_fs rfl rfl F.ok141 rfl (Less_ok _ _ _) rfl ?_
     rintro _ rfl
     refine ZK ?_;refine ZB ?_;refine Zo (Zn (Y_pk [6,5,4,3] ?_));refine Yg (Xi (YG ?_))
     refine Ya (.inr rfl) (.tmp rfl .nil) (fun w hw=>?_)
     refine ⟨_,rfl,(hw.c),?_⟩
     clear hw
     refine congrArg Value.bool ?_
     simp_all [open_arms]
    ·replace hc10:=dF hc10
     iterate 3 refine ZU ?_
     refine ZK ?_;refine ZB ?_;refine Zo (Zn (Y_pk [6,5,4,3] ?_));refine Yg (Xi (YG ?_))
     refine Ya (.inr rfl) (.tmp rfl .nil) (fun w hw=>?_)
     refine ⟨_,rfl,(hw.c),?_⟩
     clear hw
     refine congrArg Value.bool ?_
     simp_all [open_arms]
   ·replace hc9:=dF hc9
    refine Yv (XV (Zn (Y_pk [6,5,4,3] ?_)));refine ZI (Zm (l:=[0,1,2,3,4,5,6,7,8]) rfl ?_)
    iterate 2 refine ZH F.lay23 ?_
    refine X_fs rfl rfl F.ok141 rfl (Less_ok _ _ _) rfl ?_
    rintro _ rfl
    refine Zv ?_
    refine Yh 29 rfl (fun hc11=>?_) (fun hc11=>?_)
    ·replace hc11:=dT hc11
     iterate 3 refine ZU ?_
     refine ZK ?_;refine ZB ?_;refine Zo (Zn (Y_pk [6] ?_));refine Yg ?_
     refine Ya (.inr rfl) (.tmp rfl .nil) (fun w hw=>?_)
     refine ⟨_,rfl,(hw.c),?_⟩
     clear hw
     refine congrArg Value.bool ?_
     simp_all [open_arms]
    ·replace hc11:=dF hc11
     iterate 2 refine ZH F.lay23 ?_
     refine X_fs rfl rfl F.ok141 rfl (Less_ok _ _ _) rfl ?_
     rintro _ rfl
     refine ZK ?_;refine ZB ?_;refine Zo (Zn (Y_pk [6] ?_));refine Yg ?_
     refine Ya (.inr rfl) (.tmp rfl .nil) (fun w hw=>?_)
     refine ⟨_,rfl,(hw.c),?_⟩
     clear hw
     refine congrArg Value.bool ?_
     simp_all [open_arms]
theorem Half_ok (M:Mem) (a:Plc) (x:Plc) (b:Plc):Fs Tryz.prog 62 [aggV [Yq a],aggV [Yq x],aggV [Yq b]] M (fun v=>v=Value.bool (decide (HalfP a x b))):=by
  refine Xm Tryz.func62 rfl Tryz.ntmps62 rfl ?_;intro H
  refine ZI (Zm (l:=[0,1,2,3]) rfl ?_)
  refine Xk ?_;intro b1
  refine Xk ?_;intro b2
  refine Xk ?_;intro b3
  refine ZB ?_;refine Zo (Zn (Y_pk [6,5,4,3] ?_));refine ZI (Zm (l:=[0,1,2,3,4,5,6,7,8,9]) rfl ?_)
  iterate 2 refine ZH F.lay23 ?_
  refine Wf (m:=20) rfl rfl rfl rfl rfl (by constructor) (by constructor) F.lay23 F.kinds23 rfl F.guard23 (Vg WE) (Vg WE) rfl rfl rfl ?_;intro c4 he5
  replace he5:c4=true↔Segs.cells _=Segs.cells _:=he5
  obtain rfl:=eqD he5 (cells_id1 (x:=_) (y:=_));clear he5
  refine Zv ?_
  refine Yh 10 rfl (fun hc6=>?_) (fun hc6=>?_)
  ·replace hc6:=dT hc6
   iterate 4 refine ZU ?_
   refine ZK ?_;refine ZB ?_;refine Zo (Zn (Y_pk [6] ?_));refine Yg ?_
   refine Ya (.inr rfl) (.tmp rfl .nil) (fun w hw=>?_)
   refine ⟨_,rfl,(hw.c),?_⟩
   clear hw
   refine congrArg Value.bool ?_
   simp_all [HalfP]
  ·replace hc6:=dF hc6
   iterate 3 refine ZH F.lay23 ?_
   refine X_fs rfl rfl F.ok114 rfl (Open_ok _ _ _ _) rfl ?_
   rintro _ rfl
   refine ZK ?_;refine ZB ?_;refine Zo (Zn (Y_pk [6] ?_));refine Yg ?_
   refine Ya (.inr rfl) (.tmp rfl .nil) (fun w hw=>?_)
   refine ⟨_,rfl,(hw.c),?_⟩
   clear hw
   refine congrArg Value.bool ?_
   simp_all [HalfP]
theorem WO (M:Mem):Fs Tryz.prog 66 [] M (fun v=>v= (YW.enc)):=by
  refine Xm Tryz.func66 rfl Tryz.ntmps66 rfl ?_;intro H
  refine ZI (Zm (l:=[0]) rfl ?_)
  refine YT F.zero25 ?_;intro b1
  refine Zo (Zn (ZI (Zm (l:=[0,1]) rfl ?_)));refine Xg rfl rfl F.bld25 (.cons rfl (by constructor) .nil) rfl rfl ?_;refine Yi F.lay25 ?_;refine Zo (Zn (Y_pk [0] ?_));refine Yg ?_
  refine Ya (.inr rfl) (.cell rfl (by repeat first|exact List.Mem.head _|refine List.Mem.tail _ ?_|refine List.mem_append_right _ ?_) F.lay25 rfl rfl .nil) (fun w hw=>?_)
  refine ⟨_,rfl,(hw.c),?_⟩
  clear hw
  rfl
theorem rNone_ok (M:Mem):Fs Tryz.prog 67 [] M (fun v=>v= (YW.enc)):=by
  refine Xm Tryz.func67 rfl Tryz.ntmps67 rfl ?_;intro H
  refine ZI (Zm (l:=[0]) rfl ?_)
  refine YT F.zero25 ?_;intro b1
  refine Zo (Zn (ZI (Zm (l:=[0,1]) rfl ?_)));refine Xg rfl rfl F.bld25 (.cons rfl (by constructor) .nil) rfl rfl ?_;refine Yi F.lay25 ?_;refine Zo (Zn (Y_pk [0] ?_));refine Yg ?_
  refine Ya (.inr rfl) (.cell rfl (by repeat first|exact List.Mem.head _|refine List.Mem.tail _ ?_|refine List.mem_append_right _ ?_) F.lay25 rfl rfl .nil) (fun w hw=>?_)
  refine ⟨_,rfl,(hw.c),?_⟩
  clear hw
  rfl
end Go.Proofs.YtajmnjefajknoaaGreat
namespace Go.Proofs.YtajmnjefajknoaaGreat
open Go.Esp
theorem F.elem26:slOf Tryz.prog 26=some (25,21,32):=by kernel_rfl
theorem F.foff25_0:foff Tryz.prog 25 0=some 0:=by kernel_rfl
theorem F.foff25_1:foff Tryz.prog 25 1=some 1:=by kernel_rfl
theorem F.foff28_0:foff Tryz.prog 28 0=some 0:=by kernel_rfl
theorem F.guard25:Tryz.prog.eqGuardType Tryz.prog.depth 25=false:=by kernel_rfl
theorem F.kinds25:WW Tryz.prog 20 25=some [.i .i64,.i .u8,.i .u8,.i .u8,.i .u8,.i .u8,.i .u8,.i .u8,.i .u8,.i .u8,.i .u8,.i .u8,.i .u8,.i .u8,.i .u8,.i .u8,.i .u8,.i .u8,.i .u8,.i .u8,.i .u8]:=by kernel_rfl
theorem F.lay28:lay Tryz.prog 28=some (true,44):=by kernel_rfl
theorem F.lay3:lay Tryz.prog 3=some (false,1):=by kernel_rfl
theorem F.ok115:okFn Tryz.prog 115=true:=by kernel_rfl
theorem F.ok123:okFn Tryz.prog 123=true:=by kernel_rfl
theorem F.ok143:okFn Tryz.prog 143=true:=by kernel_rfl
theorem F.ok55:okFn Tryz.prog 55=true:=by kernel_rfl
theorem F.ok67:okFn Tryz.prog 67=true:=by kernel_rfl
theorem F.ok78:okFn Tryz.prog 78=true:=by kernel_rfl
theorem is_ok (M:Mem) (a:Int):Fs Tryz.prog 115 [.int .i64 a] M (fun v=>v=Value.bool (decide (YH a))):=by
  refine Xm Tryz.func115 rfl Tryz.ntmps115 rfl ?_;intro H
  refine ZI (Zm (l:=[0]) rfl ?_);refine ZB ?_;refine Zo (Zn (ZI (Zm (l:=[0,1,2,3,4,5,6]) rfl ?_)));refine Zv ?_;refine Yz ?_;refine Zv ?_
  refine Yh 5 rfl (fun hc1=>?_) (fun hc1=>?_)
  ·replace hc1:=dT hc1
   refine Zv ?_;refine Yz ?_;refine ZK ?_;refine ZB ?_;refine Zo (Zn (Y_pk [2] ?_));refine Yg ?_
   refine Ya (.inr rfl) (.tmp rfl .nil) (fun w hw=>?_)
   refine ⟨_,rfl,(hw.c),?_⟩
   clear hw
   refine congrArg Value.bool (a₁:=_) ?_
   grind [w64,YH]
  ·replace hc1:=dF hc1
   iterate 2 refine ZU ?_
   refine ZK ?_;refine ZB ?_;refine Zo (Zn (Y_pk [2] ?_));refine Yg ?_
   refine Ya (.inr rfl) (.tmp rfl .nil) (fun w hw=>?_)
   refine ⟨_,rfl,(hw.c),?_⟩
   clear hw
   refine congrArg Value.bool (a₁:=_) ?_
   grind [w64,YH]
theorem other_ok (M:Mem) (t:ZL) (p:ZD):Fs Tryz.prog 118 [t.enc,p.enc] M (fun v=>v=Value.bool (decide (Xr t.self p))):=by
  obtain ⟨⟨ZZ,Yp⟩,⟨Yr,YE⟩,⟨Yu,Yt,ZW⟩,⟨Yc,Yb,ZJ⟩⟩:=t
  obtain ⟨Xc,p_id⟩:=p
  refine Xm Tryz.func118 rfl Tryz.ntmps118 rfl ?_;intro H
  refine ZI (Zm (l:=[0,1,2]) rfl ?_)
  refine Xk ?_;intro b1
  refine Xk ?_;intro b2
  refine ZB ?_;refine Zo (Zn (Y_pk [4,3,2] ?_));refine ZI (Zm (l:=[0,1,2,3,4,5,6,7,8,9,10,11,12,13,14,15,16,17,18,19]) rfl ?_);refine Zk F.foff25_0 ?_;refine ZH F.lay3 ?_;refine X_fs rfl rfl F.ok115 rfl (is_ok _ _) rfl ?_
  rintro _ rfl
  refine Zv ?_
  refine Yh 8 rfl (fun hc3=>?_) (fun hc3=>?_)
  ·replace hc3:=dT hc3
   refine Zk F.foff25_0 ?_;refine ZH F.lay3 ?_;refine Zk F.foff28_0 ?_;refine Zk F.foff25_0 ?_;refine ZH F.lay3 ?_;refine Yz ?_;refine ZK ?_;refine Zv ?_
   refine Yh 16 rfl (fun hc4=>?_) (fun hc4=>?_)
   ·replace hc4:=nT hc4
    refine Zk F.foff25_1 ?_;refine ZH F.lay23 ?_;refine Zk F.foff28_0 ?_;refine Zk F.foff25_1 ?_;refine ZH F.lay23 ?_
    refine Wf (m:=20) rfl rfl rfl rfl rfl (by constructor) (by constructor) F.lay23 F.kinds23 rfl F.guard23 (Vg WE) (Vg WE) rfl rfl rfl ?_;intro c5 he6
    replace he6:c5=true↔¬(Segs.cells _=Segs.cells _):=he6
    obtain rfl:=neD he6 (cells_id1 (x:=_) (y:=_));clear he6
    refine ZK ?_;refine ZB ?_;refine Zo (Zn (Y_pk [4] ?_));refine Yg ?_
    refine Ya (.inr rfl) (.tmp rfl .nil) (fun w hw=>?_)
    refine ⟨_,rfl,(hw.c),?_⟩
    clear hw
    refine congrArg Value.bool (a₁:=_) ?_
    grind [w64,Xr]
   ·replace hc4:=nF hc4
    iterate 6 refine ZU ?_
    refine ZK ?_;refine ZB ?_;refine Zo (Zn (Y_pk [4] ?_));refine Yg ?_
    refine Ya (.inr rfl) (.tmp rfl .nil) (fun w hw=>?_)
    refine ⟨_,rfl,(hw.c),?_⟩
    clear hw
    refine congrArg Value.bool (a₁:=_) ?_
    grind [w64,Xr]
  ·replace hc3:=dF hc3
   iterate 6 refine ZU ?_
   refine ZK ?_;refine Zv ?_
   iterate 6 refine ZU ?_
   refine ZK ?_;refine ZB ?_;refine Zo (Zn (Y_pk [4] ?_));refine Yg ?_
   refine Ya (.inr rfl) (.tmp rfl .nil) (fun w hw=>?_)
   refine ⟨_,rfl,(hw.c),?_⟩
   clear hw
   refine congrArg Value.bool (a₁:=_) ?_
   grind [w64,Xr]
theorem rOther_ok (M:Mem) (t:ZL) (p:ZD):Fs Tryz.prog 55 [t.enc,p.enc] M (fun v=>v=Value.bool (decide (Xr t.self p))):=by
  obtain ⟨⟨ZZ,Yp⟩,⟨Yr,YE⟩,⟨Yu,Yt,ZW⟩,⟨Yc,Yb,ZJ⟩⟩:=t
  obtain ⟨Xc,p_id⟩:=p
  refine Xm Tryz.func55 rfl Tryz.ntmps55 rfl ?_;intro H
  refine ZI (Zm (l:=[0,1,2]) rfl ?_)
  refine Xk ?_;intro b1
  refine Xk ?_;intro b2
  refine ZB ?_;refine Zo (Zn (Y_pk [4,3,2] ?_));refine ZI (Zm (l:=[0,1,2,3,4,5,6,7,8,9,10,11,12,13,14,15,16,17,18,19,20,21,22,23,24]) rfl ?_);refine Zk F.foff25_0 ?_;refine ZH F.lay3 ?_;refine Yz ?_;refine Zv ?_
  refine Yh 8 rfl (fun hc3=>?_) (fun hc3=>?_)
  ·replace hc3:=dT hc3
   refine Zk F.foff25_0 ?_;refine ZH F.lay3 ?_;refine Yz ?_;refine ZK ?_;refine Zv ?_
   refine Yh 13 rfl (fun hc4=>?_) (fun hc4=>?_)
   ·replace hc4:=dT hc4
    refine Zk F.foff25_0 ?_;refine ZH F.lay3 ?_;refine Zk F.foff28_0 ?_;refine Zk F.foff25_0 ?_;refine ZH F.lay3 ?_;refine Yz ?_;refine ZK ?_;refine Zv ?_
    refine Yh 21 rfl (fun hc5=>?_) (fun hc5=>?_)
    ·replace hc5:=nT hc5
     refine Zk F.foff25_1 ?_;refine ZH F.lay23 ?_;refine Zk F.foff28_0 ?_;refine Zk F.foff25_1 ?_;refine ZH F.lay23 ?_
     refine Wf (m:=20) rfl rfl rfl rfl rfl (by constructor) (by constructor) F.lay23 F.kinds23 rfl F.guard23 (Vg WE) (Vg WE) rfl rfl rfl ?_;intro c6 he7
     replace he7:c6=true↔¬(Segs.cells _=Segs.cells _):=he7
     obtain rfl:=neD he7 (cells_id1 (x:=_) (y:=_));clear he7
     refine ZK ?_;refine ZB ?_;refine Zo (Zn (Y_pk [4] ?_));refine Yg ?_
     refine Ya (.inr rfl) (.tmp rfl .nil) (fun w hw=>?_)
     refine ⟨_,rfl,(hw.c),?_⟩
     clear hw
     refine congrArg Value.bool (a₁:=_) ?_
     grind [w64,Xr,YH]
    ·replace hc5:=nF hc5
     iterate 6 refine ZU ?_
     refine ZK ?_;refine ZB ?_;refine Zo (Zn (Y_pk [4] ?_));refine Yg ?_
     refine Ya (.inr rfl) (.tmp rfl .nil) (fun w hw=>?_)
     refine ⟨_,rfl,(hw.c),?_⟩
     clear hw
     refine congrArg Value.bool (a₁:=_) ?_
     grind [w64,Xr,YH]
   ·replace hc4:=dF hc4
    iterate 6 refine ZU ?_
    refine ZK ?_;refine Zv ?_
    iterate 6 refine ZU ?_
    refine ZK ?_;refine ZB ?_;refine Zo (Zn (Y_pk [4] ?_));refine Yg ?_
    refine Ya (.inr rfl) (.tmp rfl .nil) (fun w hw=>?_)
    refine ⟨_,rfl,(hw.c),?_⟩
    clear hw
    refine congrArg Value.bool (a₁:=_) ?_
    grind [w64,Xr,YH]
  ·replace hc3:=dF hc3
   iterate 3 refine ZU ?_
   refine ZK ?_;refine Zv ?_
   iterate 6 refine ZU ?_
   refine ZK ?_;refine Zv ?_
   iterate 6 refine ZU ?_
   refine ZK ?_;refine ZB ?_;refine Zo (Zn (Y_pk [4] ?_));refine Yg ?_
   refine Ya (.inr rfl) (.tmp rfl .nil) (fun w hw=>?_)
   refine ⟨_,rfl,(hw.c),?_⟩
   clear hw
   refine congrArg Value.bool (a₁:=_) ?_
   grind [w64,Xr,YH]
theorem rMaybe_ok (M:Mem) (t:ZL) (p:ZD):Fs Tryz.prog 121 [t.enc,p.enc] M (fun v=>v=Value.bool (decide (VF t.self p))):=by
  obtain ⟨⟨ZZ,Yp⟩,⟨Yr,YE⟩,⟨Yu,Yt,ZW⟩,⟨Yc,Yb,ZJ⟩⟩:=t
  obtain ⟨Xc,p_id⟩:=p
  refine Xm Tryz.func121 rfl Tryz.ntmps121 rfl ?_;intro H
  refine ZI (Zm (l:=[0,1,2]) rfl ?_)
  refine Xk ?_;intro b1
  refine Xk ?_;intro b2
  refine ZB ?_;refine Zo (Zn (Y_pk [4,3,2] ?_));refine ZI (Yy (l:=[0,1,2,3,4,5,6,7,8]) #[0,0,3,7,15,15,63,127,255] _ rfl (by kernel_rfl) (by kernel_rfl) St.drawn (fun _ h=>h) ?_);refine ZH F.lay25 ?_;refine X_fs rfl rfl F.ok67 rfl (rNone_ok _) rfl ?_
  rintro _ rfl
  refine WV 6 rfl (show _=aggV [.one (.int .i64 (-1)),Yq 0] from rfl) ?_
  refine Wf (m:=20) rfl rfl rfl rfl rfl (by constructor) (by constructor) F.lay25 F.kinds25 rfl F.guard25 (by exact Xf (⟨_,_⟩)) (by exact Xf (⟨_,_⟩)) rfl rfl rfl ?_;intro c3 he4
  replace he4:c3=true↔Segs.cells _=Segs.cells _:=he4
  obtain rfl:=eqD he4 (ZD.inj (x:=⟨_,_⟩) (y:=⟨_,_⟩));clear he4
  refine Zv ?_
  refine Yh 8 rfl (fun hc5=>?_) (fun hc5=>?_)
  ·replace hc5:=dT hc5
   iterate 3 refine ZU ?_
   refine ZK ?_;refine ZB ?_;refine Zo (Zn (Y_pk [4] ?_));refine Yg ?_
   refine Ya (.inr rfl) (.tmp rfl .nil) (fun w hw=>?_)
   refine ⟨_,rfl,(hw.c),?_⟩
   clear hw
   refine congrArg Value.bool (a₁:=_) ?_
   grind [w64,VF,YW]
  ·replace hc5:=dF hc5
   refine ZH F.lay28 ?_;refine ZH F.lay25 ?_;refine X_fs rfl rfl F.ok55 rfl (rOther_ok _ ⟨⟨_,_⟩,⟨_,_⟩,⟨_,_,_⟩,⟨_,_,_⟩⟩ ⟨_,_⟩) rfl ?_
   rintro _ rfl
   refine ZK ?_;refine ZB ?_;refine Zo (Zn (Y_pk [4] ?_));refine Yg ?_
   refine Ya (.inr rfl) (.tmp rfl .nil) (fun w hw=>?_)
   refine ⟨_,rfl,(hw.c),?_⟩
   clear hw
   refine congrArg Value.bool (a₁:=_) ?_
   grind [w64,VF,YW]
theorem IndexFP_rd (M:Mem) (Hin:Hp) (l:Sl ZD) (g:FuncId) (caps:List Value) (p:ZD→Bool) (hl:RdS M Hin l.a (l.l.map ZD.segs) 21) (bl:l.l.length≤9223372036854775807) (hok:okFn Tryz.prog g=true) (hc:∀ x∈l.l,Fo Tryz.prog g ([x.enc]++caps) M Hin (fun M' v=>M'=M∧v=.bool (p x))):Fo Tryz.prog 123 [l.val,.func (.func g) #[] caps.toArray] M Hin (fun M' v=>M'=M∧v=.int .i64 (idxF p l.l)):=by
  have nl:(l.l.map ZD.segs).length=l.l.length:=List.length_map ..
  refine WT Tryz.func123 rfl Tryz.ntmps123 rfl ?_;intro H
  have hrd:=hl.app H
  refine ZI (Zm (l:=[0]) rfl ?_);refine ZB ?_;refine Zo (Zn ?_)
  iterate 2 refine ZI ?_
  refine Zm (l:=[0,1,2]) rfl ?_;refine Zv ?_;refine YX F.elem26 ?_;refine Zv ?_;refine Zo (Zn (Y_pk [8,7,4,0,1] ?_));refine Xd (Y_pk [8,7,4,0,1] ?_);refine WH (.succ .zero) (fun (k:Nat) z=>z=[(8,.int .i64 (k:Int))]∧k≤l.l.length∧(∀ j (h:j<k) (h2:j<l.l.length),p l.l[j]=false)) (fun k=>l.l.length-k) (0) (⟨rfl,by omega,by (intro j hj;omega)⟩) ?_
  rintro k _ ⟨rfl,hk,hI⟩
  refine ZI (Zm (l:=[0]) rfl ?_);refine Yz ?_;refine Zo (Zn (ZI ?_))
  refine Yx rfl (fun hc1=>?_) (fun hc1=>?_)
  ·skip
   replace hc1:=dT hc1
   refine Yv (Zn (ZI (Xd (ZI (Zm (l:=[0,1]) rfl ?_)))));refine Zv ?_;refine ZB ?_;refine Zo (Zn (ZI (Zm (l:=[0,1,2,3,4,5]) rfl ?_)))
   iterate 3 refine Zv ?_
   refine YR rfl rfl rfl rfl F.elem26 (by rfl) (by omega) (by exact RdS.plain (by assumption) (by (simp;omega))) rfl ?_;refine X_load_rd rfl rfl rfl (by assumption) (by exact XW (by omega)) F.lay25 rfl rfl rfl ?_;refine X_foV rfl rfl rfl hok rfl rfl (hc _ (List.getElem_mem (n:=k) (by omega))) (Rem.here _) (YA rfl) ?_
   rintro _ M1 _ ⟨hM1,rfl⟩;subst M1
   refine Zo (Zn ?_)
   refine Yx rfl (fun hc2=>?_) (fun hc2=>?_)
   ·skip
    have hP:=hc2
    refine ZI (Zm (l:=[0,1]) rfl ?_);refine Zv ?_;refine ZB ?_;refine Zo (Zn (Yg (Xi ?_)))
    iterate 2 refine YG ?_
    refine Xi (YG ?_)
    refine Ya (.inr rfl) (.tmp rfl .nil) (fun w hw=>?_)
    refine ⟨_,M,rfl,Mem.le.refl M,hw.c,rfl,?_⟩
    refine congrArg (Value.int .i64) ?_
    exact (idxF_at (by omega) (fun j hj=>hI j hj _) hP).symm
   ·skip
    have hP:=hc2
    refine Yv (XV (Zn (Zm (l:=[0,1]) rfl ?_)));refine XN rfl rfl rfl rfl rfl (by exact Xn (by decide) (by omega)) rfl ?_;refine Zv ?_;refine Zo ?_;refine WC (a':=[(8,_)]) (k+1) (.cons (k:=8) rfl (.cons (k:=7) rfl (.cons (k:=4) rfl (.cons (k:=0) rfl (.cons (k:=1) rfl (.nil)))))) (fun w hw=>by first|exact hw|exact hw.c) ?_ ?_
    ·refine ⟨rfl,by omega,?_⟩
     (intro j hj hj2;rcases Nat.lt_or_ge j k with h9|h9;exact hI j h9 hj2;obtain rfl:j=k:=(by omega);simp_all)
    ·omega
  ·skip
   replace hc1:=dF hc1
   refine XS ?_
   iterate 2 refine XM ?_
   refine Wl (Zn (Y_pk [4] ?_));refine ZI (Zm (l:=[0]) rfl ?_);refine ZB ?_;refine Zo (Zn (Yg ?_))
   refine Ya (.inr rfl) (.tmp rfl .nil) (fun w hw=>?_)
   refine ⟨_,M,rfl,Mem.le.refl M,hw.c,rfl,?_⟩
   refine congrArg (Value.int .i64) ?_
   exact (idxF_none (fun j hj=>hI j (by omega) hj)).symm
theorem ContainsFP_rd (M:Mem) (Hin:Hp) (l:Sl ZD) (g:FuncId) (caps:List Value) (p:ZD→Bool) (hl:RdS M Hin l.a (l.l.map ZD.segs) 21) (bl:l.l.length≤9223372036854775807) (hok:okFn Tryz.prog g=true) (hc:∀ x∈l.l,Fo Tryz.prog g ([x.enc]++caps) M Hin (fun M' v=>M'=M∧v=.bool (p x))):Fo Tryz.prog 78 [l.val,.func (.func g) #[] caps.toArray] M Hin (fun M' v=>M'=M∧v=.bool (l.l.any p)):=by
  refine WT Tryz.func78 rfl Tryz.ntmps78 rfl ?_;intro H
  refine ZI (Zm (l:=[0]) rfl ?_);refine ZB ?_;refine Zo (Zn (ZI (Zm (l:=[0,1,2,3,4]) rfl ?_)))
  iterate 2 refine Zv ?_
  refine X_fo rfl rfl F.ok123 rfl (IndexFP_rd _ Hin ⟨_,_,_⟩ g caps p hl bl hok hc) (by repeat first|exact Rem.here _|exact Rem.two|apply Rem.skip|apply Rem.over) (YA rfl) ?_
  rintro _ M1 _ ⟨hM1,rfl⟩;subst M1
  refine Yz ?_;refine ZB ?_;refine Zo (Zn (Y_pk [4] ?_));refine Yg ?_
  refine Ya (.inr rfl) (.tmp rfl .nil) (fun w hw=>?_)
  exact ⟨_,M,rfl,Mem.le.refl M,hw.c,rfl,congrArg Value.bool idxF_nn⟩
theorem has1_ok (M:Mem) (b:Nat) (a:Int) (p:ZD):Fo Tryz.prog 143 ([p.enc]++[.pointer (some ⟨b,0,none⟩)]) M [(b,rowO [.one (.int .i64 a)] 3)] (fun M' v=>M'=M∧v=.bool (decide (p.addr=a))):=by
  obtain ⟨Xc,p_id⟩:=p
  refine WT Tryz.func143 rfl Tryz.ntmps143 rfl ?_;intro H
  refine ZI (Zm (l:=[0,1]) rfl ?_)
  refine Xk ?_;intro b1
  refine ZB ?_;refine Zo (Zn (Y_pk [3,2,1] ?_));refine ZI (Zm (l:=[0,1,2,3,4]) rfl ?_);refine Zk F.foff25_0 ?_
  iterate 2 refine ZH F.lay3 ?_
  refine Yz ?_;refine ZB ?_;refine Zo (Zn (Y_pk [3] ?_));refine Yg ?_
  refine Ya (.inr rfl) (.tmp rfl .nil) (fun w hw=>?_)
  refine ⟨_,M,rfl,Mem.le.refl M,hw.c,rfl,?_⟩
  clear hw
  rfl
theorem has_rd (M:Mem) (Hin:Hp) (l:Sl ZD) (a:Int) (hl:RdS M Hin l.a (l.l.map ZD.segs) 21) (bl:l.l.length≤9223372036854775807):Fo Tryz.prog 119 [l.val,.int .i64 a] M Hin (fun M' v=>M'=M∧v=.bool (decide (hasA l.l a))):=by
  refine WT Tryz.func119 rfl Tryz.ntmps119 rfl ?_;intro H
  refine ZI (Zm (l:=[0,1]) rfl ?_)
  refine Xk ?_;intro b1
  refine ZB ?_;refine Zo (Zn (Y_pk [4,3,0] ?_));refine ZI (Zm (l:=[0,1,2,3]) rfl ?_);refine Zv ?_;refine X_makeFunc rfl rfl rfl rfl rfl ?_;refine X_fo rfl rfl F.ok78 rfl (ContainsFP_rd _ ((b1,_)::Hin) l 143 [_] (fun p=>decide (p.addr=a)) (hl.cnt (by intro zz;first|exact Nat.le_refl _|(simp only [cnt_app,cnt_cons,cnt_nil,cat,List.append_eq,List.append_assoc,List.cons_append,List.nil_append,List.append_nil];omega)|(simp only [cnt_app,cnt_cons,cnt_nil,cat,List.append_eq,List.append_assoc,List.cons_append,List.nil_append,List.append_nil,ZD.segs,ZL.segs,ZO.segs,ZM.segs,Yd.segs,ZQ.segs,YI.segs,ZX.segs];omega))) bl F.ok143 (fun x hx=>(has1_ok M b1 a x).frame Hin)) (by repeat first|exact Rem.here _|exact Rem.two|apply Rem.skip|apply Rem.over) (YA rfl) ?_
  rintro _ M1 _ ⟨hM1,rfl⟩;subst M1
  refine ZB ?_;refine Zo (Zn (Y_pk [4] ?_));refine Yg ?_
  refine Ya (.inr rfl) (.tmp rfl .nil) (fun w hw=>?_)
  refine ⟨_,M,rfl,Mem.le.refl M,hw.c,rfl,?_⟩
  clear hw
  exact congrArg Value.bool any_has
theorem has_ok (M:Mem) (l:Sl ZD) (a:Int) (hl:SlK M ZD.segs 21 l):Fs Tryz.prog 119 [l.val,.int .i64 a] M (fun v=>v=.bool (decide (hasA l.l a))) :=
  fs_of_fo (has_rd M [] l a (hl.h1.rd []) hl.h2)
theorem rhas_rd (M:Mem) (Hin:Hp) (l:Sl ZD) (a:Int) (hl:RdS M Hin l.a (l.l.map ZD.segs) 21) (bl:l.l.length≤9223372036854775807):Fo Tryz.prog 122 [l.val,.int .i64 a] M Hin (fun M' v=>M'=M∧v=.bool (decide (hasA l.l a))):=by
  obtain ⟨l_a,l_c,l_l⟩:=l
  simp only at hl bl
  have n_l:(l_l.map ZD.segs).length=l_l.length:=List.length_map ..
  refine WT Tryz.func122 rfl Tryz.ntmps122 rfl ?_;intro H
  have hrd:=hl.app H
  refine ZI (Zm (l:=[0]) rfl ?_);refine ZB ?_;refine Zo (Zn ?_)
  iterate 2 refine ZI ?_
  refine Zm (l:=[0]) rfl ?_;refine ZB ?_;refine Zo (Zn (Xd (Y_pk [5,4,0,1] ?_)));refine WH (.succ .zero) (fun (k:Nat) z=>z=[(5,.int .i64 (k:Int))]∧k≤l_l.length∧(∀ j (h:j<k) (h2:j<l_l.length),¬l_l[j].addr=a)) (fun k=>l_l.length-k) (0) (⟨rfl,by omega,by (intro j hj;omega)⟩) ?_
  rintro k _ ⟨rfl,hk,hI⟩
  iterate 2 refine ZI ?_
  refine Zm (l:=[0,1,2,3]) rfl ?_
  iterate 2 refine Zv ?_
  refine YX F.elem26 ?_;refine Yz ?_;refine Zo (Zn ?_)
  refine Yx rfl (fun hc1=>?_) (fun hc1=>?_)
  ·replace hc1:=dT hc1
   refine Yv (Zn (ZI (Xd (ZI (Zm (l:=[0,1,2,3,4,5,6]) rfl ?_)))))
   iterate 2 refine Zv ?_
   refine YR rfl rfl rfl rfl F.elem26 (by rfl) (by omega) (by exact RdS.plain (by assumption) (by (simp;omega))) rfl ?_;refine Xp rfl rfl rfl (by exact RdS.plain (by assumption) (by (simp;omega))) F.foff25_0 rfl ?_;refine X_load_rd rfl rfl rfl (by assumption) (by exact XW (by omega)) F.lay3 rfl rfl rfl ?_;refine Zv ?_;refine Yz ?_;refine Zo (Zn ?_)
   refine Yx rfl (fun hc2=>?_) (fun hc2=>?_)
   ·replace hc2:=dT hc2
    simp only [List.get_eq_getElem] at hc2
    refine ZI (Zm (l:=[0]) rfl ?_);refine ZB ?_;refine Zo (Zn (Yg (Xi ?_)))
    iterate 2 refine YG ?_
    refine Xi (YG ?_)
    refine Ya (.inr rfl) (.tmp rfl .nil) (fun w hw=>?_)
    refine ⟨_,M,rfl,Mem.le.refl M,hw.c,rfl,?_⟩
    clear hw
    refine congrArg Value.bool ?_
    exact (decide_eq_true (hasA_at (l:=l_l) (k:=k) (by omega) (by assumption))).symm
   ·replace hc2:=dF hc2
    simp only [List.get_eq_getElem] at hc2
    refine Yv (XV (Zn (Zm (l:=[0,1,2]) rfl ?_)));refine Zv ?_;refine XN rfl rfl rfl rfl rfl (by exact Xn (by decide) (by omega)) rfl ?_;refine ZB ?_;refine Zo ?_;refine WC (a':=[(5,_)]) (k+1) (.cons (k:=5) rfl (.cons (k:=4) rfl (.cons (k:=0) rfl (.cons (k:=1) rfl (.nil))))) (fun w hw=>by first|exact hw|exact hw.c) ?_ ?_
    ·refine ⟨rfl,by omega,?_⟩
     (intro j hj hj2;rcases Nat.lt_or_ge j k with h9|h9;exact hI j h9 hj2;obtain rfl:j=k:=(by omega);assumption)
    ·omega
  ·replace hc1:=dF hc1
   refine XS ?_
   iterate 2 refine XM ?_
   refine Wl (Zn (Y_pk [4] ?_));refine ZI (Zm (l:=[0]) rfl ?_);refine ZB ?_;refine Zo (Zn (Yg ?_))
   refine Ya (.inr rfl) (.tmp rfl .nil) (fun w hw=>?_)
   refine ⟨_,M,rfl,Mem.le.refl M,hw.c,rfl,?_⟩
   clear hw
   refine congrArg Value.bool ?_
   exact (decide_eq_false (hasA_none (l:=l_l) (fun j hj=>hI j (by omega) hj))).symm
theorem rhas_ok (M:Mem) (l:Sl ZD) (a:Int) (hl:SlK M ZD.segs 21 l):Fs Tryz.prog 122 [l.val,.int .i64 a] M (fun v=>v=.bool (decide (hasA l.l a))) :=
  fs_of_fo (rhas_rd M [] l a (hl.h1.rd []) hl.h2)
end Go.Proofs.YtajmnjefajknoaaGreat
namespace Go.Esp
theorem rowsCells_len {sz:Nat} {rows:List Segs} (h:lens sz rows):(Ye rows).length=rows.length * sz:=Xj h
theorem lens.take {sz:Nat} {rows:List Segs} (h:lens sz rows) (k:Nat):lens sz (rows.take k):=fun r hr=>h r (List.mem_of_mem_take hr)
theorem lens.drop {sz:Nat} {rows:List Segs} (h:lens sz rows) (k:Nat):lens sz (rows.drop k):=fun r hr=>h r (List.mem_of_mem_drop hr)
theorem rowsCells_take {sz:Nat} {rows:List Segs} (h:lens sz rows) {k:Nat} (hk:k≤rows.length):Ye (rows.take k)=(Ye rows).take (k * sz):=by
  have e:Ye rows=Ye (rows.take k)++Ye (rows.drop k):=by rw [← XK,List.take_append_drop]
  have hl:(Ye (rows.take k)).length=k * sz:=by rw [Xj (h.take k)];simp [hk]
  rw [e,← hl,List.take_left]
theorem rowsCells_drop {sz:Nat} {rows:List Segs} (h:lens sz rows) {k:Nat} (hk:k≤rows.length):Ye (rows.drop k)=(Ye rows).drop (k * sz):=by
  have e:Ye rows=Ye (rows.take k)++Ye (rows.drop k):=by rw [← XK,List.take_append_drop]
  have hl:(Ye (rows.take k)).length=k * sz:=by rw [Xj (h.take k)];simp [hk]
  rw [e,← hl,List.drop_left]
theorem SlM.take {M:Mem} {a:Option Addr} {rows:List Segs} {sz:Nat} (h:SlM M a rows sz) {k:Nat} (hk:k≤rows.length):SlM M a (rows.take k) sz:=by
  refine ⟨h.lens.take k,fun hn=>?_⟩
  obtain ⟨b,off,c,T,fz,h1,h2,h3⟩:=h.there (fun e=>hn (by rw [e];simp))
  refine ⟨b,off,c,T,fz,h1,h2,?_⟩
  rw [rowsCells_take h.lens hk,← h3,List.take_take,List.length_take,Nat.min_eq_left hk]
  congr 1
  have:=Nat.mul_le_mul_right sz hk
  omega
def shiftA (a:Option Addr) (c k sz:Nat):Option Addr:=if c=k then a else a.map (·.add (k * sz))
theorem SlM.drop {M:Mem} {a:Option Addr} {rows:List Segs} {sz c:Nat} (h:SlM M a rows sz) {k:Nat} (hk:k≤rows.length) (hc:rows.length≤c):SlM M (shiftA a c k sz) (rows.drop k) sz:=by
  refine ⟨h.lens.drop k,fun hn=>?_⟩
  obtain ⟨b,off,x,T,fz,h1,h2,h3⟩:=h.there (fun e=>hn (by rw [e];simp))
  have hlt:k<rows.length:=by
    rcases Nat.lt_or_ge k rows.length with h'|h'
    · exact h'
    · exact (hn (List.drop_eq_nil_of_le h')).elim
  refine ⟨b,off+k * sz,x,T,fz,?_,h2,?_⟩
  · unfold shiftA
    rw [if_neg (by omega),h1];simp [Addr.add_lit]
  · rw [rowsCells_drop h.lens hk,← h3,List.drop_take,List.drop_drop,List.length_drop,Nat.sub_mul]
theorem rows_one1 {r:Segs} (h:flat r):∀ u∈Ye [r],u.oneCell'=true:=fun u hu=>by
  simp only [Ye,List.append_nil] at hu
  exact h u hu
theorem Addr.add_zero' (a:Addr):a.add 0=a:=by unfold Addr.add;simp
theorem pieceV_take {α:Type} {a:Option Addr} {sz c k:Nat} {l:List α} (hk:k≤l.length):WP a sz 0 k c=Sl.val ⟨a,c,l.take k⟩:=by
  unfold WP
  simp only [Nat.zero_mul,Nat.sub_zero,Sl.val,List.length_take,Nat.min_eq_left hk]
  congr 1
  split
  · rfl
  · cases a with
    | none=>rfl
    | some x=>simp [Addr.add_zero']
theorem pieceV_drop {α:Type} {a:Option Addr} {sz c k:Nat} {l:List α}:WP a sz k l.length c=Sl.val ⟨shiftA a c k sz,c-k,l.drop k⟩:=by
  unfold WP shiftA
  simp only [Sl.val,List.length_drop]
theorem SlK.take {α:Type} {M:Mem} {f:α→Segs} {sz:Nat} {a:Option Addr} {c:Nat} {l:List α} (h:SlK M f sz ⟨a,c,l⟩) (k:Nat) (hk:k≤l.length):SlK M f sz ⟨a,c,l.take k⟩:=by
  have h2:=h.h2;have h3:=h.h3
  simp only at h2 h3
  refine ⟨?_,?_,?_⟩
  · simp only [List.map_take];exact h.h1.take (by simpa using hk)
  · simp only [List.length_take];omega
  · simp only [List.length_take];omega
theorem SlK.drop {α:Type} {M:Mem} {f:α→Segs} {sz:Nat} {a:Option Addr} {c:Nat} {l:List α} (h:SlK M f sz ⟨a,c,l⟩) (k:Nat) (hk:k≤l.length):SlK M f sz ⟨shiftA a c k sz,c-k,l.drop k⟩:=by
  have h2:=h.h2;have h3:=h.h3
  simp only at h2 h3
  refine ⟨?_,?_,?_⟩
  · simp only [List.map_drop];exact h.h1.drop (by simpa using hk) (by simpa using h3)
  · simp only [List.length_drop];omega
  · simp only [List.length_drop];omega
theorem OSl.caps {T sz l c:Nat} {a:Option Addr} {hs:Hp} {rows:List Segs} (h:OSl T sz (.slice a l c) hs rows):rows.length≤c∧c≤maxLen∧l=rows.length:=by
  generalize hv:Value.slice a l c=v at h
  cases h with
  | nil=>cases hv;exact ⟨Nat.le_refl _,Nat.zero_le _,rfl⟩
  | own b c' _ cur g1 g2 g3 g4 g5=>cases hv;exact ⟨g2,g3,rfl⟩
theorem OSl.noneAll {α:Type} {T sz c:Nat} {f:α→Segs} {l:List α} {hs:Hp} (h:OSl T sz (.slice none l.length c) hs (l.map f)):l=[]∧c=0∧hs=[]:=by
  generalize hv:Value.slice none l.length c=v at h
  generalize hr:l.map f=r at h
  cases h with
  | nil=>simp only [Value.slice.injEq] at hv;exact ⟨List.map_eq_nil_iff.1 hr,hv.2.2,rfl⟩
  | own=>simp at hv
theorem OSl.someAll {T sz l c:Nat} {ad:Addr} {hs:Hp} {rows:List Segs} (h:OSl T sz (.slice (some ad) l c) hs rows):∃ b,ad=⟨b,0,none⟩:=by
  generalize hv:Value.slice (some ad) l c=v at h
  cases h with
  | nil=>simp at hv
  | own b=>simp only [Value.slice.injEq,Option.some.injEq] at hv;exact ⟨b,hv.1⟩
theorem OSl.freezeK {α:Type} {T sz:Nat} {v:Value} {hs:Hp} {f:α→Segs} {l:List α} {M:Mem} {H:Hp} (ho:OSl T sz v hs (l.map f)) {w:World} (hw:St M (hs++H) w):∃ (M':Mem) (s:Sl α),M.le M'∧St M' H w∧v=s.val∧s.l=l∧SlK M' f sz s:=by
  obtain ⟨M',a,c,h1,h2,h3,h4⟩:=ho.freeze hw
  rw [h3] at ho
  obtain ⟨g1,g2,_⟩:=ho.caps
  simp only [List.length_map] at g1
  exact ⟨M',⟨a,c,l⟩,h1,h2,by rw [h3];simp [Sl.val],rfl,h4,by simp only;omega,g1⟩
end Go.Esp
namespace Go.Proofs.YtajmnjefajknoaaGreat
open Go.Esp
theorem F.fld25_1:fld Tryz.prog 25 1=some (1,23):=by kernel_rfl
theorem F.foff28_2:foff Tryz.prog 28 2=some 42:=by kernel_rfl
theorem F.lay26:lay Tryz.prog 26=some (false,1):=by kernel_rfl
theorem F.ok118:okFn Tryz.prog 118=true:=by kernel_rfl
theorem F.ok41:okFn Tryz.prog 41=true:=by kernel_rfl
theorem F.ok68:okFn Tryz.prog 68=true:=by kernel_rfl
theorem First_nil (M:Mem) (t:ZL) (ht0:ZL.ok M t) (h:t.succ.l=[]):Fs Tryz.prog 41 [t.enc] M (fun v=>v= ((Xl t.tb).enc)):=by
  obtain ⟨⟨ZZ,Yp⟩,⟨Yr,YE⟩,⟨Yu,Yt,ZW⟩,⟨Yc,Yb,ZJ⟩⟩:=t
  have YS:SlK M ZD.segs 21 ⟨Yu,Yt,ZW⟩:=ht0.h0
  have WQ:SlM M Yu (ZW.map ZD.segs) 21:=YS.h1
  have WR:(ZW.map ZD.segs).length=ZW.length:=List.length_map ..
  have WS:ZW.length≤9223372036854775807:=YS.h2
  have WU:ZW.length≤Yt:=YS.h3
  have Yw:SlK M ZD.segs 21 ⟨Yc,Yb,ZJ⟩:=ht0.h1
  have Wb:SlM M Yc (ZJ.map ZD.segs) 21:=Yw.h1
  have Wi:(ZJ.map ZD.segs).length=ZJ.length:=List.length_map ..
  have Wc:ZJ.length≤9223372036854775807:=Yw.h2
  have Wj:ZJ.length≤Yb:=Yw.h3
  simp only at h
  subst h
  refine Xm Tryz.func41 rfl Tryz.ntmps41 rfl ?_;intro H
  refine ZI (Zm (l:=[0,1]) rfl ?_)
  refine Xk ?_;intro b1
  refine YT F.zero25 ?_;intro b2
  refine Zo (Zn (Y_pk [2,1] ?_))
  iterate 2 refine ZI ?_
  refine Zm (l:=[0,1,2,3]) rfl ?_;refine Zk F.foff28_2 ?_;refine ZH F.lay26 ?_;refine YX F.elem26 ?_;refine Zv ?_;refine Zo (Zn (Y_pk [8,7,6,2,1] ?_));refine Xd (Y_pk [8,7,6,2,1] ?_);refine WH (.zero) (fun (k:Nat) z=>z=[]∧k=0) (fun k=>1) (0) (⟨rfl,rfl⟩) ?_
  rintro k _ ⟨rfl,rfl⟩
  refine ZI (Zm (l:=[0]) rfl ?_);refine Yz ?_;refine Zo (Zn (ZI ?_))
  refine Yx rfl (fun hc3=>?_) (fun hc3=>?_)
  ·replace hc3:=dT hc3
   (exfalso;simp [eqX] at hc3;done)
  ·replace hc3:=dF hc3
   refine XS ?_
   iterate 2 refine XM ?_
   refine Wl (Zn (Y_pk [2,1] ?_));refine ZI (Zm (l:=[0,1,2]) rfl ?_);refine Zk F.foff28_0 ?_;refine ZH F.lay25 ?_;refine Yi F.lay25 ?_;refine Zo (Zn (Y_pk [2] ?_));refine Yg ?_
   refine Ya (.inr rfl) (.cell rfl (by repeat first|exact List.Mem.head _|refine List.Mem.tail _ ?_|refine List.mem_append_right _ ?_) F.lay25 rfl rfl .nil) (fun w hw=>?_)
   refine ⟨_,rfl,(hw.c),?_⟩
   clear hw
   rfl
theorem First_cons (M:Mem) (t:ZL) (ht0:ZL.ok M t) (p:ZD) (r:List ZD) (h:t.succ.l=p::r):Fs Tryz.prog 41 [t.enc] M (fun v=>v= ((Xl t.tb).enc)):=by
  obtain ⟨⟨ZZ,Yp⟩,⟨Yr,YE⟩,⟨Yu,Yt,ZW⟩,⟨Yc,Yb,ZJ⟩⟩:=t
  have YS:SlK M ZD.segs 21 ⟨Yu,Yt,ZW⟩:=ht0.h0
  have WQ:SlM M Yu (ZW.map ZD.segs) 21:=YS.h1
  have WR:(ZW.map ZD.segs).length=ZW.length:=List.length_map ..
  have WS:ZW.length≤9223372036854775807:=YS.h2
  have WU:ZW.length≤Yt:=YS.h3
  have Yw:SlK M ZD.segs 21 ⟨Yc,Yb,ZJ⟩:=ht0.h1
  have Wb:SlM M Yc (ZJ.map ZD.segs) 21:=Yw.h1
  have Wi:(ZJ.map ZD.segs).length=ZJ.length:=List.length_map ..
  have Wc:ZJ.length≤9223372036854775807:=Yw.h2
  have Wj:ZJ.length≤Yb:=Yw.h3
  obtain ⟨p0,i0⟩:=p
  simp only at h
  subst h
  refine Xm Tryz.func41 rfl Tryz.ntmps41 rfl ?_;intro H
  refine ZI (Zm (l:=[0,1]) rfl ?_)
  refine Xk ?_;intro b1
  refine YT F.zero25 ?_;intro b2
  refine Zo (Zn (Y_pk [2,1] ?_))
  iterate 2 refine ZI ?_
  refine Zm (l:=[0,1,2,3]) rfl ?_;refine Zk F.foff28_2 ?_;refine ZH F.lay26 ?_;refine YX F.elem26 ?_;refine Zv ?_;refine Zo (Zn (Y_pk [8,7,6,2,1] ?_));refine Xd (Y_pk [8,7,6,2,1] ?_);refine WH (.zero) (fun (k:Nat) z=>z=[]∧k=0) (fun k=>1) (0) (⟨rfl,rfl⟩) ?_
  rintro k _ ⟨rfl,rfl⟩
  refine ZI (Zm (l:=[0]) rfl ?_);refine Yz ?_;refine Zo (Zn (ZI ?_))
  refine Yx rfl (fun hc3=>?_) (fun hc3=>?_)
  ·replace hc3:=dT hc3
   refine Yv (Zn (ZI (Xd (ZI (Zm (l:=[0,1,2,3]) rfl ?_)))));refine YR rfl rfl rfl rfl F.elem26 (by rfl) (by (simp;done)) (by exact SlM.plain (by assumption) (by (simp;done))) rfl ?_;refine Xo rfl rfl rfl (by assumption) (by exact rfl) F.lay25 rfl rfl rfl ?_
   refine YT F.zero25 ?_;intro b4
   refine Yi F.lay25 ?_;refine Zo (Zn (ZI (Zm (l:=[0,1]) rfl ?_)));refine ZH F.lay25 ?_;refine Yi F.lay25 ?_;refine Zo (Zn (Yg (Xi ?_)))
   iterate 2 refine YG ?_
   refine Xi (YG ?_)
   refine Ya (.inr rfl) (.cell rfl (by repeat first|exact List.Mem.head _|refine List.Mem.tail _ ?_|refine List.mem_append_right _ ?_) F.lay25 rfl rfl .nil) (fun w hw=>?_)
   refine ⟨_,rfl,(hw.c),?_⟩
   clear hw
   rfl
  ·replace hc3:=dF hc3
   (exfalso;simp [eqX] at hc3;done)
theorem Vt (M:Mem) (t:ZL) (ht0:ZL.ok M t):Fs Tryz.prog 41 [t.enc] M (fun v=>v=(Xl t.tb).enc):=by
  rcases hs:t.succ.l with _|⟨p,r⟩
  ·exact First_nil M t ht0 hs
  ·exact First_cons M t ht0 p r hs
theorem rFirst_nil (M:Mem) (t:ZL) (ht0:ZL.ok M t) (h:t.succ.l=[]):Fs Tryz.prog 68 [t.enc] M (fun v=>v= ((Xl t.tb).enc)):=by
  obtain ⟨⟨ZZ,Yp⟩,⟨Yr,YE⟩,⟨Yu,Yt,ZW⟩,⟨Yc,Yb,ZJ⟩⟩:=t
  have YS:SlK M ZD.segs 21 ⟨Yu,Yt,ZW⟩:=ht0.h0
  have WQ:SlM M Yu (ZW.map ZD.segs) 21:=YS.h1
  have WR:(ZW.map ZD.segs).length=ZW.length:=List.length_map ..
  have WS:ZW.length≤9223372036854775807:=YS.h2
  have WU:ZW.length≤Yt:=YS.h3
  have Yw:SlK M ZD.segs 21 ⟨Yc,Yb,ZJ⟩:=ht0.h1
  have Wb:SlM M Yc (ZJ.map ZD.segs) 21:=Yw.h1
  have Wi:(ZJ.map ZD.segs).length=ZJ.length:=List.length_map ..
  have Wc:ZJ.length≤9223372036854775807:=Yw.h2
  have Wj:ZJ.length≤Yb:=Yw.h3
  simp only at h
  subst h
  refine Xm Tryz.func68 rfl Tryz.ntmps68 rfl ?_;intro H
  refine ZI (Zm (l:=[0,1]) rfl ?_)
  refine Xk ?_;intro b1
  refine YT F.zero25 ?_;intro b2
  refine Zo (Zn (Y_pk [2,1] ?_))
  iterate 2 refine ZI ?_
  refine Zm (l:=[0,1,2,3]) rfl ?_;refine Zk F.foff28_2 ?_;refine ZH F.lay26 ?_;refine YX F.elem26 ?_;refine Yz ?_;refine Zo (Zn (Y_pk [6,2,1] ?_))
  refine Yx rfl (fun hc3=>?_) (fun hc3=>?_)
  ·replace hc3:=dT hc3
   refine ZI (Zm (l:=[0,1,2]) rfl ?_);refine Zk F.foff28_0 ?_;refine ZH F.lay25 ?_;refine Yi F.lay25 ?_;refine Zo (Zn (Y_pk [2,1] ?_));refine Yg (YG ?_)
   refine Ya (.inr rfl) (.cell rfl (by repeat first|exact List.Mem.head _|refine List.Mem.tail _ ?_|refine List.mem_append_right _ ?_) F.lay25 rfl rfl .nil) (fun w hw=>?_)
   refine ⟨_,rfl,(hw.c),?_⟩
   clear hw
   rfl
  ·replace hc3:=dF hc3
   (exfalso;simp [eqX] at hc3;done)
theorem rFirst_cons (M:Mem) (t:ZL) (ht0:ZL.ok M t) (p:ZD) (r:List ZD) (h:t.succ.l=p::r):Fs Tryz.prog 68 [t.enc] M (fun v=>v= ((Xl t.tb).enc)):=by
  obtain ⟨⟨ZZ,Yp⟩,⟨Yr,YE⟩,⟨Yu,Yt,ZW⟩,⟨Yc,Yb,ZJ⟩⟩:=t
  have YS:SlK M ZD.segs 21 ⟨Yu,Yt,ZW⟩:=ht0.h0
  have WQ:SlM M Yu (ZW.map ZD.segs) 21:=YS.h1
  have WR:(ZW.map ZD.segs).length=ZW.length:=List.length_map ..
  have WS:ZW.length≤9223372036854775807:=YS.h2
  have WU:ZW.length≤Yt:=YS.h3
  have Yw:SlK M ZD.segs 21 ⟨Yc,Yb,ZJ⟩:=ht0.h1
  have Wb:SlM M Yc (ZJ.map ZD.segs) 21:=Yw.h1
  have Wi:(ZJ.map ZD.segs).length=ZJ.length:=List.length_map ..
  have Wc:ZJ.length≤9223372036854775807:=Yw.h2
  have Wj:ZJ.length≤Yb:=Yw.h3
  obtain ⟨p0,i0⟩:=p
  simp only at h
  subst h
  refine Xm Tryz.func68 rfl Tryz.ntmps68 rfl ?_;intro H
  refine ZI (Zm (l:=[0,1]) rfl ?_)
  refine Xk ?_;intro b1
  refine YT F.zero25 ?_;intro b2
  refine Zo (Zn (Y_pk [2,1] ?_))
  iterate 2 refine ZI ?_
  refine Zm (l:=[0,1,2,3]) rfl ?_;refine Zk F.foff28_2 ?_;refine ZH F.lay26 ?_;refine YX F.elem26 ?_;refine Yz ?_;refine Zo (Zn (Y_pk [6,2,1] ?_))
  refine Yx rfl (fun hc3=>?_) (fun hc3=>?_)
  ·replace hc3:=dT hc3
   refine ZI (Zm (l:=[0,1,2]) rfl ?_);refine Zk F.foff28_0 ?_;refine ZH F.lay25 ?_;refine Yi F.lay25 ?_;refine Zo (Zn (Y_pk [2,1] ?_));refine Yg (YG ?_)
   refine Ya (.inr rfl) (.cell rfl (by repeat first|exact List.Mem.head _|refine List.Mem.tail _ ?_|refine List.mem_append_right _ ?_) F.lay25 rfl rfl .nil) (fun w hw=>?_)
   refine ⟨_,rfl,(hw.c),?_⟩
   clear hw
   (exfalso;simp only [List.length_cons] at *;omega)
  ·replace hc3:=dF hc3
   refine Yv (Zn (Y_pk [2,1] ?_));refine ZI (Zm (l:=[0,1,2,3,4]) rfl ?_);refine Zk F.foff28_2 ?_;refine ZH F.lay26 ?_;refine YR rfl rfl rfl rfl F.elem26 (by rfl) (by (simp;done)) (by exact SlM.plain (by assumption) (by (simp;done))) rfl ?_;refine Xo rfl rfl rfl (by assumption) (by exact rfl) F.lay25 rfl rfl rfl ?_;refine Yi F.lay25 ?_;refine Zo (Zn (Y_pk [2] ?_));refine Yg ?_
   refine Ya (.inr rfl) (.cell rfl (by repeat first|exact List.Mem.head _|refine List.Mem.tail _ ?_|refine List.mem_append_right _ ?_) F.lay25 rfl rfl .nil) (fun w hw=>?_)
   refine ⟨_,rfl,(hw.c),?_⟩
   clear hw
   rfl
theorem rFirst_ok (M:Mem) (t:ZL) (ht0:ZL.ok M t):Fs Tryz.prog 68 [t.enc] M (fun v=>v=(Xl t.tb).enc):=by
  rcases hs:t.succ.l with _|⟨p,r⟩
  ·exact rFirst_nil M t ht0 hs
  ·exact rFirst_cons M t ht0 p r hs
theorem Closer_ok (M:Mem) (t:ZL) (p:ZD) (ht0:ZL.ok M t):Fs Tryz.prog 104 [t.enc,p.enc] M (fun v=>v=Value.bool (decide (CloserT t.tb p))):=by
  obtain ⟨⟨ZZ,Yp⟩,⟨Yr,YE⟩,⟨Yu,Yt,ZW⟩,⟨Yc,Yb,ZJ⟩⟩:=t
  obtain ⟨Xc,p_id⟩:=p
  have YS:SlK M ZD.segs 21 ⟨Yu,Yt,ZW⟩:=ht0.h0
  have WQ:SlM M Yu (ZW.map ZD.segs) 21:=YS.h1
  have WR:(ZW.map ZD.segs).length=ZW.length:=List.length_map ..
  have WS:ZW.length≤9223372036854775807:=YS.h2
  have WU:ZW.length≤Yt:=YS.h3
  have Yw:SlK M ZD.segs 21 ⟨Yc,Yb,ZJ⟩:=ht0.h1
  have Wb:SlM M Yc (ZJ.map ZD.segs) 21:=Yw.h1
  have Wi:(ZJ.map ZD.segs).length=ZJ.length:=List.length_map ..
  have Wc:ZJ.length≤9223372036854775807:=Yw.h2
  have Wj:ZJ.length≤Yb:=Yw.h3
  refine Xm Tryz.func104 rfl Tryz.ntmps104 rfl ?_;intro H
  refine ZI (Zm (l:=[0,1,2]) rfl ?_)
  refine Xk ?_;intro b1
  refine Xk ?_;intro b2
  refine ZB ?_;refine Zo (Zn (Y_pk [4,3,2] ?_));refine ZI (Yy (l:=[0,1,2,3,4,5,6,7,8,9,10,11,12,13,14]) #[0,0,3,7,15,31,63,15,143,15,527,1551,4095,8191,16383] _ rfl (by kernel_rfl) (by kernel_rfl) St.drawn (fun _ h=>h) ?_);refine ZH F.lay28 ?_;refine ZH F.lay25 ?_;refine X_fs rfl rfl F.ok118 rfl (other_ok _ ⟨⟨_,_⟩,⟨_,_⟩,⟨_,_,_⟩,⟨_,_,_⟩⟩ ⟨_,_⟩) rfl ?_
  rintro _ rfl
  refine Zv ?_
  refine Yh 8 rfl (fun hc3=>?_) (fun hc3=>?_)
  ·replace hc3:=dT hc3
   simp only [ZD.eta,ZL.eta,ZO.eta,ZM.eta,Yd.eta,ZQ.eta,YI.eta,ZX.eta] at hc3
   refine Zk F.foff28_0 ?_;refine Zk F.foff25_1 ?_;refine ZH F.lay23 ?_;refine Zk F.foff25_1 ?_;refine ZH F.lay23 ?_;refine ZH F.lay28 ?_;refine X_fs rfl rfl F.ok41 rfl (Vt _ ⟨⟨_,_⟩,⟨_,_⟩,⟨_,_,_⟩,⟨_,_,_⟩⟩ (by assumption)) rfl ?_
   rintro _ rfl
   refine Y_field F.fld25_1 F.lay23 ?_;refine X_fs rfl rfl F.ok114 rfl (Open_ok _ _ _ _) rfl ?_
   rintro _ rfl
   refine ZK ?_;refine ZB ?_;refine Zo (Zn (Y_pk [4] ?_));refine Yg ?_
   refine Ya (.inr rfl) (.tmp rfl .nil) (fun w hw=>?_)
   refine ⟨_,rfl,(hw.c),?_⟩
   clear hw
   refine congrArg Value.bool ?_
   (simp_all [CloserT,ZL.tb];rfl)
  ·replace hc3:=dF hc3
   simp only [ZD.eta,ZL.eta,ZO.eta,ZM.eta,Yd.eta,ZQ.eta,YI.eta,ZX.eta] at hc3
   iterate 9 refine ZU ?_
   refine ZK ?_;refine ZB ?_;refine Zo (Zn (Y_pk [4] ?_));refine Yg ?_
   refine Ya (.inr rfl) (.tmp rfl .nil) (fun w hw=>?_)
   refine ⟨_,rfl,(hw.c),?_⟩
   clear hw
   refine congrArg Value.bool ?_
   (simp_all [CloserT,ZL.tb];done)
end Go.Proofs.YtajmnjefajknoaaGreat
namespace Go.Proofs.YtajmnjefajknoaaGreat
open Go.Esp
theorem F.foff28_1:foff Tryz.prog 28 1=some 21:=by kernel_rfl
theorem F.foff28_3:foff Tryz.prog 28 3=some 43:=by kernel_rfl
theorem F.ok117:okFn Tryz.prog 117=true:=by kernel_rfl
theorem F.ok119:okFn Tryz.prog 119=true:=by kernel_rfl
theorem F.ok121:okFn Tryz.prog 121=true:=by kernel_rfl
theorem F.ok122:okFn Tryz.prog 122=true:=by kernel_rfl
theorem F.ok66:okFn Tryz.prog 66=true:=by kernel_rfl
theorem odd_ok (M:Mem) (b:Nat) (t:ZL) (ht:ZL.ok M t) (p:ZD):Fo Tryz.prog 117 ([p.enc]++[.pointer (some ⟨b,0,none⟩)]) M [(b,rowO t.segs 28)] (fun M' v=>M'=M∧v=.bool (decide (¬VF t.self p))):=by
  obtain ⟨Xc,p_id⟩:=p
  obtain ⟨⟨ZZ,Yp⟩,⟨Yr,YE⟩,⟨Yu,Yt,ZW⟩,⟨Yc,Yb,ZJ⟩⟩:=t
  refine WT Tryz.func117 rfl Tryz.ntmps117 rfl ?_;intro H
  refine ZI (Zm (l:=[0,1]) rfl ?_)
  refine Xk ?_;intro b1
  refine ZB ?_;refine Zo (Zn (Y_pk [3,2,1] ?_));refine ZI (Yy (l:=[0,1,2,3,4,5,6,7,8,9]) #[0,0,3,7,15,15,63,127,255,511] _ rfl (by kernel_rfl) (by kernel_rfl) St.drawn (fun _ h=>h) ?_);refine ZH F.lay25 ?_;refine X_fs rfl rfl F.ok66 rfl (WO _) rfl ?_
  rintro _ rfl
  refine WV 5 rfl (show _=aggV [.one (.int .i64 (-1)),Yq 0] from rfl) ?_
  refine Wf (m:=20) rfl rfl rfl rfl rfl (by constructor) (by constructor) F.lay25 F.kinds25 rfl F.guard25 (by exact Xf (⟨_,_⟩)) (by exact Xf (⟨_,_⟩)) rfl rfl rfl ?_;intro c2 he3
  replace he3:c2=true↔¬(Segs.cells _=Segs.cells _):=he3
  obtain rfl:=neD he3 (ZD.inj (x:=⟨_,_⟩) (y:=⟨_,_⟩));clear he3
  refine Zv ?_
  refine Yh 7 rfl (fun hc4=>?_) (fun hc4=>?_)
  ·replace hc4:=nT hc4
   refine ZH F.lay28 ?_;refine ZH F.lay25 ?_;refine X_fs rfl rfl F.ok118 rfl (other_ok _ ⟨⟨_,_⟩,⟨_,_⟩,⟨_,_,_⟩,⟨_,_,_⟩⟩ ⟨_,_⟩) rfl ?_
   rintro _ rfl
   refine Xx ?_;refine ZK ?_;refine ZB ?_;refine Zo (Zn (Y_pk [3] ?_));refine Yg ?_
   refine Ya (.inr rfl) (.tmp rfl .nil) (fun w hw=>?_)
   refine ⟨_,M,rfl,Mem.le.refl M,hw.c,rfl,?_⟩
   clear hw
   (refine congrArg Value.bool ?_;simp_all [VF,YW];done)
  ·replace hc4:=nF hc4
   iterate 4 refine ZU ?_
   refine ZK ?_;refine ZB ?_;refine Zo (Zn (Y_pk [3] ?_));refine Yg ?_
   refine Ya (.inr rfl) (.tmp rfl .nil) (fun w hw=>?_)
   refine ⟨_,M,rfl,Mem.le.refl M,hw.c,rfl,?_⟩
   clear hw
   (refine congrArg Value.bool ?_;simp_all [VF,YW];done)
theorem IsT_ok (M:Mem) (t:ZL) (ht0:ZL.ok M t):Fs Tryz.prog 70 [t.enc] M (fun v=>v=Value.bool (decide (IsTb t.tb))):=by
  obtain ⟨⟨ZZ,Yp⟩,⟨Yr,YE⟩,⟨Yu,Yt,ZW⟩,⟨Yc,Yb,ZJ⟩⟩:=t
  have YS:SlK M ZD.segs 21 ⟨Yu,Yt,ZW⟩:=ht0.h0
  have WQ:SlM M Yu (ZW.map ZD.segs) 21:=YS.h1
  have WR:(ZW.map ZD.segs).length=ZW.length:=List.length_map ..
  have WS:ZW.length≤9223372036854775807:=YS.h2
  have WU:ZW.length≤Yt:=YS.h3
  have Yw:SlK M ZD.segs 21 ⟨Yc,Yb,ZJ⟩:=ht0.h1
  have Wb:SlM M Yc (ZJ.map ZD.segs) 21:=Yw.h1
  have Wi:(ZJ.map ZD.segs).length=ZJ.length:=List.length_map ..
  have Wc:ZJ.length≤9223372036854775807:=Yw.h2
  have Wj:ZJ.length≤Yb:=Yw.h3
  refine Xm Tryz.func70 rfl Tryz.ntmps70 rfl ?_;intro H
  refine ZI (Zm (l:=[0,1]) rfl ?_)
  refine Xk ?_;intro b1
  refine ZB ?_;refine Zo (Zn (Y_pk [2,1] ?_));refine ZI (Zm (l:=[0,1]) rfl ?_);refine X_makeFunc rfl rfl rfl rfl rfl ?_;refine ZB ?_;refine Zo (Zn (Y_pk [3,2,1] ?_))
  iterate 2 refine ZI ?_
  refine Zm (l:=[0,1,2,3,4,5,6,7,8,9,10,11,12,13,14,15,16,17,18,19,20,21,22,23,24,25,26,27,28]) rfl ?_;refine Zk F.foff28_0 ?_;refine Zk F.foff25_0 ?_;refine ZH F.lay3 ?_;refine X_fs rfl rfl F.ok115 rfl (is_ok _ _) rfl ?_
  rintro _ rfl
  refine Xx ?_;refine Zv ?_
  refine Yh 12 rfl (fun hc2=>?_) (fun hc2=>?_)
  ·replace hc2:=nT hc2
   iterate 4 refine ZU ?_
   refine ZK ?_;refine Zv ?_
   iterate 4 refine ZU ?_
   refine ZK ?_;refine Zv ?_
   iterate 4 refine ZU ?_
   refine ZK ?_;refine Zv ?_
   iterate 4 refine ZU ?_
   refine ZK ?_;refine Zo (Zn (Y_pk [35,2,1] ?_));refine Xe rfl ?_;refine ZI (Zm (l:=[0]) rfl ?_);refine ZB ?_;refine Zo (Zn (Y_pk [2,1] ?_));refine Yg (YG ?_)
   refine Ya (.inr rfl) (.tmp rfl .nil) (fun w hw=>?_)
   refine ⟨_,rfl,(hw.c),?_⟩
   clear hw
   refine congrArg Value.bool ?_
   (simp_all [IsTb,ZL.tb];done)
  ·replace hc2:=nF hc2
   refine Zv ?_;refine Zk F.foff28_1 ?_;refine ZH F.lay25 ?_;refine X_foV rfl rfl rfl F.ok117 rfl rfl (odd_ok M _ ⟨⟨ZZ,Yp⟩,⟨Yr,YE⟩,⟨Yu,Yt,ZW⟩,⟨Yc,Yb,ZJ⟩⟩ ht0 ⟨Yr,YE⟩) (by repeat first|exact Rem.here _|exact Rem.two|apply Rem.skip|apply Rem.over) (YA rfl) ?_
   rintro _ M1 _ ⟨hM1,rfl⟩;subst M1
   refine ZK ?_;refine Zv ?_
   refine Yh 18 rfl (fun hc3=>?_) (fun hc3=>?_)
   ·replace hc3:=dT hc3
    simp only [ZD.eta,ZL.eta,ZO.eta,ZM.eta,Yd.eta,ZQ.eta,YI.eta,ZX.eta] at hc3
    iterate 4 refine ZU ?_
    refine ZK ?_;refine Zv ?_
    iterate 4 refine ZU ?_
    refine ZK ?_;refine Zv ?_
    iterate 4 refine ZU ?_
    refine ZK ?_;refine Zo (Zn (Y_pk [35,2,1] ?_));refine Xe rfl ?_;refine ZI (Zm (l:=[0]) rfl ?_);refine ZB ?_;refine Zo (Zn (Y_pk [2,1] ?_));refine Yg (YG ?_)
    refine Ya (.inr rfl) (.tmp rfl .nil) (fun w hw=>?_)
    refine ⟨_,rfl,(hw.c),?_⟩
    clear hw
    refine congrArg Value.bool ?_
    (simp_all [IsTb,ZL.tb];done)
   ·replace hc3:=dF hc3
    simp only [ZD.eta,ZL.eta,ZO.eta,ZM.eta,Yd.eta,ZQ.eta,YI.eta,ZX.eta] at hc3
    refine Zk F.foff28_2 ?_;refine ZH F.lay26 ?_;refine YX F.elem26 ?_;refine Yz ?_;refine ZK ?_;refine Zv ?_
    refine Yh 24 rfl (fun hc4=>?_) (fun hc4=>?_)
    ·replace hc4:=dT hc4
     iterate 4 refine ZU ?_
     refine ZK ?_;refine Zv ?_
     iterate 4 refine ZU ?_
     refine ZK ?_;refine Zo (Zn (Y_pk [35,2,1] ?_));refine Xe rfl ?_;refine ZI (Zm (l:=[0]) rfl ?_);refine ZB ?_;refine Zo (Zn (Y_pk [2,1] ?_));refine Yg (YG ?_)
     refine Ya (.inr rfl) (.tmp rfl .nil) (fun w hw=>?_)
     refine ⟨_,rfl,(hw.c),?_⟩
     clear hw
     refine congrArg Value.bool ?_
     (simp_all [IsTb,ZL.tb];omega)
    ·replace hc4:=dF hc4
     refine Zk F.foff28_3 ?_;refine ZH F.lay26 ?_;refine YX F.elem26 ?_;refine Yz ?_;refine ZK ?_;refine Zv ?_
     refine Yh 30 rfl (fun hc5=>?_) (fun hc5=>?_)
     ·replace hc5:=nT hc5
      iterate 4 refine ZU ?_
      refine ZK ?_;refine Zo (Zn (Y_pk [35,2,1] ?_));refine Xe rfl ?_;refine ZI (Zm (l:=[0]) rfl ?_);refine ZB ?_;refine Zo (Zn (Y_pk [2,1] ?_));refine Yg (YG ?_)
      refine Ya (.inr rfl) (.tmp rfl .nil) (fun w hw=>?_)
      refine ⟨_,rfl,(hw.c),?_⟩
      clear hw
      refine congrArg Value.bool ?_
      (simp_all [IsTb,ZL.tb];omega)
     ·replace hc5:=nF hc5
      refine Zk F.foff28_3 ?_;refine ZH F.lay26 ?_;refine Zv ?_;refine X_fo rfl rfl F.ok78 rfl (ContainsFP_rd _ [(b1,_)] ⟨_,_,_⟩ 117 [_] (fun p=>decide (¬VF ⟨ZZ,Yp⟩ p)) (Wb.rd _) Wc F.ok117 (fun x hx=>odd_ok M _ ⟨⟨ZZ,Yp⟩,⟨Yr,YE⟩,⟨Yu,Yt,ZW⟩,⟨Yc,Yb,ZJ⟩⟩ ht0 x)) (by repeat first|exact Rem.here _|exact Rem.two|apply Rem.skip|apply Rem.over) (YA rfl) ?_
      rintro _ M1 _ ⟨hM1,rfl⟩;subst M1
      refine ZK ?_;refine Zo (Zn (Y_pk [35,2,1] ?_))
      refine Yx rfl (fun hc6=>?_) (fun hc6=>?_)
      ·skip
       simp only [ZD.eta,ZL.eta,ZO.eta,ZM.eta,Yd.eta,ZQ.eta,YI.eta,ZX.eta] at hc6
       refine ZI (Zm (l:=[0]) rfl ?_);refine ZB ?_;refine Zo (Zn (Y_pk [2,1] ?_));refine Yg (YG ?_)
       refine Ya (.inr rfl) (.tmp rfl .nil) (fun w hw=>?_)
       refine ⟨_,rfl,(hw.c),?_⟩
       clear hw
       refine congrArg Value.bool ?_
       (simp_all [IsTb,ZL.tb];done)
      ·skip
       simp only [ZD.eta,ZL.eta,ZO.eta,ZM.eta,Yd.eta,ZQ.eta,YI.eta,ZX.eta] at hc6
       refine Yv (Zn (Y_pk [2,1] ?_))
       iterate 2 refine ZI ?_
       refine Zm (l:=[0,1,2,3]) rfl ?_;refine Zk F.foff28_2 ?_;refine ZH F.lay26 ?_;refine YX F.elem26 ?_;refine Zv ?_;refine Zo (Zn (Y_pk [39,38,37,2,1] ?_));refine Xd (Y_pk [39,38,37,2,1] ?_);refine WH (.succ .zero) (fun (k:Nat) z=>z=[(39,.int .i64 (k:Int))]∧k≤ZW.length∧(VT ⟨ZZ,Yp⟩ (ZW.take k))) (fun k=>ZW.length-k) (0) (⟨rfl,by omega,by (refine ⟨fun p hp=>?_,?_⟩;simp at hp;simp)⟩) ?_
       rintro k _ ⟨rfl,hk,hI⟩
       have k_tk:=YS.take k hk
       have hlk:(ZW.take k).length=k:=by rw [List.length_take];omega
       refine ZI (Zm (l:=[0]) rfl ?_);refine Yz ?_;refine Zo (Zn (ZI ?_))
       refine Yx rfl (fun hc7=>?_) (fun hc7=>?_)
       ·replace hc7:=dT hc7
        refine Yv (Zn (ZI (Xd (ZI (Zm (l:=[0,1,2,3,4,5]) rfl ?_)))));refine Zv ?_;refine YR rfl rfl rfl rfl F.elem26 (by rfl) (by omega) (by exact SlM.plain (by assumption) (by (simp;omega))) rfl ?_;refine Xo rfl rfl rfl (by assumption) (by exact XW (by omega)) F.lay25 rfl rfl rfl ?_
        refine YT F.zero25 ?_;intro b8
        refine ZB ?_;refine Yi F.lay25 ?_;refine Zo (Zn (ZI (Yy (l:=[0,1,2,3,4,5,6,7,8,9,10,11,12]) #[0,0,3,7,15,31,63,31,255,31,543,2047,4095] _ rfl (by kernel_rfl) (by kernel_rfl) St.drawn (fun _ h=>h) ?_)));refine ZH F.lay28 ?_;refine ZH F.lay25 ?_;refine X_fs rfl rfl F.ok118 rfl (other_ok _ ⟨⟨_,_⟩,⟨_,_⟩,⟨_,_,_⟩,⟨_,_,_⟩⟩ ⟨_,_⟩) rfl ?_
        rintro _ rfl
        refine Xx ?_;refine Zv ?_
        refine Yh 48 rfl (fun hc9=>?_) (fun hc9=>?_)
        ·replace hc9:=nT hc9
         simp only [ZD.eta,ZL.eta,ZO.eta,ZM.eta,Yd.eta,ZQ.eta,YI.eta,ZX.eta] at hc9
         simp only [List.get_eq_getElem] at hc9
         iterate 7 refine ZU ?_
         refine ZK ?_;refine Zo (Zn (Xe rfl ?_));refine ZI (Zm (l:=[0]) rfl ?_);refine ZB ?_;refine Zo (Zn (Yg (Xi ?_)))
         iterate 2 refine YG ?_
         refine Xi (YG ?_)
         refine Ya (.inr rfl) (.tmp rfl .nil) (fun w hw=>?_)
         refine ⟨_,rfl,(hw.c),?_⟩
         clear hw
         refine congrArg Value.bool ?_
         (have hd:=succOk_take (s:=⟨ZZ,Yp⟩) (l:=ZW) (k:=k) (by omega);have hp:=succOk_pre (s:=⟨ZZ,Yp⟩) (l:=ZW);grind [IsTb,ZL.tb])
        ·replace hc9:=nF hc9
         simp only [ZD.eta,ZL.eta,ZO.eta,ZM.eta,Yd.eta,ZQ.eta,YI.eta,ZX.eta] at hc9
         simp only [List.get_eq_getElem] at hc9
         refine Zk F.foff28_2 ?_;refine ZH F.lay26 ?_;refine Zv ?_;refine WG rfl rfl rfl .none (.some (k:=k) rfl rfl) .none F.elem26 (by simp only [Option.getD_none];omega) (by simp only [Option.getD_some,Option.getD_none];omega) (by simp only [Option.getD_some,Option.getD_none];omega) (by simp) (pieceV_take (l:=ZW) (k:=k) (by omega)) rfl ?_;refine Zk F.foff25_0 ?_;refine ZH F.lay3 ?_;refine X_fs rfl rfl F.ok119 rfl (has_ok _ ⟨_,_,_⟩ _ (by assumption)) rfl ?_
         rintro _ rfl
         refine ZK ?_;refine Zo (Zn ?_)
         refine Yx rfl (fun hc10=>?_) (fun hc10=>?_)
         ·replace hc10:=dT hc10
          simp only [ZD.eta,ZL.eta,ZO.eta,ZM.eta,Yd.eta,ZQ.eta,YI.eta,ZX.eta] at hc10
          simp only [List.get_eq_getElem] at hc10
          refine ZI (Zm (l:=[0]) rfl ?_);refine ZB ?_;refine Zo (Zn (Yg (Xi ?_)))
          iterate 2 refine YG ?_
          refine Xi (YG ?_)
          refine Ya (.inr rfl) (.tmp rfl .nil) (fun w hw=>?_)
          refine ⟨_,rfl,(hw.c),?_⟩
          clear hw
          refine congrArg Value.bool ?_
          (have hd:=succOk_take (s:=⟨ZZ,Yp⟩) (l:=ZW) (k:=k) (by omega);have hp:=succOk_pre (s:=⟨ZZ,Yp⟩) (l:=ZW);grind [IsTb,ZL.tb])
         ·replace hc10:=dF hc10
          simp only [ZD.eta,ZL.eta,ZO.eta,ZM.eta,Yd.eta,ZQ.eta,YI.eta,ZX.eta] at hc10
          simp only [List.get_eq_getElem] at hc10
          refine Yv (XV (Zn (Zm (l:=[0,1]) rfl ?_)));refine XN rfl rfl rfl rfl rfl (by exact Xn (by decide) (by omega)) rfl ?_;refine Zv ?_;refine Zo ?_;refine WC (a':=[(39,_)]) (k+1) (.cons (k:=39) rfl (.cons (k:=38) rfl (.cons (k:=37) rfl (.cons (k:=2) rfl (.cons (k:=1) rfl (.nil)))))) (fun w hw=>by first|exact hw|exact hw.c) ?_ ?_
          ·refine ⟨rfl,by omega,?_⟩
           rw [succOk_take (by omega)];simp_all
          ·omega
       ·replace hc7:=dF hc7
        refine XS ?_
        iterate 2 refine XM ?_
        refine Wl (Zn (Y_pk [2] ?_));refine ZI (Zm (l:=[0]) rfl ?_);refine ZB ?_;refine Zo (Zn (Yg ?_))
        refine Ya (.inr rfl) (.tmp rfl .nil) (fun w hw=>?_)
        refine ⟨_,rfl,(hw.c),?_⟩
        clear hw
        refine congrArg Value.bool ?_
        (have hk9:k=ZW.length:=(by omega);subst hk9;rw [List.take_length] at hI;simp_all [IsTb,ZL.tb];omega)
theorem rIsT_ok (M:Mem) (t:ZL) (ht0:ZL.ok M t):Fs Tryz.prog 73 [t.enc] M (fun v=>v=Value.bool (decide (IsTb t.tb))):=by
  obtain ⟨⟨ZZ,Yp⟩,⟨Yr,YE⟩,⟨Yu,Yt,ZW⟩,⟨Yc,Yb,ZJ⟩⟩:=t
  have YS:SlK M ZD.segs 21 ⟨Yu,Yt,ZW⟩:=ht0.h0
  have WQ:SlM M Yu (ZW.map ZD.segs) 21:=YS.h1
  have WR:(ZW.map ZD.segs).length=ZW.length:=List.length_map ..
  have WS:ZW.length≤9223372036854775807:=YS.h2
  have WU:ZW.length≤Yt:=YS.h3
  have Yw:SlK M ZD.segs 21 ⟨Yc,Yb,ZJ⟩:=ht0.h1
  have Wb:SlM M Yc (ZJ.map ZD.segs) 21:=Yw.h1
  have Wi:(ZJ.map ZD.segs).length=ZJ.length:=List.length_map ..
  have Wc:ZJ.length≤9223372036854775807:=Yw.h2
  have Wj:ZJ.length≤Yb:=Yw.h3
  refine Xm Tryz.func73 rfl Tryz.ntmps73 rfl ?_;intro H
  refine ZI (Zm (l:=[0,1]) rfl ?_)
  refine Xk ?_;intro b1
  refine ZB ?_;refine Zo (Zn (Y_pk [2,1] ?_))
  iterate 2 refine ZI ?_
  refine Zm (l:=[0,1,2,3,4,5,6,7,8,9,10,11,12,13,14,15,16,17,18,19,20,21,22,23,24,25,26,27,28]) rfl ?_;refine Zk F.foff28_0 ?_;refine Zk F.foff25_0 ?_;refine ZH F.lay3 ?_;refine Yz ?_;refine Zv ?_
  refine Yh 9 rfl (fun hc2=>?_) (fun hc2=>?_)
  ·replace hc2:=dT hc2
   iterate 4 refine ZU ?_
   refine ZK ?_;refine Zv ?_
   iterate 5 refine ZU ?_
   refine ZK ?_;refine Zv ?_
   iterate 4 refine ZU ?_
   refine ZK ?_;refine Zv ?_
   iterate 4 refine ZU ?_
   refine ZK ?_;refine Zo (Zn (Y_pk [33,2,1] ?_));refine Xe rfl ?_;refine ZI (Zm (l:=[0]) rfl ?_);refine ZB ?_;refine Zo (Zn (Y_pk [2,1] ?_));refine Yg (YG ?_)
   refine Ya (.inr rfl) (.tmp rfl .nil) (fun w hw=>?_)
   refine ⟨_,rfl,(hw.c),?_⟩
   clear hw
   refine congrArg Value.bool ?_
   (refine (decide_eq_false (fun h=>?_)).symm;obtain ⟨⟨g1,g2⟩,g3,g4,g5,g6,g7⟩:=h;simp only [ZL.tb] at *;first|omega|contradiction)
  ·replace hc2:=dF hc2
   refine Zk F.foff28_0 ?_;refine Zk F.foff25_0 ?_;refine ZH F.lay3 ?_;refine Yz ?_;refine ZK ?_;refine Zv ?_
   refine Yh 15 rfl (fun hc3=>?_) (fun hc3=>?_)
   ·replace hc3:=dT hc3
    iterate 5 refine ZU ?_
    refine ZK ?_;refine Zv ?_
    iterate 4 refine ZU ?_
    refine ZK ?_;refine Zv ?_
    iterate 4 refine ZU ?_
    refine ZK ?_;refine Zo (Zn (Y_pk [33,2,1] ?_));refine Xe rfl ?_;refine ZI (Zm (l:=[0]) rfl ?_);refine ZB ?_;refine Zo (Zn (Y_pk [2,1] ?_));refine Yg (YG ?_)
    refine Ya (.inr rfl) (.tmp rfl .nil) (fun w hw=>?_)
    refine ⟨_,rfl,(hw.c),?_⟩
    clear hw
    refine congrArg Value.bool ?_
    (refine (decide_eq_false (fun h=>?_)).symm;obtain ⟨⟨g1,g2⟩,g3,g4,g5,g6,g7⟩:=h;simp only [ZL.tb] at *;first|omega|contradiction)
   ·replace hc3:=dF hc3
    refine ZH F.lay28 ?_;refine Zk F.foff28_1 ?_;refine ZH F.lay25 ?_;refine X_fs rfl rfl F.ok121 rfl (rMaybe_ok _ ⟨⟨_,_⟩,⟨_,_⟩,⟨_,_,_⟩,⟨_,_,_⟩⟩ ⟨_,_⟩) rfl ?_
    rintro _ rfl
    refine Xx ?_;refine ZK ?_;refine Zv ?_
    refine Yh 22 rfl (fun hc4=>?_) (fun hc4=>?_)
    ·replace hc4:=nT hc4
     simp only [ZD.eta,ZL.eta,ZO.eta,ZM.eta,Yd.eta,ZQ.eta,YI.eta,ZX.eta] at hc4
     iterate 4 refine ZU ?_
     refine ZK ?_;refine Zv ?_
     iterate 4 refine ZU ?_
     refine ZK ?_;refine Zo (Zn (Y_pk [33,2,1] ?_));refine Xe rfl ?_;refine ZI (Zm (l:=[0]) rfl ?_);refine ZB ?_;refine Zo (Zn (Y_pk [2,1] ?_));refine Yg (YG ?_)
     refine Ya (.inr rfl) (.tmp rfl .nil) (fun w hw=>?_)
     refine ⟨_,rfl,(hw.c),?_⟩
     clear hw
     refine congrArg Value.bool ?_
     (simp_all [IsTb,ZL.tb];done)
    ·replace hc4:=nF hc4
     simp only [ZD.eta,ZL.eta,ZO.eta,ZM.eta,Yd.eta,ZQ.eta,YI.eta,ZX.eta] at hc4
     refine Zk F.foff28_2 ?_;refine ZH F.lay26 ?_;refine YX F.elem26 ?_;refine Yz ?_;refine ZK ?_;refine Zv ?_
     refine Yh 28 rfl (fun hc5=>?_) (fun hc5=>?_)
     ·replace hc5:=dT hc5
      iterate 4 refine ZU ?_
      refine ZK ?_;refine Zo (Zn (Y_pk [33,2,1] ?_));refine Xe rfl ?_;refine ZI (Zm (l:=[0]) rfl ?_);refine ZB ?_;refine Zo (Zn (Y_pk [2,1] ?_));refine Yg (YG ?_)
      refine Ya (.inr rfl) (.tmp rfl .nil) (fun w hw=>?_)
      refine ⟨_,rfl,(hw.c),?_⟩
      clear hw
      refine congrArg Value.bool ?_
      (simp_all [IsTb,ZL.tb];omega)
     ·replace hc5:=dF hc5
      refine Zk F.foff28_3 ?_;refine ZH F.lay26 ?_;refine YX F.elem26 ?_;refine Yz ?_;refine ZK ?_;refine Zo (Zn (Y_pk [33,2,1] ?_))
      refine Yx rfl (fun hc6=>?_) (fun hc6=>?_)
      ·replace hc6:=nT hc6
       refine ZI (Zm (l:=[0]) rfl ?_);refine ZB ?_;refine Zo (Zn (Y_pk [2,1] ?_));refine Yg (YG ?_)
       refine Ya (.inr rfl) (.tmp rfl .nil) (fun w hw=>?_)
       refine ⟨_,rfl,(hw.c),?_⟩
       clear hw
       refine congrArg Value.bool ?_
       (simp_all [IsTb,ZL.tb];omega)
      ·replace hc6:=nF hc6
       refine Yv (Zn (Y_pk [2,1] ?_))
       iterate 2 refine ZI ?_
       refine Zm (l:=[0]) rfl ?_;refine ZB ?_;refine Zo (Zn (Xd (Y_pk [3,2,1] ?_)));refine WH (.succ .zero) (fun (k:Nat) z=>z=[(3,.int .i64 (k:Int))]∧k≤ZW.length∧(VT ⟨ZZ,Yp⟩ (ZW.take k))) (fun k=>ZW.length-k) (0) (⟨rfl,by omega,by (refine ⟨fun p hp=>?_,?_⟩;simp at hp;simp)⟩) ?_
       rintro k _ ⟨rfl,hk,hI⟩
       have k_tk:=YS.take k hk
       have hlk:(ZW.take k).length=k:=by rw [List.length_take];omega
       iterate 2 refine ZI ?_
       refine Zm (l:=[0,1,2,3,4]) rfl ?_;refine Zv ?_;refine Zk F.foff28_2 ?_;refine ZH F.lay26 ?_;refine YX F.elem26 ?_;refine Yz ?_;refine Zo (Zn ?_)
       refine Yx rfl (fun hc7=>?_) (fun hc7=>?_)
       ·replace hc7:=dT hc7
        refine Yv (Zn (ZI (Xd (ZI (Yy (l:=[0,1,2,3,4,5,6,7,8,9,10,11,12,13,14,15,16,17,18,19,20]) #[0,0,2,0,14,30,63,127,255,511,1023,511,4095,511,8703,511,57855,123391,254463,524287,1048575] _ rfl (by kernel_rfl) (by kernel_rfl) St.drawn (fun _ h=>h) ?_)))));refine ZH F.lay28 ?_;refine Zk F.foff28_2 ?_;refine ZH F.lay26 ?_;refine Zv ?_;refine YR rfl rfl rfl rfl F.elem26 (by rfl) (by omega) (by exact SlM.plain (by assumption) (by (simp;omega))) rfl ?_;refine Xo rfl rfl rfl (by assumption) (by exact XW (by omega)) F.lay25 rfl rfl rfl ?_;refine X_fs rfl rfl F.ok55 rfl (rOther_ok _ ⟨⟨_,_⟩,⟨_,_⟩,⟨_,_,_⟩,⟨_,_,_⟩⟩ ⟨_,_⟩) rfl ?_
        rintro _ rfl
        refine Xx ?_;refine Zv ?_
        refine Yh 49 rfl (fun hc8=>?_) (fun hc8=>?_)
        ·replace hc8:=nT hc8
         simp only [ZD.eta,ZL.eta,ZO.eta,ZM.eta,Yd.eta,ZQ.eta,YI.eta,ZX.eta] at hc8
         simp only [List.get_eq_getElem] at hc8
         iterate 11 refine ZU ?_
         refine ZK ?_;refine Zo (Zn (Xe rfl ?_));refine ZI (Zm (l:=[0]) rfl ?_);refine ZB ?_;refine Zo (Zn (Yg (Xi ?_)))
         iterate 2 refine YG ?_
         refine Xi (YG ?_)
         refine Ya (.inr rfl) (.tmp rfl .nil) (fun w hw=>?_)
         refine ⟨_,rfl,(hw.c),?_⟩
         clear hw
         refine congrArg Value.bool ?_
         (have hd:=succOk_take (s:=⟨ZZ,Yp⟩) (l:=ZW) (k:=k) (by omega);have hp:=succOk_pre (s:=⟨ZZ,Yp⟩) (l:=ZW);grind [IsTb,ZL.tb])
        ·replace hc8:=nF hc8
         simp only [ZD.eta,ZL.eta,ZO.eta,ZM.eta,Yd.eta,ZQ.eta,YI.eta,ZX.eta] at hc8
         simp only [List.get_eq_getElem] at hc8
         refine Zk F.foff28_2 ?_;refine ZH F.lay26 ?_;refine Zv ?_;refine WG rfl rfl rfl .none (.some (k:=k) rfl rfl) .none F.elem26 (by simp only [Option.getD_none];omega) (by simp only [Option.getD_some,Option.getD_none];omega) (by simp only [Option.getD_some,Option.getD_none];omega) (by simp) (pieceV_take (l:=ZW) (k:=k) (by omega)) rfl ?_;refine Zk F.foff28_2 ?_;refine ZH F.lay26 ?_;refine Zv ?_;refine YR rfl rfl rfl rfl F.elem26 (by rfl) (by omega) (by exact SlM.plain (by assumption) (by (simp;omega))) rfl ?_;refine Xp rfl rfl rfl (by exact SlM.plain (by assumption) (by (simp;omega))) F.foff25_0 rfl ?_;refine Xo rfl rfl rfl (by assumption) (by exact XW (by omega)) F.lay3 rfl rfl rfl ?_;refine X_fs rfl rfl F.ok122 rfl (rhas_ok _ ⟨_,_,_⟩ _ (by assumption)) rfl ?_
         rintro _ rfl
         refine ZK ?_;refine Zo (Zn ?_)
         refine Yx rfl (fun hc9=>?_) (fun hc9=>?_)
         ·replace hc9:=dT hc9
          simp only [ZD.eta,ZL.eta,ZO.eta,ZM.eta,Yd.eta,ZQ.eta,YI.eta,ZX.eta] at hc9
          simp only [List.get_eq_getElem] at hc9
          refine ZI (Zm (l:=[0]) rfl ?_);refine ZB ?_;refine Zo (Zn (Yg (Xi ?_)))
          iterate 2 refine YG ?_
          refine Xi (YG ?_)
          refine Ya (.inr rfl) (.tmp rfl .nil) (fun w hw=>?_)
          refine ⟨_,rfl,(hw.c),?_⟩
          clear hw
          refine congrArg Value.bool ?_
          (have hd:=succOk_take (s:=⟨ZZ,Yp⟩) (l:=ZW) (k:=k) (by omega);have hp:=succOk_pre (s:=⟨ZZ,Yp⟩) (l:=ZW);grind [IsTb,ZL.tb])
         ·replace hc9:=dF hc9
          simp only [ZD.eta,ZL.eta,ZO.eta,ZM.eta,Yd.eta,ZQ.eta,YI.eta,ZX.eta] at hc9
          simp only [List.get_eq_getElem] at hc9
          refine Yv (XV (Zn (Zm (l:=[0,1,2]) rfl ?_)));refine Zv ?_;refine XN rfl rfl rfl rfl rfl (by exact Xn (by decide) (by omega)) rfl ?_;refine ZB ?_;refine Zo ?_;refine WC (a':=[(3,_)]) (k+1) (.cons (k:=3) rfl (.cons (k:=2) rfl (.cons (k:=1) rfl (.nil)))) (fun w hw=>by first|exact hw|exact hw.c) ?_ ?_
          ·refine ⟨rfl,by omega,?_⟩
           rw [succOk_take (by omega)];simp_all
          ·omega
       ·replace hc7:=dF hc7
        refine XS ?_
        iterate 2 refine XM ?_
        refine Wl (Zn (Y_pk [2,1] ?_))
        iterate 2 refine ZI ?_
        refine Zm (l:=[0]) rfl ?_;refine ZB ?_;refine Zo (Zn (Xd (Y_pk [4,2,1] ?_)));refine WH (.succ .zero) (fun (k:Nat) z=>z=[(4,.int .i64 (k:Int))]∧k≤ZJ.length∧(VT ⟨ZZ,Yp⟩ ZW∧∀ j (h:j<k) (h2:j<ZJ.length),VF ⟨ZZ,Yp⟩ ZJ[j])) (fun k=>ZJ.length-k) (0) (⟨rfl,by omega,by (refine ⟨by (have hk9:k=ZW.length:=(by omega));subst hk9;rw [List.take_length] at hI;exact hI,fun j hj=>by omega⟩)⟩) ?_
        rintro k2 _ ⟨rfl,hk2,hJ⟩
        iterate 2 refine ZI ?_
        refine Zm (l:=[0,1,2,3,4]) rfl ?_;refine Zv ?_;refine Zk F.foff28_3 ?_;refine ZH F.lay26 ?_;refine YX F.elem26 ?_;refine Yz ?_;refine Zo (Zn ?_)
        refine Yx rfl (fun hc10=>?_) (fun hc10=>?_)
        ·replace hc10:=dT hc10
         refine Yv (Zn (ZI (Xd (ZI (Yy (l:=[0,1,2,3,4,5,6,7]) #[0,0,2,0,14,30,63,127] _ rfl (by kernel_rfl) (by kernel_rfl) St.drawn (fun _ h=>h) ?_)))));refine ZH F.lay28 ?_;refine Zk F.foff28_3 ?_;refine ZH F.lay26 ?_;refine Zv ?_;refine YR rfl rfl rfl rfl F.elem26 (by rfl) (by omega) (by exact SlM.plain (by assumption) (by (simp;omega))) rfl ?_;refine Xo rfl rfl rfl (by assumption) (by exact XW (by omega)) F.lay25 rfl rfl rfl ?_;refine X_fs rfl rfl F.ok121 rfl (rMaybe_ok _ ⟨⟨_,_⟩,⟨_,_⟩,⟨_,_,_⟩,⟨_,_,_⟩⟩ ⟨_,_⟩) rfl ?_
         rintro _ rfl
         refine Xx ?_;refine Zo (Zn ?_)
         refine Yx rfl (fun hc11=>?_) (fun hc11=>?_)
         ·replace hc11:=nT hc11
          simp only [ZD.eta,ZL.eta,ZO.eta,ZM.eta,Yd.eta,ZQ.eta,YI.eta,ZX.eta] at hc11
          simp only [List.get_eq_getElem] at hc11
          refine ZI (Zm (l:=[0]) rfl ?_);refine ZB ?_;refine Zo (Zn (Yg (Xi ?_)))
          iterate 2 refine YG ?_
          refine Xi (YG ?_)
          refine Ya (.inr rfl) (.tmp rfl .nil) (fun w hw=>?_)
          refine ⟨_,rfl,(hw.c),?_⟩
          clear hw
          refine congrArg Value.bool ?_
          (have h9:¬∀ p∈ZJ,VF ⟨ZZ,Yp⟩ p:=(fun h=>absurd (h _ (List.getElem_mem (n:=k2) (by omega))) (by assumption));exact (decide_eq_false (fun h=>h9 h.2.2.2.2.2)).symm)
         ·replace hc11:=nF hc11
          simp only [ZD.eta,ZL.eta,ZO.eta,ZM.eta,Yd.eta,ZQ.eta,YI.eta,ZX.eta] at hc11
          simp only [List.get_eq_getElem] at hc11
          refine Yv (XV (Zn (Zm (l:=[0,1,2]) rfl ?_)));refine Zv ?_;refine XN rfl rfl rfl rfl rfl (by exact Xn (by decide) (by omega)) rfl ?_;refine ZB ?_;refine Zo ?_;refine WC (a':=[(4,_)]) (k2+1) (.cons (k:=4) rfl (.cons (k:=2) rfl (.cons (k:=1) rfl (.nil)))) (fun w hw=>by first|exact hw|exact hw.c) ?_ ?_
          ·refine ⟨rfl,by omega,?_⟩
           refine ⟨hJ.1,fun j hj hj2=>?_⟩;rcases Nat.lt_or_ge j k2 with h9|h9;exact hJ.2 j h9 hj2;obtain rfl:j=k2:=(by omega);assumption
          ·omega
        ·replace hc10:=dF hc10
         refine XS ?_
         iterate 2 refine XM ?_
         refine Wl (Zn (Y_pk [2] ?_));refine ZI (Zm (l:=[0]) rfl ?_);refine ZB ?_;refine Zo (Zn (Yg ?_))
         refine Ya (.inr rfl) (.tmp rfl .nil) (fun w hw=>?_)
         refine ⟨_,rfl,(hw.c),?_⟩
         clear hw
         refine congrArg Value.bool ?_
         (have h9:∀ p∈ZJ,VF ⟨ZZ,Yp⟩ p:=(fun p hp=>by obtain ⟨j,hj,rfl⟩:=List.getElem_of_mem hp;exact hJ.2 j (by omega) hj);exact (decide_eq_true (show IsTb _ from ⟨⟨by show 0≤ZZ;omega,by show ZZ≤999;omega⟩,by assumption,by show ZW.length≤8;omega,by show ZJ.length=160;omega,hJ.1,h9⟩)).symm)
end Go.Proofs.YtajmnjefajknoaaGreat
namespace Go.Esp
section
variable {P:Program} {n:Sh} {ops:Array Oper} {Q:Exit→Act→World→Prop} {rest:List Nat} {M M':Mem} {H H' H0:Hp} {e:Env} {J S:World→Prop} {A:As} {i:Nat}
  {dst:Option Tmp} {d:Tmp} {op:Op} {ty:TypeId} {pos:String} {af:Array Edge} {gd:Option (Nat×Bool)}
theorem rows_one {α:Type} {f:α→Segs} (hf:∀ x,flat (f x)):∀ (l:List α),∀ u∈Ye (l.map f),u.oneCell'=true
  | [],u,hu=>by cases hu
  | x::l,u,hu=>by
    rcases List.mem_append.1 (show u∈Segs.cells (f x)++Ye (l.map f) from hu) with hu|hu
    · exact hf x u hu
    · exact rows_one hf l u hu
theorem SlM.none_nil {α:Type} {f:α→Segs} {sz:Nat} {l:List α} (h:SlM M Option.none (l.map f) sz):l=[]:=by
  cases l with
  | nil=>rfl
  | cons x l=>obtain ⟨b,off,c,T,fz,h1,_⟩:=h.there (by simp);cases h1
theorem SlM.src {ad:Addr} {rows:List Segs} {sz l c:Nat} (h:SlM M (some ad) rows sz) (h1:∀ u∈Ye rows,u.oneCell'=true) (hl:l=rows.length):Src M H sz (.slice (some ad) l c) rows:=by
  subst hl
  refine ⟨h.lens,h1,ad,c,rfl,fun w hw j u hu=>?_⟩
  obtain ⟨b,off,x,T,fz,e1,h2,h3⟩:=h.there (fun e=>by rw [e] at hu;simp [Ye] at hu)
  cases e1
  rw [Addr.add_lit,cell_of_row (hw.mem _ _ h2)]
  rw [← h3,List.getElem?_take,List.getElem?_drop] at hu
  split at hu
  · simpa using hu
  · cases hu
theorem made_cells {z:Array Value} {zr:Segs} (hz:z.toList=Segs.cells zr) (hp:0<z.size):∀ (n:Nat),(madeCells z (n * z.size)).toList=Ye (List.replicate n zr)
  | 0=>by simp [madeCells,Ye]
  | n+1=>by
    have ih:=made_cells hz hp n
    rw [List.replicate_succ',XK,← ih]
    simp only [madeCells,Array.toList_map,Array.toList_range,Ye,List.append_nil,Nat.add_mul,Nat.one_mul] at *
    rw [List.range_add,List.map_append]
    congr 1
    rw [← hz,List.map_map]
    apply List.ext_getElem
    · simp
    · intro j h1 h2
      simp only [List.length_map,List.length_range] at h1
      simp only [List.getElem_map,List.getElem_range,Function.comp,Nat.mul_add_mod_self_right]
      rw [Nat.mod_eq_of_lt h1,getElem!_pos z j h1]
      simp
theorem X_makeSliceO {t E sz by_ k:Nat} {z:Value} {zr:Segs} {x y:Operand} (hi:ops[i]?=some ⟨some d,.makeSlice t x y,ty,pos,af,gd⟩) (hg:want ops e gd=some true)
    (hx:ev e x=some (.int .i64 (k:Int))) (hy:ev e y=some (.int .i64 (k:Int))) (ht:slOf P t=some (E,sz,by_)) (hz:Wa P E=some z) (hzr:z.cells.toList=Segs.cells zr) (hzs:z.cells.size=sz) (hsz:Nat.ble 1 sz=true)
    (hk9:k * sz≤16777216) (hkb:by_ * k≤281474976710656) (hd:Nat.ble (d+1) n.sz=true)
    (hk:∀ (b:Nat) hs',OSl E sz (.slice (some ⟨b,0,Option.none⟩) k k) hs' (List.replicate k zr)→XD P n ops Q rest J ⟨M,hs'++H⟩ ((d,.slice (some ⟨b,0,Option.none⟩) k k)::e)):XD P n ops Q (i::rest) J ⟨M,H⟩ e:=by
  obtain ⟨it,hu,hit,rfl,rfl⟩:=Wv ht
  have hz':it.zero=some z:=by simpa [Wa,hit] using hz
  have hpos:1≤it.size:=Nat.le_of_ble_eq_true hsz
  have hkl:k≤k * it.size:=Nat.le_mul_of_pos_right k hpos
  have hb9:(it.bytes:Int) * (k:Int)≤281474976710656:=by
    have h9:((it.bytes * k:Nat):Int)≤281474976710656:=by omega
    simpa using h9
  have hlen:Segs.len zr=it.size:=by rw [← hzs,← Segs.cells_length,← hzr];simp
  have ho:∀ b,OSl E it.size (.slice (some ⟨b,0,Option.none⟩) k k) [(b,.cells (madeCells z.cells (k * it.size)) E (0,0))] (List.replicate k zr):=fun b=>by
    have hll:lens it.size (List.replicate k zr):=fun r hr=>by rw [List.eq_of_mem_replicate hr];exact hlen
    have hm:=made_cells hzr (by omega) k
    rw [hzs] at hm
    have:=OSl.own (T:=E) (sz:=it.size) b k (List.replicate k zr) (madeCells z.cells (k * it.size)) hll (by simp) (by simp only [maxLen];omega) (by simp [madeCells]) (by
      rw [hm,← Xj hll];exact List.take_length)
    simpa using this
  refine X_newV (x:=.cells (madeCells z.cells (k * it.size)) E (0,0)) (g:=fun b=>.slice (some ⟨b,0,Option.none⟩) k k) hi rfl hg (fun a ha w=>?_) (e':=fun b=>(d,.slice (some ⟨b,0,Option.none⟩) k k)::e) (fun a b ha=>ha.put hd _) (fun b=>hk b _ (ho b))
  have hr:=run_makeSlice (P:=P) (w:=w) t E it z hu hit hz' .i64 .i64 (k:Int) (k:Int) (by omega) (by omega) (by simpa using hk9) hb9 (by omega)
  simp only [Int.toNat_natCast] at hr
  simp only [execOp,ha.ev hx,ha.ev hy]
  exact Wx hr
theorem rowSplice {T sz b c k:Nat} {rows news:List Segs} {cur:Array Value} (h1:lens sz rows) (h2:lens sz news) (h3:rows.length≤c) (h4:c≤maxLen) (h5:cur.size=c * sz) (h6:cur.toList.take (rows.length * sz)=Ye rows) (hk:k+news.length≤rows.length) :
    OSl T sz (.slice (some ⟨b,0,Option.none⟩) rows.length c) [(b,.cells (cur.toList.take (k * sz)++Ye news++cur.toList.drop (k * sz+(Ye news).length)).toArray T (0,0))] (rows.take k++news++rows.drop (k+news.length)):=by
  have hnl:(Ye news).length=news.length * sz:=Xj h2
  have hle:k * sz+news.length * sz≤rows.length * sz:=by rw [← Nat.add_mul];exact Nat.mul_le_mul_right _ hk
  have hrc:rows.length * sz≤c * sz:=Nat.mul_le_mul_right _ h3
  have hlen:(rows.take k++news++rows.drop (k+news.length)).length=rows.length:=by simp;omega
  have hll:lens sz (rows.take k++news++rows.drop (k+news.length)):=((h1.take k).append h2).append (h1.drop _)
  have:=OSl.own (T:=T) (sz:=sz) b c (rows.take k++news++rows.drop (k+news.length)) (cur.toList.take (k * sz)++Ye news++cur.toList.drop (k * sz+(Ye news).length)).toArray hll (by omega) h4 (by
    simp only [List.size_toArray,List.length_append,List.length_take,List.length_drop,Array.length_toList];omega) (by
    rw [hlen]
    simp only [List.toList_toArray]
    rw [XK,XK,rowsCells_take h1 (by omega),rowsCells_drop h1 hk,← h6,hnl,List.take_take,Nat.min_eq_left (by omega),List.drop_take]
    rw [List.take_append,List.take_of_length_le (by simp only [List.length_append,List.length_take,Array.length_toList];omega)]
    congr 1
    simp only [List.length_append,List.length_take,Array.length_toList,hnl]
    rw [Nat.min_eq_left (by omega),Nat.add_mul])
  rw [hlen] at this
  exact this
theorem X_storeO {t:TypeId} {x y:Operand} {b j sz c m l:Nat} {agg:Bool} {T:TypeId} {q:Segs} {v:Value} {hs:Hp} {rows:List Segs} (hi:ops[i]?=some ⟨Option.none,.store t x y,ty,pos,af,gd⟩) (hg:want ops e gd=some true)
    (hx:ev e x=some (eptr (some ⟨b,0,Option.none⟩) j sz 0)) (hy:ev e y=some v) (hp:Vf v q) (hq:flat q) (hl:lay P t=some (agg,m)) (hn:Segs.len q=m) (hms:m=sz) (ho:OSl T sz (.slice (some ⟨b,0,Option.none⟩) l c) hs rows) (hH:Rem hs H H0) (hj:j<rows.length)
    (hk:∀ hs',OSl T sz (.slice (some ⟨b,0,Option.none⟩) rows.length c) hs' (rows.set j q)→XD P n ops Q rest (St M (hs'++H0)) ⟨M,hs'++H0⟩ e) (hnw:n.wrs.contains i=false:=by rfl):XD P n ops Q (i::rest) J ⟨M,H⟩ e:=by
  subst hms
  refine X_mut hi rfl hg (fun a w ha hw=>?_) hnw
  obtain ⟨dd,it,hd,hit,hsz,hag⟩:=lay_spec hl
  obtain ⟨cur,rfl,rfl,hlr,hcap,hcm,hcs,htake⟩:=ho.inv
  have hst:=hw.perm hH.perm
  have hb:=hst.own b _ (List.mem_append_left _ (.head _))
  have hq1:lens m [q]:=fun r hr=>by rw [List.mem_singleton.1 hr];exact hn
  have hjl:j * m+m≤rows.length * m:=by have:=Nat.mul_le_mul_right m (show j+1≤rows.length from hj);rwa [Nat.add_mul,Nat.one_mul] at this
  have hrc:rows.length * m≤c * m:=Nat.mul_le_mul_right _ hcap
  have hql:(Segs.cells q).length=m:=by rw [Segs.cells_length,hn]
  have h2:=run_storeCells_at P b (j * m) T (Segs.cells q) 0 cur w hb (by omega) hq
  have ho':=rowSplice (T:=T) (b:=b) (k:=j) hlr hq1 hcap hcm hcs htake (by simp;omega)
  have er:rows.take j++[q]++rows.drop (j+[q].length)=rows.set j q:=by
    rw [List.set_eq_take_append_cons_drop,if_pos hj];simp
  rw [er] at ho'
  simp only [Ye,List.append_nil] at ho'
  have hr:(Instr.storeAt t (.pointer (some ⟨b,0+(j * m+0),Option.none⟩)) v).run P w=.ok () (w.setRow b (cur.toList.take (j * m)++Segs.cells q++cur.toList.drop (j * m+(Segs.cells q).length)).toArray):=by
    unfold Instr.storeAt
    rw [Sem.run_bind]
    show (Result.ok _ w).andThen _=_
    rw [Result.andThen_ok]
    unfold storeVar
    rw [Sem.run_bind,run_sizeOf' hit,Result.andThen_ok]
    have hs:v.cells.size=it.size:=by rw [hp.cells,hsz];simp [Segs.cells_length,hn]
    simp only [hs,ne_eq,not_true_eq_false,if_false]
    rw [hp.cells,Nat.zero_add,Nat.add_zero]
    simpa using h2
  unfold Oper.does
  rw [eptr_some] at hx
  have:(execOp a.eval ⟨Option.none,.store t x y,ty,pos,af,gd⟩).run P w=.ok .skip (w.setRow b (cur.toList.take (j * m)++Segs.cells q++cur.toList.drop (j * m+(Segs.cells q).length)).toArray):=by
    simp only [execOp,ha.ev hx,ha.ev hy]
    rw [YJ hr];rfl
  rw [this]
  refine ⟨⟨M,_⟩,e,?_,ha,hk _ ho'⟩
  exact hst.upd .head (setRow_heap w b cur _ T _ hb) (fun c hc x hx=>by rw [setRow_other w b c _ hc];exact hx) (Vo.refl _)
theorem X_copyO {t t' E sz by_:Nat} {x y:Operand} {u:Value} {b k l' c' m c l off:Nat} {hs:Hp} {rows news:List Segs} {ats:Array TypeId} (hi:ops[i]?=some ⟨some d,.call ⟨.builtin .copy,#[x,y],ats⟩,ty,pos,af,gd⟩) (hg:want ops e gd=some true)
    (hx:ev e x=some (.slice (some ⟨b,off,Option.none⟩) l' c')) (hy:ev e y=some u) (hat:ats=#[t,t']) (ht:slOf P t=some (E,sz,by_)) (hoff:off=k * sz) (hkl:k+l'≤rows.length) (ho:OSl E sz (.slice (some ⟨b,0,Option.none⟩) l c) hs rows) (hH:Rem hs H H0)
    (hsrc:Src M H sz u news) (hm:m=min news.length l') (hd:Nat.ble (d+1) n.sz=true)
    (hk:∀ hs',OSl E sz (.slice (some ⟨b,0,Option.none⟩) rows.length c) hs' (rows.take k++news.take m++rows.drop (k+m))→XD P n ops Q rest (St M (hs'++H0)) ⟨M,hs'++H0⟩ ((d,.int .i64 (m:Int))::e)) (hnw:n.wrs.contains i=false:=by rfl):XD P n ops Q (i::rest) J ⟨M,H⟩ e:=by
  subst hat hoff
  refine X_mut hi rfl hg (fun a w ha hw=>?_) hnw
  obtain ⟨it,hu,hit,rfl,rfl⟩:=Wv ht
  obtain ⟨hln,h1,ad,c2,rfl,hsr⟩:=hsrc
  obtain ⟨cur,rfl,rfl,hlr,hcap,hcm,hcs,htake⟩:=ho.inv
  have hst:=hw.perm hH.perm
  have hb:=hst.own b _ (List.mem_append_left _ (.head _))
  have hml:(news.take m).length=m:=by simp;omega
  have hmn:lens it.size (news.take m):=hln.take m
  have hcl:(Ye (news.take m)).length=m * it.size:=by rw [Xj hmn,hml]
  have hle:k * it.size+m * it.size≤rows.length * it.size:=by rw [← Nat.add_mul];exact Nat.mul_le_mul_right _ (by omega)
  have hrc:rows.length * it.size≤c * it.size:=Nat.mul_le_mul_right _ hcap
  have hone:∀ v∈Ye (news.take m),v.oneCell'=true:=fun v hv=>h1 v (by rw [rowsCells_take hln (by omega)] at hv;exact List.mem_of_mem_take hv)
  have hload:=run_loadCells_list (P:=P) w ad (Ye (news.take m)) (fun j v hj=>hsr w hw j v (by
    rw [rowsCells_take hln (by omega),List.getElem?_take] at hj
    split at hj
    · exact hj
    · cases hj))
  have hstore:=run_storeCells_at P b (k * it.size) E (Ye (news.take m)) 0 cur w hb (by omega) hone
  have ho':=rowSplice (T:=E) (b:=b) (k:=k) (news:=news.take m) hlr hmn hcap hcm hcs htake (by omega)
  rw [hml] at ho'
  rw [hcl] at hload
  have hr:(Builtin.copy_ #[t,t'] ty #[.slice (some ⟨b,k * it.size,Option.none⟩) l' c',.slice (some ad) news.length c2]).run P w=.ok (goInt m) (w.setRow b (cur.toList.take (k * it.size)++Ye (news.take m)++cur.toList.drop (k * it.size+(Ye (news.take m)).length)).toArray):=by
    have e9:Nat.min news.length l'=m:=hm.symm
    simp [Builtin.copy_,run_underlying hu,Builtin.lenOf,Builtin.firstCells,sizeOf,typeInfo,hit,e9,hload]
    have h5:=hstore
    simp only [Nat.add_zero,List.append_assoc] at h5
    rw [h5];rfl
  unfold Oper.does
  have:(execOp a.eval ⟨some d,.call ⟨.builtin .copy,#[x,y],#[t,t']⟩,ty,pos,af,gd⟩).run P w=.ok (.value (.int .i64 (m:Int))) (w.setRow b (cur.toList.take (k * it.size)++Ye (news.take m)++cur.toList.drop (k * it.size+(Ye (news.take m)).length)).toArray):=by
    simp only [execOp,resolve]
    simp only [invoke,builtin]
    have e1:#[x,y].map a.eval=#[.slice (some ⟨b,k * it.size,Option.none⟩) l' c',.slice (some ad) news.length c2]:=by simp [ha.ev hx,ha.ev hy]
    rw [e1]
    rw [Sem.run_bind]
    show (Result.ok _ w).andThen _=_
    rw [Result.andThen_ok]
    exact Wx hr
  rw [this]
  refine ⟨⟨M,_⟩,_,?_,ha.put hd _,hk _ ho'⟩
  exact hst.upd .head (setRow_heap w b cur _ E _ hb) (fun c hc x hx=>by rw [setRow_other w b c _ hc];exact hx) (Vo.refl _)
theorem OSl.valAt {T sz n:Nat} {v:Value} {hs:Hp} {rows:List Segs} (h:OSl T sz v hs rows) (hn:rows.length=n):∃ a c,v=.slice a n c:=by
  obtain ⟨a,c,h1⟩:=h.val
  exact ⟨a,c,by rw [h1,hn]⟩
theorem OSl.aZ {T sz l l' c:Nat} {a:Option Addr} {hs:Hp} {rows:List Segs} (h:OSl T sz (.slice a l c) hs rows) (hl:l'=rows.length):OSl T sz (.slice a l' c) hs rows:=by
  obtain ⟨_,_,e⟩:=h.caps
  rw [hl,← e];exact h
theorem OSl.srcAll {T sz b l c:Nat} {hs:Hp} {rows:List Segs} (h:OSl T sz (.slice (some ⟨b,0,Option.none⟩) l c) hs rows) (hH:Rem hs H H0) (h1:∀ u∈Ye rows,u.oneCell'=true):Src M H sz (.slice (some ⟨b,0,Option.none⟩) l c) rows:=by
  obtain ⟨_,_,e⟩:=h.caps
  subst e
  have:=OSl.src (M:=M) (k:=0) (c':=c) h hH h1
  simpa using this
theorem rep_one {N:Segs} (h:flat N):∀ (k:Nat),∀ u∈Ye (List.replicate k N),u.oneCell'=true
  | 0,u,hu=>by cases hu
  | k+1,u,hu=>by
    rcases List.mem_append.1 (show u∈Segs.cells N++Ye (List.replicate k N) from hu) with hu|hu
    · exact h u hu
    · exact rep_one h k u hu
theorem rep_first {N Z:Segs} {n:Nat} (h:1≤n):(List.replicate n Z).take 0++[N].take (min [N].length n)++(List.replicate n Z).drop (0+min [N].length n)=List.replicate 1 N++List.replicate (n-1) Z:=by
  have e:min [N].length n=1:=by simp;omega
  rw [e];simp
theorem rep_take {N Z:Segs} {n k:Nat}:(List.replicate k N++List.replicate (n-k) Z).take k=List.replicate k N:=by
  rw [List.take_append_of_le_length (by simp)];simp
theorem rep_next {N Z:Segs} {n k m:Nat} (hk:k≤n) (hm:m≤k) (hmn:m≤n-k):(List.replicate k N++List.replicate (n-k) Z).take k++(List.replicate k N).take m++(List.replicate k N++List.replicate (n-k) Z).drop (k+m)=List.replicate (k+m) N++List.replicate (n-(k+m)) Z:=by
  rw [rep_take,List.take_replicate,Nat.min_eq_left hm,List.drop_append,List.drop_of_length_le (by simp),List.nil_append,List.drop_replicate,List.replicate_append_replicate]
  simp only [List.length_replicate]
  congr 2
  omega
theorem flat_all {r:Segs} (h:flat r):(aggV r).cells.all (fun u=>u.oneCell')=true:=by
  rw [Array.all_eq_true_iff_forall_mem]
  intro u hu
  exact h u (by simpa [aggV,Value.cells] using hu)
theorem OSl.someB {T sz l c:Nat} {a:Option Addr} {hs:Hp} {rows:List Segs} (h:OSl T sz (.slice a l c) hs rows) (hl:0<l):∃ b,a=some ⟨b,0,Option.none⟩:=by
  generalize hv:Value.slice a l c=v at h
  cases h with
  | nil=>cases hv;cases hl
  | own b c' _ cur g1 g2 g3 g4 g5=>cases hv;exact ⟨b,rfl⟩
theorem X_fhR2 {f:FuncId} {xs:List Operand} {ats:Array TypeId} {vs:List Value} {Hin Hin2 H1 Hr:Hp} {R:Mem→Value→Hp→Prop} {MJ:Mem} {HJ:Hp} (hi:ops[i]?=some ⟨dst,.call ⟨.value (.func f),xs.toArray,ats⟩,ty,pos,af,gd⟩) (hg:want ops e gd=some true)
    (hf:okFn P f=true) (hx:evs e xs=some vs) (hc:Fh P f vs M (Hin++Hin2) R) (hH:Rem Hin H H1) (hH2:Rem Hin2 H1 Hr) (hJ:∀ v M' Hout w,M.le M'→R M' v Hout→St M' (Hout++Hr) w→St MJ HJ w)
    (hd:∀ a v,Sat n e a→Sat n (putE dst v e) (a.put dst v))
    (hk:∀ v M' Hout,M.le M'→R M' v Hout→XD P n ops Q rest (St MJ HJ) ⟨M',Hout++Hr⟩ (putE dst v e)):XD P n ops Q (i::rest) (St MJ HJ) ⟨M,H⟩ e:=by
  obtain ⟨fn,h1,h2,h3⟩:=Va hf
  have hP:H.Perm ((Hin++Hin2)++Hr):=(hH.perm.trans (hH2.perm.append_left Hin)).trans (List.append_assoc _ _ _ ▸ List.Perm.refl _)
  refine X_effJ hi rfl hg (fun _ a F w ha hw=>does_call h1 h2 h3 (by simpa using ha.evs hx) ?_)
  exact (hc (F++Hr) w (hw.perm0 ((hP.append_left F).trans (VX F (Hin++Hin2) Hr)))).mono fun e' w' ⟨v,M',Hout,he,hm,hs,hr⟩=>⟨v,he,⟨M',Hout++Hr⟩,_,hs.perm0 (VX F Hout Hr).symm,fun u hu=>hJ v M' Hout u hm hr hu,hd a v ha,hk v M' Hout hm hr⟩
end
end Go.Esp
namespace Go.Proofs.YtajmnjefajknoaaGreat
open Go.Esp
theorem F.bld28:Bld Tryz.prog 28 [[.one (.int .i64 0),Yq 0],[.one (.int .i64 0),Yq 0],[.one (.slice none 0 0)],[.one (.slice none 0 0)]]:=by rw [VI];exact ⟨by kernel_rfl,by kernel_rfl⟩
theorem F.ok142:okFn Tryz.prog 142=true:=by kernel_rfl
theorem F.ok152:okFn Tryz.prog 152=true:=by kernel_rfl
theorem F.zero28:Wa Tryz.prog 28=some (aggV [.one (.int .i64 0),Yq 0,.one (.int .i64 0),Yq 0,.one (.slice none 0 0),.one (.slice none 0 0)]):=by rw [VI];kernel_rfl
theorem CloneP_nil (M:Mem) (c:Nat) (l:List ZD) (k:SlK M ZD.segs 21 ⟨none,c,l⟩) (hb:l.length≤1000000):Fh Tryz.prog 106 [.slice none l.length c] M [] (fun M' v Hout=>M'=M∧OSl 25 21 v Hout (l.map ZD.segs)):=by
  have hl0:l=[]:=SlM.none_nil k.h1
  subst hl0
  have hl0:([]:List ZD).map ZD.segs=[]:=rfl
  refine fh_enter Tryz.func106 rfl Tryz.ntmps106 rfl ?_;intro H
  refine ZI (Zm (l:=[0]) rfl ?_);refine ZB ?_;refine Zo (Zn ?_)
  iterate 2 refine ZI ?_
  refine Zm (l:=[0,1]) rfl ?_;refine Zv ?_;refine Y_nil Tryz.underlying26 ?_;refine Zo (Zn (Y_pk [4,2,0] ?_))
  refine Yx rfl (fun hc1=>?_) (fun hc1=>?_)
  ·skip
   refine ZI (Zm (l:=[0]) rfl ?_);refine ZB ?_;refine Zo (Zn (Y_pk [2,0] ?_));refine Yg (YG ?_)
   refine Ya (.inr rfl) (.tmp rfl .nil) (fun w hw=>?_)
   exact ⟨_,M,[],rfl,Mem.le.refl M,hw.c,rfl,by rw [hl0];exact OSl.nil⟩
  ·skip
   (exfalso;simp [eqX] at hc1;done)
theorem CloneP_some (M:Mem) (ad:Addr) (c:Nat) (l:List ZD) (k:SlK M ZD.segs 21 ⟨some ad,c,l⟩) (hb:l.length≤1000000):Fh Tryz.prog 106 [.slice (some ad) l.length c] M [] (fun M' v Hout=>M'=M∧OSl 25 21 v Hout (l.map ZD.segs)):=by
  have hml:l.length=(l.map ZD.segs).length:=(List.length_map ..).symm
  refine fh_enter Tryz.func106 rfl Tryz.ntmps106 rfl ?_;intro H
  refine ZI (Zm (l:=[0]) rfl ?_);refine ZB ?_;refine Zo (Zn ?_)
  iterate 2 refine ZI ?_
  refine Zm (l:=[0,1]) rfl ?_;refine Zv ?_;refine Y_nil Tryz.underlying26 ?_;refine Zo (Zn (Y_pk [4,2,0] ?_))
  refine Yx rfl (fun hc1=>?_) (fun hc1=>?_)
  ·skip
   (exfalso;simp [eqX] at hc1;done)
  ·skip
   refine Yv (Zn (Y_pk [2,0] ?_));refine ZI (Zm (l:=[0,1,2,3]) rfl ?_)
   refine XB rfl rfl F.elem26 F.zero25 rfl rfl (.nil) rfl rfl (by simp only [List.map_cons,List.map_nil] <;> rfl) rfl ?_;intro b2 hob3
   refine Zv ?_
   refine Vm (m:=1000000) rfl rfl rfl rfl rfl F.elem26 F.zero25 (by exact Ve rfl) rfl (by assumption) (by repeat first|exact Rem.here _|exact Rem.two|apply Rem.skip|apply Rem.over) (SlM.src k.h1 (rows_one ZD.flat _) hml) (by (simp;omega)) (by decide) rfl ?_;intro v6 hs5 ho4;obtain ⟨adv6,cpv6,rfl⟩:=ho4.val
   refine ZB ?_;refine Zo (Zn (Y_pk [2] ?_));refine Yg ?_
   refine Ya (.inr rfl) (.tmp rfl .nil) (fun w hw=>?_)
   exact ⟨_,M,_,rfl,Mem.le.refl M,hw.c,rfl,by assumption⟩
theorem CloneP_ok (M:Mem) (a:Option Addr) (c:Nat) (l:List ZD) (k:SlK M ZD.segs 21 ⟨a,c,l⟩) (hb:l.length≤1000000):Fh Tryz.prog 106 [.slice a l.length c] M [] (fun M' v Hout=>M'=M∧OSl 25 21 v Hout (l.map ZD.segs)):=by
  cases a with
  |none=>exact CloneP_nil M c l k hb
  |some ad=>exact CloneP_some M ad c l k hb
theorem Mul64_ok (M:Mem):Fs Tryz.prog 152 [.int .u64 1,.int .u64 160] M (fun v=>v=.tuple #[.int .u64 0,.int .u64 160]):=by
  refine Xm Tryz.func152 rfl Tryz.ntmps152 rfl ?_;intro H
  refine ZI (Zm (l:=[0,1]) rfl ?_)
  iterate 2 refine ZB ?_
  refine Zo (Zn (ZI (Zm (l:=[0,1,2]) rfl ?_)));refine Zv ?_;refine X_bits rfl rfl rfl rfl rfl rfl rfl ?_;refine ZB ?_;refine Zo (Zn (Y_pk [6,5,4,0,1] ?_));refine ZI (Zm (l:=[0,1,2]) rfl ?_);refine Zv ?_;refine X_shift rfl rfl rfl rfl (by decide) (shr_lit 32 (by decide)) rfl rfl ?_;refine ZB ?_;refine Zo (Zn (Y_pk [7,6,5,4,0,1] ?_));refine ZI (Zm (l:=[0,1,2]) rfl ?_);refine Zv ?_;refine X_bits rfl rfl rfl rfl rfl rfl rfl ?_;refine ZB ?_;refine Zo (Zn (Y_pk [8,7,6,5,4,0,1] ?_));refine ZI (Zm (l:=[0,1,2]) rfl ?_);refine Zv ?_;refine X_shift rfl rfl rfl rfl (by decide) (shr_lit 32 (by decide)) rfl rfl ?_;refine ZB ?_;refine Zo ?_
  refine Zn (Y_pk [9,8,7,6,5,4,0,1] ?_);refine ZI (Zm (l:=[0,1,2,3]) rfl ?_)
  iterate 2 refine Zv ?_
  refine XN rfl rfl rfl rfl rfl (by exact wrap_u64 _) rfl ?_;refine ZB ?_;refine Zo (Zn (Y_pk [10,9,8,7,6,5,4,0,1] ?_));refine ZI (Zm (l:=[0,1,2,3,4,5,6]) rfl ?_)
  iterate 2 refine Zv ?_
  refine XN rfl rfl rfl rfl rfl (by exact wrap_u64_in (by decide) (by omega)) rfl ?_;refine Zv ?_;refine X_shift rfl rfl rfl rfl (by decide) (shr_lit 32 (by decide)) rfl rfl ?_;refine XN rfl rfl rfl rfl rfl (by exact wrap_u64 _) rfl ?_;refine ZB ?_;refine Zo (Zn (Y_pk [11,9,7,6,5,4,0,1] ?_));refine ZI (Zm (l:=[0,1,2]) rfl ?_);refine Zv ?_;refine X_bits rfl rfl rfl rfl rfl rfl rfl ?_;refine ZB ?_;refine Zo (Zn (Y_pk [12,11,9,7,6,5,4,0,1] ?_));refine ZI (Zm (l:=[0,1,2]) rfl ?_);refine Zv ?_;refine X_shift rfl rfl rfl rfl (by decide) (shr_lit 32 (by decide)) rfl rfl ?_;refine ZB ?_;refine Zo (Zn (Y_pk [13,12,9,7,6,5,4,0,1] ?_));refine ZI (Zm (l:=[0,1,2,3,4,5]) rfl ?_)
  iterate 3 refine Zv ?_
  refine XN rfl rfl rfl rfl rfl (by exact wrap_u64_in (by decide) (by omega)) rfl ?_;refine XN rfl rfl rfl rfl rfl (by exact wrap_u64 _) rfl ?_;refine ZB ?_;refine Zo (Zn (Y_pk [12,13,9,7,5,4,0,1] ?_));refine ZI (Zm (l:=[0,1,2,3,4,5,6,7,8]) rfl ?_)
  iterate 2 refine Zv ?_
  refine XN rfl rfl rfl rfl rfl (by exact wrap_u64_in (by decide) (by omega)) rfl ?_;refine Zv ?_;refine XN rfl rfl rfl rfl rfl (by exact wrap_u64 _) rfl ?_;refine Zv ?_;refine X_shift rfl rfl rfl rfl (by decide) (shr_lit 32 (by decide)) rfl rfl ?_;refine XN rfl rfl rfl rfl rfl (by exact wrap_u64 _) rfl ?_;refine ZB ?_;refine Zo (Zn (Y_pk [4,5,0,1] ?_));refine ZI (Zm (l:=[0,1,2,3]) rfl ?_)
  iterate 2 refine Zv ?_
  refine XN rfl rfl rfl rfl rfl (by exact wrap_u64_in (by decide) (by omega)) rfl ?_;refine ZB ?_;refine Zo (Zn (Y_pk [5,4] ?_));refine Yg ?_
  refine Ya (.inr rfl) (.tmp rfl (.tmp rfl .nil)) (fun w hw=>?_)
  refine ⟨_,rfl,hw.c,?_⟩
  rfl
theorem Mul_ok (M:Mem):Fs Tryz.prog 142 [.int .u64 1,.int .u64 160] M (fun v=>v=.tuple #[.int .u64 0,.int .u64 160]):=by
  refine Xm Tryz.func142 rfl Tryz.ntmps142 rfl ?_;intro H
  refine ZI (Zm (l:=[0,1]) rfl ?_)
  iterate 2 refine ZB ?_
  refine Zo (Zn (ZI (Ws rfl ?_)));refine Yv (Zn (ZI (Zm (l:=[0,1,2,3,4,5,6,7]) rfl ?_)))
  iterate 2 refine Zv ?_
  refine X_fs rfl rfl F.ok152 rfl (Mul64_ok M) rfl ?_
  rintro _ rfl
  refine Zv ?_
  iterate 2 refine Xz ?_
  iterate 2 refine ZB ?_
  refine Zo (Zn (Y_pk [9,8,5,4] ?_));refine ZI (Zm (l:=[0,1,2,3]) rfl ?_)
  iterate 2 refine Zv ?_
  iterate 2 refine ZB ?_
  refine Zo (Zn (Y_pk [5,4] ?_));refine Yg ?_
  refine Ya (.inr rfl) (.tmp rfl (.tmp rfl .nil)) (fun w hw=>?_)
  refine ⟨_,rfl,hw.c,?_⟩
  rfl
theorem Repeat_ok (M:Mem) (b:Nat) (hs1:Hp) (ho1:OSl 25 21 (.slice (some ⟨b,0,none⟩) 1 1) hs1 [YW.segs]):Fh Tryz.prog 116 [.slice (some ⟨b,0,none⟩) 1 1,.int .i64 160] M hs1 (fun M' v Hout=>M'=M∧OSl 25 21 v Hout (List.replicate 160 YW.segs)):=by
  refine fh_enter Tryz.func116 rfl Tryz.ntmps116 rfl ?_;intro H
  refine ZI (Zm (l:=[0]) rfl ?_);refine ZB ?_;refine Zo (Zn ?_)
  iterate 2 refine ZI ?_
  refine Zm (l:=[0,1]) rfl ?_;refine Zv ?_;refine Yz ?_;refine Zo (Zn (Y_pk [10,4,0,1] ?_))
  refine Yx rfl (fun hc1=>?_) (fun hc1=>?_)
  ·replace hc1:=dT hc1
   (exfalso;omega)
  ·replace hc1:=dF hc1
   refine Yv (Zn (Y_pk [4,0,1] ?_));refine ZI (Zm (l:=[0,1,2,3,4,5,6,7,8,9,10]) rfl ?_);refine Zv ?_;refine YX F.elem26 ?_;refine X_conv rfl rfl rfl Tryz.underlying3 Tryz.underlying129 (by exact wrap_u64_in (by decide) (by omega)) rfl ?_;refine Zv ?_;refine X_conv rfl rfl rfl Tryz.underlying3 Tryz.underlying129 (by exact wrap_u64_in (by decide) (by omega)) rfl ?_;refine X_fs rfl rfl F.ok142 rfl (Mul_ok M) rfl ?_
   rintro _ rfl
   refine Zv ?_
   iterate 2 refine Xz ?_
   iterate 2 refine ZB ?_
   refine Zo (Zn (Y_pk [6,5,4,0] ?_))
   iterate 2 refine ZI ?_
   refine Zm (l:=[0,1,2,3,4,5]) rfl ?_;refine Zv ?_;refine Yz ?_;refine Zv ?_
   refine Yh 23 rfl (fun hc2=>?_) (fun hc2=>?_)
   ·replace hc2:=dT hc2
    (exfalso;omega)
   ·replace hc2:=dF hc2
    refine Zv ?_;refine Yz ?_;refine ZK ?_;refine Zo (Zn (Y_pk [26,6,4,0] ?_))
    refine Yx rfl (fun hc3=>?_) (fun hc3=>?_)
    ·replace hc3:=dT hc3
     (exfalso;omega)
    ·replace hc3:=dF hc3
     refine Yv (Zn (Y_pk [6,4,0] ?_));refine ZI (Zm (l:=[0,1,2,3]) rfl ?_);refine Zv ?_;refine X_conv rfl rfl rfl Tryz.underlying129 Tryz.underlying3 (by exact Xn (by decide) (by omega)) rfl ?_
     refine X_makeSliceO (k:=160) (zr:=ZD.zero.segs) rfl rfl rfl rfl F.elem26 F.zero25 rfl (Ve rfl) rfl (by decide) (by decide) rfl ?_;intro b2 hs2 ho2
     refine ZB ?_;refine Zo (Zn (Y_pk [7,4,0] ?_));refine ZI (Zm (l:=[0,1,2,3]) rfl ?_)
     iterate 2 refine Zv ?_
     refine X_copyO (k:=0) (b:=b2) rfl rfl rfl rfl rfl F.elem26 rfl (by simp) ho2 (by repeat first|exact Rem.here _|exact Rem.two|apply Rem.skip|apply Rem.over) (OSl.srcAll ho1 (by repeat first|exact Rem.here _|exact Rem.two|apply Rem.skip|apply Rem.over) (rep_one (ZD.flat _) 1)) rfl rfl ?_;intro hs3 ho3;rw [rep_first (by decide)] at ho3;replace ho3:OSl 25 21 (.slice (some ⟨b2,0,none⟩) 160 160) hs3 (List.replicate 1 YW.segs++List.replicate (160-1) ZD.zero.segs):=(by simpa using ho3)
     refine ZB ?_;refine Zo (Zn (Y_pk [8,7,4] ?_));refine ZI (Xd (Y_pk [8,7,4] ?_));refine VH (Hin:=hs3) (.succ .zero) (by repeat first|exact Rem.here _|exact Rem.two|apply Rem.skip|apply Rem.over) (fun (k:Nat) M1 h1 z=>M1=M∧z=[(8,.int .i64 (k:Int))]∧1≤k∧k≤160∧OSl 25 21 (.slice (some ⟨b2,0,none⟩) 160 160) h1 (List.replicate k YW.segs++List.replicate (160-k) ZD.zero.segs)) (fun k=>160-k) (1) (⟨rfl,rfl,by omega,by omega,ho3⟩) ?_
     rintro k M1 h1 z hm1 ⟨hM1,rfl,hk1,hk,ho⟩
     subst hM1
     iterate 2 refine ZI ?_
     refine Zm (l:=[0,1,2,3]) rfl ?_
     iterate 2 refine Zv ?_
     refine YX F.elem26 ?_;refine Yz ?_;refine Zo (Zn ?_)
     refine Yx rfl (fun hc4=>?_) (fun hc4=>?_)
     ·replace hc4:=dT hc4
      refine Yv (Zn (Xd (Yy (l:=[0,1,2,3,4,5,6,7,8,9]) #[0,0,0,6,0,0,48,126,255,511] _ rfl (by kernel_rfl) (by kernel_rfl) St.drawn (fun _ h=>h) ?_)))
      iterate 3 refine Zv ?_
      refine WG rfl rfl rfl (.some (k:=k) rfl rfl) .none .none F.elem26 (by simp) (by simp only [Option.getD_none,Option.getD_some];omega) (by simp only [Option.getD_none,Option.getD_some];omega) (by simp) (show WP (some ⟨b2,0,none⟩) 21 k 160 160=.slice (some ⟨b2,0+k * 21,none⟩) (160-k) (160-k) from pieceV_in (by omega)) rfl ?_
      iterate 2 refine Zv ?_
      refine WG rfl rfl rfl .none (.some (k:=k) rfl rfl) .none F.elem26 (by simp) (by simp only [Option.getD_none,Option.getD_some];omega) (by simp only [Option.getD_none,Option.getD_some];omega) (by simp) (show WP (some ⟨b2,0,none⟩) 21 0 k 160=.slice (some ⟨b2,0,none⟩) k 160 from pieceV_zero) rfl ?_
      have hcut:OSl 25 21 (.slice (some ⟨b2,0,none⟩) k 160) h1 (List.replicate k YW.segs):=(by have h9:=OSl.cut (k:=k) (rows:=(List.replicate k YW.segs++List.replicate (160-k) ZD.zero.segs)) (ho.aZ rfl) (by simp);rw [rep_take] at h9;exact h9)
      refine X_copyO (k:=k) (b:=b2) (m:=min k (160-k)) rfl rfl rfl rfl rfl F.elem26 (by omega) (by simp) ho (by repeat first|exact Rem.here _|exact Rem.two|apply Rem.skip|apply Rem.over) (OSl.srcAll hcut (by repeat first|exact Rem.here _|exact Rem.two|apply Rem.skip|apply Rem.over) (rep_one (ZD.flat _) k)) (by simp) rfl ?_;intro hs5 ho5;rw [rep_next (by omega) (by omega) (by omega)] at ho5;replace ho5:OSl 25 21 (.slice (some ⟨b2,0,none⟩) 160 160) hs5 (List.replicate (k+min k (160-k)) YW.segs++List.replicate (160-(k+min k (160-k))) ZD.zero.segs):=ho5.aZ (by simp;omega)
      refine XN rfl rfl rfl rfl rfl (by exact Xn (by decide) (by omega)) rfl ?_;refine ZB ?_;refine Zo (XV ?_);refine Wq (a':=[(8,_)]) (k+min k (160-k)) (hs5) (.cons (k:=8) rfl (.cons (k:=7) rfl (.cons (k:=4) rfl (.nil)))) (by exact Mem.le.refl _) (fun w hw=>by first|exact hw|exact hw.c) ?_ ?_
      ·exact ⟨rfl,congrArg (fun v=>[(8,Value.int .i64 v)]) (by simp),by omega,by omega,ho5⟩
      ·omega
     ·replace hc4:=dF hc4
      refine XS ?_
      iterate 2 refine XM ?_
      refine Wl (Zn (Y_pk [7,4] ?_));refine ZI (Zm (l:=[0,1]) rfl ?_);refine Zv ?_;refine ZB ?_;refine Zo (Zn (Y_pk [4] ?_));refine Yg ?_
      refine Ya (.inr rfl) (.tmp rfl .nil) (fun w hw=>?_)
      obtain rfl:k=160:=by omega
      rw [Nat.sub_self,List.replicate_zero,List.append_nil] at ho
      exact ⟨_,M1,h1,rfl,Mem.le.refl _,hw.c,rfl,ho⟩
end Go.Proofs.YtajmnjefajknoaaGreat
namespace Go.Proofs.YtajmnjefajknoaaGreat
open Go.Esp
theorem F.ok116:okFn Tryz.prog 116=true:=by kernel_rfl
theorem New_ok (M:Mem) (self:ZD):Esp.Fn Tryz.prog 63 [self.enc] M (fun M' v=>TabE M' v (newT self)):=by
  obtain ⟨self_addr,self_id⟩:=self
  refine Wu Tryz.func63 rfl Tryz.ntmps63 rfl ?_;intro H
  refine ZI (Zm (l:=[0,1,2]) rfl ?_)
  refine Xk ?_;intro b1
  refine YT F.zero28 ?_;intro b2
  refine ZB ?_;refine Zo (Zn (Y_pk [3,2,1] ?_))
  iterate 2 refine ZI ?_
  refine Zm (l:=[0,1,2,3]) rfl ?_;refine Zk F.foff25_0 ?_;refine ZH F.lay3 ?_;refine X_fs rfl rfl F.ok115 rfl (is_ok _ _) rfl ?_
  rintro _ rfl
  refine Xx ?_;refine Zo (Zn (Y_pk [7,3,2,1] ?_))
  refine Yx rfl (fun hc3=>?_) (fun hc3=>?_)
  ·replace hc3:=nT hc3
   refine ZI (Zm (l:=[0,1,2]) rfl ?_);refine Xg rfl rfl F.bld28 (.nil) rfl rfl ?_;refine Yi F.lay28 ?_;refine ZB ?_;refine Zo (Zn (Y_pk [3,2,1] ?_));refine Yg (YG ?_)
   refine Ya (.inr rfl) (.cell rfl (by repeat first|exact List.Mem.head _|refine List.Mem.tail _ ?_|refine List.mem_append_right _ ?_) F.lay28 rfl rfl (.tmp rfl .nil)) (fun w hw=>?_)
   refine ⟨_,M,rfl,Mem.le.refl M,hw.c,?_⟩
   rw [show newT ⟨self_addr,self_id⟩=(Tb.zero,1) from if_neg (by assumption)]
   exact ⟨_,rfl,WK⟩
  ·replace hc3:=nF hc3
   refine Yv (Zn (Y_pk [3,2,1] ?_));refine ZI (Yy (l:=[0,1,2,3,4,5,6,7]) #[0,0,2,6,14,31,63,127] _ rfl (by kernel_rfl) (by kernel_rfl) St.drawn (fun _ h=>h) ?_);refine ZH F.lay25 ?_;refine X_fs rfl rfl F.ok66 rfl (WO _) rfl ?_
   rintro _ rfl
   refine WV 10 rfl (show _=aggV [.one (.int .i64 (-1)),Yq 0] from rfl) ?_;refine X_fs rfl rfl F.ok66 rfl (WO _) rfl ?_
   rintro _ rfl
   refine WV 11 rfl (show _=aggV [.one (.int .i64 (-1)),Yq 0] from rfl) ?_
   refine XB rfl rfl F.elem26 F.zero25 rfl rfl (.cons rfl (by constructor) .nil) rfl rfl (by simp only [List.map_cons,List.map_nil] <;> rfl) rfl ?_;intro b4 hob5
   refine VU rfl rfl F.ok116 rfl (Repeat_ok M _ _ hob5) (by repeat first|exact Rem.here _|exact Rem.two|apply Rem.skip|apply Rem.over) (fun _ _ _ hm hw=>(hw.lower (by exact hm)).c) (YA rfl) ?_
   rintro v9 M1 hs9 hm1 ⟨hM1,ho9⟩;subst M1
   obtain ⟨ad9,cp9,rfl⟩:=ho9.val
   refine Xg rfl rfl F.bld28 (.cons rfl (by constructor) (.cons rfl (by constructor) (.cons rfl (by constructor) .nil))) rfl rfl ?_;refine Yi F.lay28 ?_;refine ZB ?_;refine Zo (Zn (Y_pk [3,2] ?_));refine Yg ?_
   refine Ya (.inr rfl) (.cell rfl (by repeat first|exact List.Mem.head _|refine List.Mem.tail _ ?_|refine List.mem_append_right _ ?_) F.lay28 rfl rfl (.tmp rfl .nil)) (fun w hw=>?_)
   obtain ⟨M9,s1,g1,g2,g3,g4,g5⟩:=OSl.freezeK (f:=ZD.segs) (H:=H) (l:=List.replicate 160 YW) (by rw [List.map_replicate];exact ho9) (hw.c)
   refine ⟨_,M9,rfl,g1,g2,?_⟩
   rw [show newT ⟨self_addr,self_id⟩=(⟨⟨self_addr,self_id⟩,YW,[],List.replicate 160 YW⟩,0) from if_pos (by assumption)]
   exact ⟨_,rfl,WA (s1:=⟨none,0,[]⟩) rfl g3 SlK.nil g5 (by rw [g4];rfl)⟩
theorem rNew_ok (M:Mem) (self:ZD):Esp.Fn Tryz.prog 64 [self.enc] M (fun M' v=>TabE M' v (newT self)):=by
  obtain ⟨self_addr,self_id⟩:=self
  refine Wu Tryz.func64 rfl Tryz.ntmps64 rfl ?_;intro H
  refine ZI (Zm (l:=[0,1,2]) rfl ?_)
  refine Xk ?_;intro b1
  refine YT F.zero28 ?_;intro b2
  refine ZB ?_;refine Zo (Zn (Y_pk [3,2,1] ?_))
  iterate 2 refine ZI ?_
  refine Zm (l:=[0,1,2,3,4,5,6,7]) rfl ?_;refine Zk F.foff25_0 ?_;refine ZH F.lay3 ?_;refine Yz ?_;refine Zv ?_
  refine Yh 9 rfl (fun hc3=>?_) (fun hc3=>?_)
  ·replace hc3:=dT hc3
   iterate 3 refine ZU ?_
   refine ZK ?_;refine Zo (Zn (Y_pk [13,3,2,1] ?_));refine Xe rfl ?_;refine ZI (Zm (l:=[0,1,2]) rfl ?_);refine Xg rfl rfl F.bld28 (.nil) rfl rfl ?_;refine Yi F.lay28 ?_;refine ZB ?_;refine Zo (Zn (Y_pk [3,2,1] ?_));refine Yg (YG ?_)
   refine Ya (.inr rfl) (.cell rfl (by repeat first|exact List.Mem.head _|refine List.Mem.tail _ ?_|refine List.mem_append_right _ ?_) F.lay28 rfl rfl (.tmp rfl .nil)) (fun w hw=>?_)
   refine ⟨_,M,rfl,Mem.le.refl M,hw.c,?_⟩
   rw [show newT ⟨self_addr,self_id⟩=(Tb.zero,1) from if_neg (by (unfold YH;simp only;omega))]
   exact ⟨_,rfl,WK⟩
  ·replace hc3:=dF hc3
   refine Zk F.foff25_0 ?_;refine ZH F.lay3 ?_;refine Yz ?_;refine ZK ?_;refine Zo (Zn (Y_pk [13,3,2,1] ?_))
   refine Yx rfl (fun hc4=>?_) (fun hc4=>?_)
   ·replace hc4:=dT hc4
    refine ZI (Zm (l:=[0,1,2]) rfl ?_);refine Xg rfl rfl F.bld28 (.nil) rfl rfl ?_;refine Yi F.lay28 ?_;refine ZB ?_;refine Zo (Zn (Y_pk [3,2,1] ?_));refine Yg (YG ?_)
    refine Ya (.inr rfl) (.cell rfl (by repeat first|exact List.Mem.head _|refine List.Mem.tail _ ?_|refine List.mem_append_right _ ?_) F.lay28 rfl rfl (.tmp rfl .nil)) (fun w hw=>?_)
    refine ⟨_,M,rfl,Mem.le.refl M,hw.c,?_⟩
    rw [show newT ⟨self_addr,self_id⟩=(Tb.zero,1) from if_neg (by (unfold YH;simp only;omega))]
    exact ⟨_,rfl,WK⟩
   ·replace hc4:=dF hc4
    refine Yv (Zn (Y_pk [3,2,1] ?_));refine ZI (Yy (l:=[0,1,2,3,4]) #[0,0,3,0,15] _ rfl (by kernel_rfl) (by kernel_rfl) St.drawn (fun _ h=>h) ?_);refine ZH F.lay25 ?_;refine X_fs rfl rfl F.ok67 rfl (rNone_ok _) rfl ?_
    rintro _ rfl
    refine WV 16 rfl (show _=aggV [.one (.int .i64 (-1)),Yq 0] from rfl) ?_;refine Xg rfl rfl F.bld28 (.cons rfl (by constructor) (.cons rfl (by constructor) .nil)) rfl rfl ?_
    refine YT F.zero28 ?_;intro b5
    refine Yi F.lay28 ?_;refine Zo (Zn (Y_pk [4,3,2] ?_))
    iterate 2 refine ZI ?_
    refine Zm (l:=[0]) rfl ?_;refine ZB ?_;refine Zo (Zn (Xd (Y_pk [5,4,3,2] ?_)));refine VH (Hin:=[(b5,rowO [.one (.int .i64 self_addr),Yq self_id,.one (.int .i64 (-1)),Yq 0,.one (.slice none 0 0),.one (.slice none 0 0)] 28)]) (.succ .zero) (by repeat first|exact Rem.here _|exact Rem.two|apply Rem.skip|apply Rem.over) (fun (k:Nat) M1 h1 z=>∃ v hs,M1=M∧z=[(5,.int .i64 (k:Int))]∧k≤160∧h1=(b5,rowO [.one (.int .i64 self_addr),Yq self_id,.one (.int .i64 (-1)),Yq 0,.one (.slice none 0 0),.one v] 28)::hs∧OSl 25 21 v hs (List.replicate k YW.segs)) (fun k=>160-k) (0) (⟨_,[],rfl,rfl,by omega,rfl,OSl.nil⟩) ?_
    rintro k M1 h1 z hm1 ⟨v0,hs0,hM1,rfl,hk,rfl,ho⟩
    subst hM1
    obtain ⟨ad0,cp0,rfl⟩:=ho.val
    iterate 2 refine ZI ?_
    refine Zm (l:=[0,1]) rfl ?_;refine Zv ?_;refine Yz ?_;refine Zo (Zn ?_)
    refine Yx rfl (fun hc6=>?_) (fun hc6=>?_)
    ·replace hc6:=dT hc6
     refine Yv (Zn (ZI (Xd (Yy (l:=[0,1,2,3,4,5,6]) #[0,1,0,4,15,31,63] _ rfl (by kernel_rfl) (by kernel_rfl) St.drawn (fun _ h=>h) ?_))));refine Zk F.foff28_3 ?_;refine ZH F.lay26 ?_;refine X_fs rfl rfl F.ok67 rfl (rNone_ok _) rfl ?_
     rintro _ rfl
     refine WV 24 rfl (show _=aggV [.one (.int .i64 (-1)),Yq 0] from rfl) ?_
     refine XB rfl rfl F.elem26 F.zero25 rfl rfl (.cons rfl (by constructor) .nil) rfl rfl (by simp only [List.map_cons,List.map_nil] <;> rfl) rfl ?_;intro b7 hob8
     refine Vm (m:=1000000) rfl rfl rfl rfl rfl F.elem26 F.zero25 (by exact Ve rfl) rfl (by assumption) (by repeat first|exact Rem.here _|exact Rem.two|apply Rem.skip|apply Rem.over) (Src.own hob8.lens (by (refine rows_one1 ?_;(repeat (first|exact XA|refine XC ?_|(refine YF ?_ ?_;rfl)));done)) rfl (by repeat first|exact List.Mem.head _|refine List.Mem.tail _ ?_|refine List.mem_append_right _ ?_)) (by (simp;omega)) (by decide) rfl ?_;intro v11 hs10 ho9;obtain ⟨adv11,cpv11,rfl⟩:=ho9.val
     refine Zk F.foff28_3 ?_;refine Yi F.lay26 ?_;refine Zo (XV (Zn (Zm (l:=[0,1,2]) rfl ?_)));refine Zv ?_;refine XN rfl rfl rfl rfl rfl (by exact Xn (by decide) (by omega)) rfl ?_;refine ZB ?_;refine Zo ?_;refine Wq (a':=[(5,_)]) (k+1) ((b5,rowO [.one (.int .i64 self_addr),Yq self_id,.one (.int .i64 (-1)),Yq 0,.one (.slice none 0 0),.one (.slice adv11 (List.replicate k YW.segs++[[.one (.int .i64 (-1)),Yq 0]]).length cpv11)] 28)::hs10) (.cons (k:=5) rfl (.cons (k:=4) rfl (.cons (k:=3) rfl (.cons (k:=2) rfl (.nil))))) (by exact Mem.le.refl _) (fun w hw=>by first|exact hw|exact hw.c) ?_ ?_
     ·exact ⟨_,_,rfl,rfl,by omega,rfl,by rw [List.replicate_succ'];exact ho9⟩
     ·omega
    ·replace hc6:=dF hc6
     refine XS ?_
     iterate 2 refine XM ?_
     refine Wl (Zn (Y_pk [4,3,2] ?_));refine ZI (Zm (l:=[0,1,2]) rfl ?_);refine ZH F.lay28 ?_;refine Yi F.lay28 ?_;refine ZB ?_;refine Zo (Zn (Y_pk [3,2] ?_));refine Yg ?_
     refine Ya (.inr rfl) (.cell rfl (by repeat first|exact List.Mem.head _|refine List.Mem.tail _ ?_|refine List.mem_append_right _ ?_) F.lay28 rfl rfl (.tmp rfl .nil)) (fun w hw=>?_)
     obtain rfl:k=160:=by omega
     obtain ⟨M9,s1,g1,g2,g3,g4,g5⟩:=OSl.freezeK (f:=ZD.segs) (H:=H) (l:=List.replicate 160 YW) (by rw [List.map_replicate];exact ho) (hw.c)
     refine ⟨_,M9,rfl,g1,g2,?_⟩
     rw [show newT ⟨self_addr,self_id⟩=(⟨⟨self_addr,self_id⟩,YW,[],List.replicate 160 YW⟩,0) from if_pos (by (unfold YH;simp only;omega))]
     exact ⟨_,rfl,WA (s1:=⟨none,0,[]⟩) rfl g3 SlK.nil g5 (by rw [g4];rfl)⟩
end Go.Proofs.YtajmnjefajknoaaGreat
namespace Go.Proofs.YtajmnjefajknoaaGreat
open Go.Esp
theorem F.ok70:okFn Tryz.prog 70=true:=by kernel_rfl
theorem F.ok73:okFn Tryz.prog 73=true:=by kernel_rfl
theorem Adopt_ok (M:Mem) (t:ZL) (first:ZD) (rest:(Sl ZD)) (r:Int) (ht0:ZL.ok M t) (hrest1:SlK M ZD.segs 21 rest):Esp.Fn Tryz.prog 124 [t.enc,first.enc,Sl.val rest,.int .i64 r] M (fun M' v=>TabE M' v (Vz t.tb first rest.l r)):=by
  obtain ⟨⟨ZZ,Yp⟩,⟨Yr,YE⟩,⟨Yu,Yt,ZW⟩,⟨Yc,Yb,ZJ⟩⟩:=t
  obtain ⟨first_addr,first_id⟩:=first
  obtain ⟨rest_a,rest_c,rest_l⟩:=rest
  have YS:SlK M ZD.segs 21 ⟨Yu,Yt,ZW⟩:=ht0.h0
  have WQ:SlM M Yu (ZW.map ZD.segs) 21:=YS.h1
  have WR:(ZW.map ZD.segs).length=ZW.length:=List.length_map ..
  have WS:ZW.length≤9223372036854775807:=YS.h2
  have WU:ZW.length≤Yt:=YS.h3
  have Yw:SlK M ZD.segs 21 ⟨Yc,Yb,ZJ⟩:=ht0.h1
  have Wb:SlM M Yc (ZJ.map ZD.segs) 21:=Yw.h1
  have Wi:(ZJ.map ZD.segs).length=ZJ.length:=List.length_map ..
  have Wc:ZJ.length≤9223372036854775807:=Yw.h2
  have Wj:ZJ.length≤Yb:=Yw.h3
  have k_rest:SlK M ZD.segs 21 ⟨rest_a,rest_c,rest_l⟩:=hrest1
  have s_rest:SlM M rest_a (rest_l.map ZD.segs) 21:=k_rest.h1
  have n_rest:(rest_l.map ZD.segs).length=rest_l.length:=List.length_map ..
  have m_rest:rest_l.length≤9223372036854775807:=k_rest.h2
  have c_rest:rest_l.length≤rest_c:=k_rest.h3
  refine Wu Tryz.func124 rfl Tryz.ntmps124 rfl ?_;intro H
  refine ZI (Zm (l:=[0,1,2,3]) rfl ?_)
  refine Xk ?_;intro b1
  refine Xk ?_;intro b2
  refine YT F.zero28 ?_;intro b3
  refine ZB ?_;refine Zo (Zn (Y_pk [9,8,5,4,2,3] ?_))
  iterate 2 refine ZI ?_
  refine Zm (l:=[0,1,2,3,4,5,6,7,8,9,10,11,12,13,14,15,16]) rfl ?_;refine ZH F.lay28 ?_;refine X_fs rfl rfl F.ok70 rfl (IsT_ok _ ⟨⟨_,_⟩,⟨_,_⟩,⟨_,_,_⟩,⟨_,_,_⟩⟩ (by assumption)) rfl ?_
  rintro _ rfl
  refine Xx ?_;refine Zv ?_
  refine Yh 15 rfl (fun hc4=>?_) (fun hc4=>?_)
  ·replace hc4:=nT hc4
   iterate 4 refine ZU ?_
   refine ZK ?_;refine Zv ?_
   iterate 2 refine ZU ?_
   refine ZK ?_;refine Zv ?_
   iterate 2 refine ZU ?_
   refine ZK ?_;refine Zo (Zn (Y_pk [28,9,8,5,4,2,3] ?_));refine Xe rfl ?_;refine ZI (Zm (l:=[0,1,2]) rfl ?_);refine Xg rfl rfl F.bld28 (.nil) rfl rfl ?_;refine Yi F.lay28 ?_;refine ZB ?_;refine Zo (Zn (Y_pk [9,8,5,4,2,3] ?_));refine Yg (YG ?_)
   refine Ya (.inr rfl) (.cell rfl (by repeat first|exact List.Mem.head _|refine List.Mem.tail _ ?_|refine List.mem_append_right _ ?_) F.lay28 rfl rfl (.tmp rfl .nil)) (fun w hw=>?_)
   refine ⟨_,M,rfl,Mem.le.refl M,hw.c,?_⟩
   rw [show Vz (ZL.tb ⟨⟨ZZ,Yp⟩,⟨Yr,YE⟩,⟨Yu,Yt,ZW⟩,⟨Yc,Yb,ZJ⟩⟩) ⟨first_addr,first_id⟩ rest_l r=(Tb.zero,1) from if_neg (by rintro ⟨g1,g2,g3,g4⟩;first|exact absurd g1 (by assumption)|exact absurd g2 (by assumption)|omega)]
   exact ⟨_,rfl,WK⟩
  ·replace hc4:=nF hc4
   refine ZH F.lay28 ?_;refine ZH F.lay25 ?_;refine X_fs rfl rfl F.ok118 rfl (other_ok _ ⟨⟨_,_⟩,⟨_,_⟩,⟨_,_,_⟩,⟨_,_,_⟩⟩ ⟨_,_⟩) rfl ?_
   rintro _ rfl
   refine Xx ?_;refine ZK ?_;refine Zv ?_
   refine Yh 21 rfl (fun hc5=>?_) (fun hc5=>?_)
   ·replace hc5:=nT hc5
    simp only [ZD.eta,ZL.eta,ZO.eta,ZM.eta,Yd.eta,ZQ.eta,YI.eta,ZX.eta] at hc5
    iterate 2 refine ZU ?_
    refine ZK ?_;refine Zv ?_
    iterate 2 refine ZU ?_
    refine ZK ?_;refine Zo (Zn (Y_pk [28,9,8,5,4,2,3] ?_));refine Xe rfl ?_;refine ZI (Zm (l:=[0,1,2]) rfl ?_);refine Xg rfl rfl F.bld28 (.nil) rfl rfl ?_;refine Yi F.lay28 ?_;refine ZB ?_;refine Zo (Zn (Y_pk [9,8,5,4,2,3] ?_));refine Yg (YG ?_)
    refine Ya (.inr rfl) (.cell rfl (by repeat first|exact List.Mem.head _|refine List.Mem.tail _ ?_|refine List.mem_append_right _ ?_) F.lay28 rfl rfl (.tmp rfl .nil)) (fun w hw=>?_)
    refine ⟨_,M,rfl,Mem.le.refl M,hw.c,?_⟩
    rw [show Vz (ZL.tb ⟨⟨ZZ,Yp⟩,⟨Yr,YE⟩,⟨Yu,Yt,ZW⟩,⟨Yc,Yb,ZJ⟩⟩) ⟨first_addr,first_id⟩ rest_l r=(Tb.zero,1) from if_neg (by rintro ⟨g1,g2,g3,g4⟩;first|exact absurd g1 (by assumption)|exact absurd g2 (by assumption)|omega)]
    exact ⟨_,rfl,WK⟩
   ·replace hc5:=nF hc5
    simp only [ZD.eta,ZL.eta,ZO.eta,ZM.eta,Yd.eta,ZQ.eta,YI.eta,ZX.eta] at hc5
    refine Zv ?_;refine Yz ?_;refine ZK ?_;refine Zv ?_
    refine Yh 25 rfl (fun hc6=>?_) (fun hc6=>?_)
    ·replace hc6:=dT hc6
     iterate 2 refine ZU ?_
     refine ZK ?_;refine Zo (Zn (Y_pk [28,9,8,5,4,2,3] ?_));refine Xe rfl ?_;refine ZI (Zm (l:=[0,1,2]) rfl ?_);refine Xg rfl rfl F.bld28 (.nil) rfl rfl ?_;refine Yi F.lay28 ?_;refine ZB ?_;refine Zo (Zn (Y_pk [9,8,5,4,2,3] ?_));refine Yg (YG ?_)
     refine Ya (.inr rfl) (.cell rfl (by repeat first|exact List.Mem.head _|refine List.Mem.tail _ ?_|refine List.mem_append_right _ ?_) F.lay28 rfl rfl (.tmp rfl .nil)) (fun w hw=>?_)
     refine ⟨_,M,rfl,Mem.le.refl M,hw.c,?_⟩
     rw [show Vz (ZL.tb ⟨⟨ZZ,Yp⟩,⟨Yr,YE⟩,⟨Yu,Yt,ZW⟩,⟨Yc,Yb,ZJ⟩⟩) ⟨first_addr,first_id⟩ rest_l r=(Tb.zero,1) from if_neg (by rintro ⟨g1,g2,g3,g4⟩;first|exact absurd g1 (by assumption)|exact absurd g2 (by assumption)|omega)]
     exact ⟨_,rfl,WK⟩
    ·replace hc6:=dF hc6
     refine Zv ?_;refine Yz ?_;refine ZK ?_;refine Zo (Zn (Y_pk [28,9,8,5,4,2,3] ?_))
     refine Yx rfl (fun hc7=>?_) (fun hc7=>?_)
     ·replace hc7:=dT hc7
      refine ZI (Zm (l:=[0,1,2]) rfl ?_);refine Xg rfl rfl F.bld28 (.nil) rfl rfl ?_;refine Yi F.lay28 ?_;refine ZB ?_;refine Zo (Zn (Y_pk [9,8,5,4,2,3] ?_));refine Yg (YG ?_)
      refine Ya (.inr rfl) (.cell rfl (by repeat first|exact List.Mem.head _|refine List.Mem.tail _ ?_|refine List.mem_append_right _ ?_) F.lay28 rfl rfl (.tmp rfl .nil)) (fun w hw=>?_)
      refine ⟨_,M,rfl,Mem.le.refl M,hw.c,?_⟩
      rw [show Vz (ZL.tb ⟨⟨ZZ,Yp⟩,⟨Yr,YE⟩,⟨Yu,Yt,ZW⟩,⟨Yc,Yb,ZJ⟩⟩) ⟨first_addr,first_id⟩ rest_l r=(Tb.zero,1) from if_neg (by rintro ⟨g1,g2,g3,g4⟩;first|exact absurd g1 (by assumption)|exact absurd g2 (by assumption)|omega)]
      exact ⟨_,rfl,WK⟩
     ·replace hc7:=dF hc7
      refine Yv (Zn (Y_pk [9,8,5,4,2,3] ?_));refine ZI (Zm (l:=[0,1,2,3]) rfl ?_);refine ZH F.lay25 ?_
      refine XB rfl rfl F.elem26 F.zero25 rfl rfl (.cons rfl (by constructor) .nil) rfl rfl (by simp only [List.map_cons,List.map_nil] <;> rfl) rfl ?_;intro b8 hob9
      refine Zk F.foff28_2 ?_;refine Yi F.lay26 ?_;refine Zo (Zn (Y_pk [9,8,4,2,3] ?_))
      iterate 2 refine ZI ?_
      refine Zm (l:=[0,1,2]) rfl ?_;refine Zv ?_;refine YX F.elem26 ?_;refine Zv ?_;refine Zo (Zn (Y_pk [35,34,33,9,8,4,3] ?_));refine Xd (Y_pk [35,34,33,9,8,4,3] ?_);refine C_loopO2 (Hin:=[(b1,rowO [.one (.int .i64 ZZ),Yq Yp,.one (.int .i64 Yr),Yq YE,.one (.slice (some ⟨b8,0,none⟩) 1 1),.one (.slice Yc ZJ.length Yb)] 28)]) (Hin2:=[(b8,_)]) (.succ .zero) (by repeat first|exact Rem.here _|exact Rem.two|apply Rem.skip|apply Rem.over) (by repeat first|exact Rem.here _|exact Rem.two|apply Rem.skip|apply Rem.over) (fun (k:Nat) M1 h1 z=>∃ (acc:List ZD) (v:Value) (hs:Hp),M1=M∧z=[(35,.int .i64 (k:Int))]∧k≤rest_l.length∧h1=(b1,rowO [.one (.int .i64 ZZ),Yq Yp,.one (.int .i64 Yr),Yq YE,.one v,.one (.slice Yc ZJ.length Yb)] 28)::hs∧OSl 25 21 v hs (acc.map ZD.segs)∧(acc.length:Int)≤r∧Vx ⟨ZZ,Yp⟩ r [⟨first_addr,first_id⟩] rest_l=Vx ⟨ZZ,Yp⟩ r acc (rest_l.drop (k))) (fun k=>rest_l.length-k) (0) (⟨[⟨first_addr,first_id⟩],_,_,rfl,rfl,by omega,rfl,hob9,by simp only [List.length_cons,List.length_nil];omega,by rw [List.drop_zero]⟩) ?_
      rintro k M1 h1 z hm1 ⟨acc,v0,hs0,hM1,rfl,hk,rfl,ho,hr8,hI⟩
      subst hM1
      obtain ⟨ad0,cp0,rfl⟩:=ho.valL
      have hml:(acc.map ZD.segs).length=acc.length:=List.length_map ..
      refine ZI (Zm (l:=[0]) rfl ?_);refine Yz ?_;refine Zo (Zn (ZI ?_))
      refine Yx rfl (fun hc10=>?_) (fun hc10=>?_)
      ·replace hc10:=dT hc10
       refine Yv (Zn (ZI (Xd (ZI (Zm (l:=[0,1,2,3]) rfl ?_)))));refine YR rfl rfl rfl rfl F.elem26 (by rfl) (by omega) (by exact SlM.plain (by assumption) (by (simp;omega))) rfl ?_;refine Xo rfl rfl rfl (by assumption) (by exact XW (by omega)) F.lay25 rfl rfl rfl ?_
       refine YT F.zero25 ?_;intro b11
       refine Yi F.lay25 ?_;refine Zo (Zn ?_)
       iterate 2 refine ZI ?_
       refine Zm (l:=[0,1,2,3,4,5,6,7,8,9,10]) rfl ?_;refine ZH F.lay28 ?_;refine ZH F.lay25 ?_;refine X_fs rfl rfl F.ok118 rfl (other_ok _ ⟨⟨_,_⟩,⟨_,_⟩,⟨_,_,_⟩,⟨_,_,_⟩⟩ ⟨_,_⟩) rfl ?_
       rintro _ rfl
       refine Xx ?_;refine Zv ?_
       refine Yh 43 rfl (fun hc12=>?_) (fun hc12=>?_)
       ·replace hc12:=nT hc12
        simp only [ZD.eta,ZL.eta,ZO.eta,ZM.eta,Yd.eta,ZQ.eta,YI.eta,ZX.eta] at hc12
        simp only [List.get_eq_getElem] at hc12
        iterate 5 refine ZU ?_
        refine ZK ?_;refine Zo (Zn (Xe rfl ?_));refine XS (XM (K_miss (by decide) ?_))
        iterate 2 refine XM ?_
        refine Wl (Zn (Y_pk [9,8,4] ?_));refine ZI (Zm (l:=[0,1,2]) rfl ?_);refine ZH F.lay28 ?_;refine Yi F.lay28 ?_;refine ZB ?_;refine Zo (Zn (Y_pk [9,8] ?_));refine Yg ?_
        refine Ya (.inr rfl) (.cell rfl (by repeat first|exact List.Mem.head _|refine List.Mem.tail _ ?_|refine List.mem_append_right _ ?_) F.lay28 rfl rfl (.tmp rfl .nil)) (fun w hw=>?_)
        have hacc:Vx ⟨ZZ,Yp⟩ r [⟨first_addr,first_id⟩] rest_l=acc:=by
         rw [hI,List.drop_eq_getElem_cons (by omega:k<rest_l.length)]
         unfold Vx
         exact if_pos (by exact .inl (by assumption))
        obtain ⟨M9,s1,g1,g2,g3,g4,g5⟩:=OSl.freezeK (f:=ZD.segs) (H:=H) (l:=acc) ho (hw.c)
        refine ⟨_,M9,rfl,g1,g2,?_⟩
        rw [show Vz (ZL.tb ⟨⟨ZZ,Yp⟩,⟨Yr,YE⟩,⟨Yu,Yt,ZW⟩,⟨Yc,Yb,ZJ⟩⟩) ⟨first_addr,first_id⟩ rest_l r=({ (ZL.tb ⟨⟨ZZ,Yp⟩,⟨Yr,YE⟩,⟨Yu,Yt,ZW⟩,⟨Yc,Yb,ZJ⟩⟩) with succ:=Vx ⟨ZZ,Yp⟩ r [⟨first_addr,first_id⟩] rest_l },0) from if_pos ⟨by assumption,by assumption,by omega,by omega⟩]
        exact ⟨_,rfl,WA g3 (s2:=⟨Yc,Yb,ZJ⟩) rfl g5 (Yw.mono g1) (by rw [g4,hacc];rfl)⟩
       ·replace hc12:=nF hc12
        simp only [ZD.eta,ZL.eta,ZO.eta,ZM.eta,Yd.eta,ZQ.eta,YI.eta,ZX.eta] at hc12
        simp only [List.get_eq_getElem] at hc12
        refine Zk F.foff28_2 ?_;refine ZH F.lay26 ?_;refine YX F.elem26 ?_;refine Zv ?_;refine Yz ?_;refine ZK ?_;refine Zo (Zn ?_)
        refine Yx rfl (fun hc13=>?_) (fun hc13=>?_)
        ·replace hc13:=dT hc13
         refine XS (XM (K_miss (by decide) ?_))
         iterate 2 refine XM ?_
         refine Wl (Zn (Y_pk [9,8,4] ?_));refine ZI (Zm (l:=[0,1,2]) rfl ?_);refine ZH F.lay28 ?_;refine Yi F.lay28 ?_;refine ZB ?_;refine Zo (Zn (Y_pk [9,8] ?_));refine Yg ?_
         refine Ya (.inr rfl) (.cell rfl (by repeat first|exact List.Mem.head _|refine List.Mem.tail _ ?_|refine List.mem_append_right _ ?_) F.lay28 rfl rfl (.tmp rfl .nil)) (fun w hw=>?_)
         have hacc:Vx ⟨ZZ,Yp⟩ r [⟨first_addr,first_id⟩] rest_l=acc:=by
          rw [hI,List.drop_eq_getElem_cons (by omega:k<rest_l.length)]
          unfold Vx
          exact if_pos (by exact .inr (by omega))
         obtain ⟨M9,s1,g1,g2,g3,g4,g5⟩:=OSl.freezeK (f:=ZD.segs) (H:=H) (l:=acc) ho (hw.c)
         refine ⟨_,M9,rfl,g1,g2,?_⟩
         rw [show Vz (ZL.tb ⟨⟨ZZ,Yp⟩,⟨Yr,YE⟩,⟨Yu,Yt,ZW⟩,⟨Yc,Yb,ZJ⟩⟩) ⟨first_addr,first_id⟩ rest_l r=({ (ZL.tb ⟨⟨ZZ,Yp⟩,⟨Yr,YE⟩,⟨Yu,Yt,ZW⟩,⟨Yc,Yb,ZJ⟩⟩) with succ:=Vx ⟨ZZ,Yp⟩ r [⟨first_addr,first_id⟩] rest_l },0) from if_pos ⟨by assumption,by assumption,by omega,by omega⟩]
         exact ⟨_,rfl,WA g3 (s2:=⟨Yc,Yb,ZJ⟩) rfl g5 (Yw.mono g1) (by rw [g4,hacc];rfl)⟩
        ·replace hc13:=dF hc13
         refine Yv (Zn (ZI (Zm (l:=[0,1,2,3,4,5]) rfl ?_)));refine Zk F.foff28_2 ?_;refine ZH F.lay26 ?_;refine Zk F.foff25_0 ?_;refine ZH F.lay3 ?_;refine X_fo rfl rfl F.ok119 rfl (has_rd _ hs0 ⟨ad0,cp0,acc⟩ _ (ho.rd _) (by show acc.length≤9223372036854775807;omega)) (by repeat first|exact Rem.here _|exact Rem.two|apply Rem.skip|apply Rem.over) (YA rfl) ?_
         rintro _ M1 _ ⟨hM1,rfl⟩;subst M1
         refine Xx ?_;refine Zo (Zn ?_)
         refine Yx rfl (fun hc14=>?_) (fun hc14=>?_)
         ·replace hc14:=nT hc14
          simp only [ZD.eta,ZL.eta,ZO.eta,ZM.eta,Yd.eta,ZQ.eta,YI.eta,ZX.eta] at hc14
          simp only [List.get_eq_getElem] at hc14
          refine Zm (l:=[0,1,2,3,4,5,6]) rfl ?_;refine Zk F.foff28_2 ?_;refine ZH F.lay26 ?_;refine ZH F.lay25 ?_
          refine XB rfl rfl F.elem26 F.zero25 rfl rfl (.cons rfl (by constructor) .nil) rfl rfl (by simp only [List.map_cons,List.map_nil] <;> rfl) rfl ?_;intro b15 hob16
          refine Vm (m:=1000000) rfl rfl rfl rfl rfl F.elem26 F.zero25 (by exact Ve rfl) rfl (by assumption) (by repeat first|exact Rem.here _|exact Rem.two|apply Rem.skip|apply Rem.over) (Src.own hob16.lens (by (refine rows_one1 ?_;(repeat (first|exact XA|refine XC ?_|(refine YF ?_ ?_;rfl)));done)) rfl (by repeat first|exact List.Mem.head _|refine List.Mem.tail _ ?_|refine List.mem_append_right _ ?_)) (by (simp;omega)) (by decide) rfl ?_;intro v19 hs18 ho17;obtain ⟨adv19,cpv19,rfl⟩:=ho17.valAt (n:=acc.length+1) (by (simp;done))
          refine Zk F.foff28_2 ?_;refine Yi F.lay26 ?_;refine Zo (XV (Zn (Zm (l:=[0,1]) rfl ?_)));refine XN rfl rfl rfl rfl rfl (by exact Xn (by decide) (by omega)) rfl ?_;refine Zv ?_;refine Zo ?_;refine Wq (a':=[(35,_)]) (k+1) ((b1,rowO [.one (.int .i64 ZZ),Yq Yp,.one (.int .i64 Yr),Yq YE,.one (.slice adv19 (acc.length+1) cpv19),.one (.slice Yc ZJ.length Yb)] 28)::hs18) (.cons (k:=35) rfl (.cons (k:=34) rfl (.cons (k:=33) rfl (.cons (k:=9) rfl (.cons (k:=8) rfl (.cons (k:=4) rfl (.cons (k:=3) rfl (.nil)))))))) (by exact Mem.le.refl _) (fun w hw=>by first|exact hw|exact hw.c) ?_ ?_
          ·refine ⟨acc++[rest_l[k]],_,_,rfl,rfl,by omega,rfl,by rw [List.map_append];exact ho17,by simp only [List.length_append,List.length_cons,List.length_nil];omega,?_⟩
           rw [hI,List.drop_eq_getElem_cons (by omega:k<rest_l.length)]
           conv=>lhs;unfold Vx
           rw [if_neg (by rintro (h|h);exact h (by assumption);omega),if_neg (by assumption)]
          ·omega
         ·replace hc14:=nF hc14
          simp only [ZD.eta,ZL.eta,ZO.eta,ZM.eta,Yd.eta,ZQ.eta,YI.eta,ZX.eta] at hc14
          simp only [List.get_eq_getElem] at hc14
          refine Yv (XV (Zn (Zm (l:=[0,1]) rfl ?_)));refine XN rfl rfl rfl rfl rfl (by exact Xn (by decide) (by omega)) rfl ?_;refine Zv ?_;refine Zo ?_;refine Wq (a':=[(35,_)]) (k+1) ((b1,rowO [.one (.int .i64 ZZ),Yq Yp,.one (.int .i64 Yr),Yq YE,.one (.slice ad0 acc.length cp0),.one (.slice Yc ZJ.length Yb)] 28)::hs0) (.cons (k:=35) rfl (.cons (k:=34) rfl (.cons (k:=33) rfl (.cons (k:=9) rfl (.cons (k:=8) rfl (.cons (k:=4) rfl (.cons (k:=3) rfl (.nil)))))))) (by exact Mem.le.refl _) (fun w hw=>by first|exact hw|exact hw.c) ?_ ?_
          ·refine ⟨acc,_,_,rfl,rfl,by omega,rfl,ho,hr8,?_⟩
           rw [hI,List.drop_eq_getElem_cons (by omega:k<rest_l.length)]
           conv=>lhs;unfold Vx
           rw [if_neg (by rintro (h|h);exact h (by assumption);omega),if_pos (by assumption)]
          ·omega
      ·replace hc10:=dF hc10
       refine XS ?_
       iterate 2 refine XM ?_
       refine Wl (Zn (Y_pk [9,8,4] ?_));refine ZI (Zm (l:=[0,1,2]) rfl ?_);refine ZH F.lay28 ?_;refine Yi F.lay28 ?_;refine ZB ?_;refine Zo (Zn (Y_pk [9,8] ?_));refine Yg ?_
       refine Ya (.inr rfl) (.cell rfl (by repeat first|exact List.Mem.head _|refine List.Mem.tail _ ?_|refine List.mem_append_right _ ?_) F.lay28 rfl rfl (.tmp rfl .nil)) (fun w hw=>?_)
       have hacc:Vx ⟨ZZ,Yp⟩ r [⟨first_addr,first_id⟩] rest_l=acc:=by
        rw [hI,show k=rest_l.length from by omega,List.drop_length];simp only [Vx]
       obtain ⟨M9,s1,g1,g2,g3,g4,g5⟩:=OSl.freezeK (f:=ZD.segs) (H:=H) (l:=acc) ho (hw.c)
       refine ⟨_,M9,rfl,g1,g2,?_⟩
       rw [show Vz (ZL.tb ⟨⟨ZZ,Yp⟩,⟨Yr,YE⟩,⟨Yu,Yt,ZW⟩,⟨Yc,Yb,ZJ⟩⟩) ⟨first_addr,first_id⟩ rest_l r=({ (ZL.tb ⟨⟨ZZ,Yp⟩,⟨Yr,YE⟩,⟨Yu,Yt,ZW⟩,⟨Yc,Yb,ZJ⟩⟩) with succ:=Vx ⟨ZZ,Yp⟩ r [⟨first_addr,first_id⟩] rest_l },0) from if_pos ⟨by assumption,by assumption,by omega,by omega⟩]
       exact ⟨_,rfl,WA g3 (s2:=⟨Yc,Yb,ZJ⟩) rfl g5 (Yw.mono g1) (by rw [g4,hacc];rfl)⟩
end Go.Proofs.YtajmnjefajknoaaGreat
namespace Go.Proofs.YtajmnjefajknoaaGreat
open Go.Esp
theorem Learn_ok (M:Mem) (t:ZL) (p:ZD) (ht0:ZL.ok M t):Esp.Fn Tryz.prog 107 [t.enc,p.enc] M (fun M' v=>TabIs M' v (VC t.tb p)):=by
  obtain ⟨⟨ZZ,Yp⟩,⟨Yr,YE⟩,⟨Yu,Yt,ZW⟩,⟨Yc,Yb,ZJ⟩⟩:=t
  obtain ⟨Xc,p_id⟩:=p
  have YS:SlK M ZD.segs 21 ⟨Yu,Yt,ZW⟩:=ht0.h0
  have WQ:SlM M Yu (ZW.map ZD.segs) 21:=YS.h1
  have WR:(ZW.map ZD.segs).length=ZW.length:=List.length_map ..
  have WS:ZW.length≤9223372036854775807:=YS.h2
  have WU:ZW.length≤Yt:=YS.h3
  have Yw:SlK M ZD.segs 21 ⟨Yc,Yb,ZJ⟩:=ht0.h1
  have Wb:SlM M Yc (ZJ.map ZD.segs) 21:=Yw.h1
  have Wi:(ZJ.map ZD.segs).length=ZJ.length:=List.length_map ..
  have Wc:ZJ.length≤9223372036854775807:=Yw.h2
  have Wj:ZJ.length≤Yb:=Yw.h3
  refine Wu Tryz.func107 rfl Tryz.ntmps107 rfl ?_;intro H
  refine ZI (Zm (l:=[0,1,2]) rfl ?_)
  refine Xk ?_;intro b1
  refine Xk ?_;intro b2
  refine YT F.zero28 ?_;intro b3
  refine Zo (Zn (Y_pk [4,3,2] ?_));refine ZI (Xd (ZI ?_))
  iterate 2 refine Xd ?_
  refine ZI (Xd ?_)
  iterate 3 refine ZI ?_
  refine Zm (l:=[0,1,2,3,4,5,6,7,8,9]) rfl ?_;refine ZH F.lay28 ?_;refine X_fs rfl rfl F.ok70 rfl (IsT_ok _ ⟨⟨_,_⟩,⟨_,_⟩,⟨_,_,_⟩,⟨_,_,_⟩⟩ (by assumption)) rfl ?_
  rintro _ rfl
  refine Xx ?_;refine Zv ?_
  refine Yh 9 rfl (fun hc4=>?_) (fun hc4=>?_)
  ·replace hc4:=nT hc4
   iterate 4 refine ZU ?_
   refine ZK ?_;refine ZB ?_;refine Zo (Zn (Y_pk [5,4,3,2] ?_));refine Xe rfl ?_;refine XS ?_
   iterate 2 refine XM ?_
   refine Wl (Zn (Y_pk [4,3,2] ?_));refine XS ?_
   iterate 2 refine K_miss (by decide) ?_
   refine XM (Wl (Zn (Y_pk [4,2] ?_)));refine ZI (Zm (l:=[0,1]) rfl ?_);refine ZH F.lay28 ?_;refine Yi F.lay28 ?_;refine Zo (Zn (Y_pk [4] ?_));refine Yg ?_
   refine Ya (.inr rfl) (.cell rfl (by repeat first|exact List.Mem.head _|refine List.Mem.tail _ ?_|refine List.mem_append_right _ ?_) F.lay28 rfl rfl .nil) (fun w hw=>?_)
   refine ⟨_,M,rfl,Mem.le.refl M,hw.c,?_⟩
   clear hw
   exact WA (s1:=⟨Yu,Yt,ZW⟩) (s2:=⟨Yc,Yb,ZJ⟩) rfl rfl YS Yw (by unfold VC;rw [if_neg (by rintro ⟨g1,g2,g3⟩;first|exact absurd g1 (by assumption)|exact absurd g2 (by assumption)|(rcases g3 with g3|g3;exact absurd g3 (by assumption);exact absurd g3 (by assumption)))];rfl)
  ·replace hc4:=nF hc4
   refine ZH F.lay28 ?_;refine ZH F.lay25 ?_;refine X_fs rfl rfl F.ok118 rfl (other_ok _ ⟨⟨_,_⟩,⟨_,_⟩,⟨_,_,_⟩,⟨_,_,_⟩⟩ ⟨_,_⟩) rfl ?_
   rintro _ rfl
   refine Xx ?_;refine ZK ?_;refine ZB ?_;refine Zo (Zn (Y_pk [5,4,3,2] ?_))
   refine Yx rfl (fun hc5=>?_) (fun hc5=>?_)
   ·replace hc5:=nT hc5
    simp only [ZD.eta,ZL.eta,ZO.eta,ZM.eta,Yd.eta,ZQ.eta,YI.eta,ZX.eta] at hc5
    refine XS ?_
    iterate 2 refine XM ?_
    refine Wl (Zn (Y_pk [4,3,2] ?_));refine XS ?_
    iterate 2 refine K_miss (by decide) ?_
    refine XM (Wl (Zn (Y_pk [4,2] ?_)));refine ZI (Zm (l:=[0,1]) rfl ?_);refine ZH F.lay28 ?_;refine Yi F.lay28 ?_;refine Zo (Zn (Y_pk [4] ?_));refine Yg ?_
    refine Ya (.inr rfl) (.cell rfl (by repeat first|exact List.Mem.head _|refine List.Mem.tail _ ?_|refine List.mem_append_right _ ?_) F.lay28 rfl rfl .nil) (fun w hw=>?_)
    refine ⟨_,M,rfl,Mem.le.refl M,hw.c,?_⟩
    clear hw
    exact WA (s1:=⟨Yu,Yt,ZW⟩) (s2:=⟨Yc,Yb,ZJ⟩) rfl rfl YS Yw (by unfold VC;rw [if_neg (by rintro ⟨g1,g2,g3⟩;first|exact absurd g1 (by assumption)|exact absurd g2 (by assumption)|(rcases g3 with g3|g3;exact absurd g3 (by assumption);exact absurd g3 (by assumption)))];rfl)
   ·replace hc5:=nF hc5
    simp only [ZD.eta,ZL.eta,ZO.eta,ZM.eta,Yd.eta,ZQ.eta,YI.eta,ZX.eta] at hc5
    refine Yv (Zn (Y_pk [4,3,2] ?_))
    iterate 2 refine ZI ?_
    refine Yy (l:=[0,1,2,3,4]) #[0,1,0,7,15] _ rfl (by kernel_rfl) (by kernel_rfl) St.drawn (fun _ h=>h) ?_;refine Zk F.foff28_1 ?_;refine ZH F.lay25 ?_;refine X_fs rfl rfl F.ok66 rfl (WO _) rfl ?_
    rintro _ rfl
    refine WV 18 rfl (show _=aggV [.one (.int .i64 (-1)),Yq 0] from rfl) ?_
    refine Wf (m:=20) rfl rfl rfl rfl rfl (by constructor) (by constructor) F.lay25 F.kinds25 rfl F.guard25 (by exact Xf (⟨_,_⟩)) (by exact Xf (⟨_,_⟩)) rfl rfl rfl ?_;intro c6 he7
    replace he7:c6=true↔Segs.cells _=Segs.cells _:=he7
    obtain rfl:=eqD he7 (ZD.inj (x:=⟨_,_⟩) (y:=⟨_,_⟩));clear he7
    refine ZB ?_;refine Zo (Zn (Y_pk [15,4,3,2] ?_))
    refine Yx rfl (fun hc8=>?_) (fun hc8=>?_)
    ·replace hc8:=dT hc8
     refine XS ?_
     iterate 2 refine XM ?_
     refine K_miss (by decide) ?_;refine XM (Wl (XV (Zn (Y_pk [4,3,2] ?_))));refine ZI (Zm (l:=[0,1,2]) rfl ?_);refine ZH F.lay25 ?_;refine Zk F.foff28_1 ?_;refine Yi F.lay25 ?_;refine Zo (Zn (Y_pk [4,2] ?_));refine XS (Wl (Zn (ZI (Zm (l:=[0,1]) rfl ?_))));refine ZH F.lay28 ?_;refine Yi F.lay28 ?_;refine Zo (Zn (Y_pk [4] ?_));refine Yg ?_
     refine Ya (.inr rfl) (.cell rfl (by repeat first|exact List.Mem.head _|refine List.Mem.tail _ ?_|refine List.mem_append_right _ ?_) F.lay28 rfl rfl .nil) (fun w hw=>?_)
     refine ⟨_,M,rfl,Mem.le.refl M,hw.c,?_⟩
     clear hw
     exact WA (s1:=⟨Yu,Yt,ZW⟩) (s2:=⟨Yc,Yb,ZJ⟩) rfl rfl YS Yw (by unfold VC;rw [if_pos ⟨by assumption,by assumption,by first|exact .inl (by assumption)|exact .inr (by assumption)⟩];rfl)
    ·replace hc8:=dF hc8
     refine Yv (Zn (Y_pk [4,3,2] ?_));refine ZI (Zm (l:=[0,1,2,3,4,5,6,7,8,9]) rfl ?_);refine Zk F.foff28_1 ?_;refine Zk F.foff25_1 ?_;refine ZH F.lay23 ?_;refine Zk F.foff25_1 ?_;refine ZH F.lay23 ?_;refine Zk F.foff28_0 ?_;refine Zk F.foff25_1 ?_;refine ZH F.lay23 ?_;refine X_fs rfl rfl F.ok114 rfl (Open_ok _ _ _ _) rfl ?_
     rintro _ rfl
     refine ZB ?_;refine Zo (Zn (Y_pk [20,4,3,2] ?_))
     refine Yx rfl (fun hc9=>?_) (fun hc9=>?_)
     ·replace hc9:=dT hc9
      refine XS (XM (K_miss (by decide) ?_));refine XM (K_miss (by decide) ?_);refine Wl (Zn (Y_pk [4,3,2] ?_));refine ZI (Zm (l:=[0,1,2]) rfl ?_);refine ZH F.lay25 ?_;refine Zk F.foff28_1 ?_;refine Yi F.lay25 ?_;refine Zo (Zn (Y_pk [4,2] ?_));refine XS (Wl (Zn (ZI (Zm (l:=[0,1]) rfl ?_))));refine ZH F.lay28 ?_;refine Yi F.lay28 ?_;refine Zo (Zn (Y_pk [4] ?_));refine Yg ?_
      refine Ya (.inr rfl) (.cell rfl (by repeat first|exact List.Mem.head _|refine List.Mem.tail _ ?_|refine List.mem_append_right _ ?_) F.lay28 rfl rfl .nil) (fun w hw=>?_)
      refine ⟨_,M,rfl,Mem.le.refl M,hw.c,?_⟩
      clear hw
      exact WA (s1:=⟨Yu,Yt,ZW⟩) (s2:=⟨Yc,Yb,ZJ⟩) rfl rfl YS Yw (by unfold VC;rw [if_pos ⟨by assumption,by assumption,by first|exact .inl (by assumption)|exact .inr (by assumption)⟩];rfl)
     ·replace hc9:=dF hc9
      refine Yv (Zn (Y_pk [4,3,2] ?_));refine XS (K_miss (by decide) ?_);refine XM ?_
      iterate 2 refine K_miss (by decide) ?_
      refine XM (Wl (Zn (Y_pk [4,2] ?_)));refine ZI (Zm (l:=[0,1]) rfl ?_);refine ZH F.lay28 ?_;refine Yi F.lay28 ?_;refine Zo (Zn (Y_pk [4] ?_));refine Yg ?_
      refine Ya (.inr rfl) (.cell rfl (by repeat first|exact List.Mem.head _|refine List.Mem.tail _ ?_|refine List.mem_append_right _ ?_) F.lay28 rfl rfl .nil) (fun w hw=>?_)
      refine ⟨_,M,rfl,Mem.le.refl M,hw.c,?_⟩
      clear hw
      exact WA (s1:=⟨Yu,Yt,ZW⟩) (s2:=⟨Yc,Yb,ZJ⟩) rfl rfl YS Yw (by unfold VC;rw [if_neg (by rintro ⟨g1,g2,g3⟩;first|exact absurd g1 (by assumption)|exact absurd g2 (by assumption)|(rcases g3 with g3|g3;exact absurd g3 (by assumption);exact absurd g3 (by assumption)))];rfl)
end Go.Proofs.YtajmnjefajknoaaGreat
namespace Go.Proofs.YtajmnjefajknoaaGreat
open Go.Esp
theorem DeleteFP_no (M:Mem) (Hc:Hp) (a:Option Addr) (c:Nat) (l:List ZD) (hs:Hp) (ho:OSl 25 21 (.slice a l.length c) hs (l.map ZD.segs)) (bl:l.length≤1000000) (g:FuncId) (caps:List Value) (p:ZD→Bool) (hok:okFn Tryz.prog g=true) (hc:∀ x:ZD,Fo Tryz.prog g ([x.enc]++caps) M Hc (fun M' v=>M'=M∧v=.bool (p x))) (h:idxF p l=-1):Fh Tryz.prog 140 [.slice a l.length c,.func (.func g) #[] caps.toArray] M (hs++Hc) (fun M' v Hout=>M'=M∧∃ hs',Hout=hs'++Hc∧OSl 25 21 v hs' ((kept p l).map ZD.segs)):=by
  refine XP (fun H=>hs++(Hc++H)) (fun _=>List.append_assoc _ _ _) Tryz.func140 rfl Tryz.ntmps140 rfl ?_;intro H
  refine ZI (Zm (l:=[0]) rfl ?_);refine ZB ?_;refine Zo (Zn (ZI (Zm (l:=[0,1,2,3]) rfl ?_)))
  iterate 2 refine Zv ?_
  refine X_fo rfl rfl F.ok123 rfl (IndexFP_rd M (hs++Hc) ⟨a,c,l⟩ g caps p ((ho.rd M).app Hc) (by show l.length≤9223372036854775807;omega) hok (fun x _=>((hc x).frame hs).perm List.perm_append_comm)) (by repeat first|exact Rem.here _|exact Rem.two|apply Rem.skip|apply Rem.over) (YA rfl) ?_
  rintro _ M1 _ ⟨hM1,rfl⟩;subst M1
  rw [h]
  refine ZB ?_;refine Zo (Zn (Y_pk [5,4,0,1] ?_))
  iterate 2 refine ZI ?_
  refine Zm (l:=[0,1]) rfl ?_;refine Zv ?_;refine Yz ?_;refine Zo (Zn (Y_pk [12,5,4,0,1] ?_))
  refine Yx rfl (fun hc1=>?_) (fun hc1=>?_)
  ·replace hc1:=dT hc1
   simp only [ZD.eta,ZL.eta,ZO.eta,ZM.eta,Yd.eta,ZQ.eta,YI.eta,ZX.eta] at hc1
   refine ZI (Zm (l:=[0,1]) rfl ?_);refine Zv ?_;refine ZB ?_;refine Zo (Zn (Y_pk [4,5,0,1] ?_));refine Yg (YG ?_)
   refine Ya (.inr rfl) (.tmp rfl .nil) (fun w hw=>?_)
   exact ⟨_,M,hs++Hc,rfl,Mem.le.refl M,hw.c,rfl,hs,rfl,by rw [kept_none h];exact ho⟩
  ·replace hc1:=dF hc1
   simp only [ZD.eta,ZL.eta,ZO.eta,ZM.eta,Yd.eta,ZQ.eta,YI.eta,ZX.eta] at hc1
   (exfalso;simp [eqX] at hc1;done)
theorem DeleteFP_yes (M:Mem) (Hc:Hp) (b:Nat) (c:Nat) (l:List ZD) (hs:Hp) (ho:OSl 25 21 (.slice (some ⟨b,0,none⟩) l.length c) hs (l.map ZD.segs)) (bl:l.length≤1000000) (g:FuncId) (caps:List Value) (p:ZD→Bool) (hok:okFn Tryz.prog g=true) (hc:∀ x:ZD,Fo Tryz.prog g ([x.enc]++caps) M Hc (fun M' v=>M'=M∧v=.bool (p x))) (i0:Nat) (h:idxF p l=(i0:Nat)) (hi0:i0<l.length) (hk0:kept p (l.take (i0+1))=l.take i0):Fh Tryz.prog 140 [.slice (some ⟨b,0,none⟩) l.length c,.func (.func g) #[] caps.toArray] M (hs++Hc) (fun M' v Hout=>M'=M∧∃ hs',Hout=hs'++Hc∧OSl 25 21 v hs' ((kept p l).map ZD.segs)):=by
  refine XP (fun H=>hs++(Hc++H)) (fun _=>List.append_assoc _ _ _) Tryz.func140 rfl Tryz.ntmps140 rfl ?_;intro H
  refine ZI (Zm (l:=[0]) rfl ?_);refine ZB ?_;refine Zo (Zn (ZI (Zm (l:=[0,1,2,3]) rfl ?_)))
  iterate 2 refine Zv ?_
  refine X_fo rfl rfl F.ok123 rfl (IndexFP_rd M (hs++Hc) ⟨some ⟨b,0,none⟩,c,l⟩ g caps p ((ho.rd M).app Hc) (by show l.length≤9223372036854775807;omega) hok (fun x _=>((hc x).frame hs).perm List.perm_append_comm)) (by repeat first|exact Rem.here _|exact Rem.two|apply Rem.skip|apply Rem.over) (YA rfl) ?_
  rintro _ M1 _ ⟨hM1,rfl⟩;subst M1
  rw [h]
  refine ZB ?_;refine Zo (Zn (Y_pk [5,4,0,1] ?_))
  iterate 2 refine ZI ?_
  refine Zm (l:=[0,1]) rfl ?_;refine Zv ?_;refine Yz ?_;refine Zo (Zn (Y_pk [12,5,4,0,1] ?_))
  refine Yx rfl (fun hc1=>?_) (fun hc1=>?_)
  ·skip
   replace hc1:=dT hc1
   (exfalso;omega)
  ·skip
   replace hc1:=dF hc1
   refine Yv (Zn (Y_pk [5,4,0,1] ?_))
   iterate 2 refine ZI ?_
   refine Zm (l:=[0,1,2]) rfl ?_;refine Zv ?_;refine XN rfl rfl rfl rfl rfl (by exact Xn (by decide) (by omega)) rfl ?_;refine ZB ?_;refine Zo (Zn (Y_pk [6,5,4,0,1] ?_));refine Xd (Y_pk [5,6,4,0,1] ?_);refine VH (Hin:=hs) (.succ (.succ .zero)) (by repeat first|exact Rem.here _|exact Rem.two|apply Rem.skip|apply Rem.over) (fun (j:Nat) M1 h1 z=>∃ (i:Nat) (w:List ZD),M1=M∧z=[(5,.int .i64 (i:Int)),(6,.int .i64 (j:Int))]∧i<j∧j≤l.length∧w.length=l.length∧w.take i=kept p (l.take j)∧w.drop j=l.drop j∧i=(kept p (l.take j)).length∧OSl 25 21 (.slice (some ⟨b,0,none⟩) l.length c) h1 (w.map ZD.segs)) (fun j=>l.length-j) (i0+1) (⟨i0,l,rfl,rfl,by omega,by omega,rfl,hk0.symm,rfl,by rw [hk0];simp;omega,ho⟩) ?_
   rintro j M1 h1 z hm1 ⟨i,w,hM1,rfl,hij,hj,hwl,hw1,hw2,hi9,ho1⟩
   subst hM1
   have hnw:(w.map ZD.segs).length=w.length:=List.length_map ..
   iterate 2 refine ZI ?_
   refine Zm (l:=[0,1,2,3]) rfl ?_
   iterate 2 refine Zv ?_
   refine YX F.elem26 ?_;refine Yz ?_;refine Zo (Zn ?_)
   refine Yx rfl (fun hc2=>?_) (fun hc2=>?_)
   ·skip
    replace hc2:=dT hc2
    refine Yv (Zn (ZI (Xd (ZI (Zm (l:=[0,1,2,3,4,5]) rfl ?_)))))
    iterate 2 refine Zv ?_
    refine YR rfl rfl rfl rfl F.elem26 (by rfl) (by omega) (by exact ⟨_,_,rfl⟩) rfl ?_;refine X_load_osl rfl rfl rfl (by assumption) (by repeat first|exact Rem.here _|exact Rem.two|apply Rem.skip|apply Rem.over) (by exact XW (by omega)) F.lay25 rfl rfl rfl ?_
    refine YT F.zero25 ?_;intro b3
    refine Yi F.lay25 ?_;refine Zo (Zn (ZI (Zm (l:=[0,1,2,3]) rfl ?_)));refine Zv ?_;refine ZH F.lay25 ?_;refine X_foV rfl rfl rfl hok rfl rfl (hc w[j]) (by repeat first|exact Rem.here _|exact Rem.two|apply Rem.skip|apply Rem.over) (YA rfl) ?_
    rintro _ M1 _ ⟨hM1,rfl⟩;subst M1
    refine Xx ?_;refine Zo (Zn ?_)
    refine Yx rfl (fun hc4=>?_) (fun hc4=>?_)
    ·simp only [Bool.not_eq_true',Bool.not_eq_false'] at hc4
     have hP:=hc4
     refine ZI (Zm (l:=[0,1,2,3,4]) rfl ?_)
     iterate 2 refine Zv ?_
     refine ZH F.lay25 ?_;refine YR rfl rfl rfl rfl F.elem26 (by rfl) (by omega) (by exact ⟨_,_,rfl⟩) rfl ?_
     refine X_storeO (b:=b) (j:=i) rfl rfl rfl rfl (by constructor) (YF rfl (XC XA)) F.lay25 rfl rfl ho1 (by repeat first|exact Rem.here _|exact Rem.two|apply Rem.skip|apply Rem.over) (by omega) ?_;intro hs7 ho7
     replace ho7:OSl 25 21 (.slice (some ⟨b,0,none⟩) l.length c) hs7 ((w.set i w[j]).map ZD.segs):=by rw [List.map_set];exact ho7.aZ (by simp;omega)
     refine Zo (Zn (Zm (l:=[0,1,2]) rfl ?_));refine Zv ?_;refine XN rfl rfl rfl rfl rfl (by exact Xn (by decide) (by omega)) rfl ?_;refine ZB ?_;refine Zo (XV (Zn (Zm (l:=[0,1,2]) rfl ?_)));refine Zv ?_;refine XN rfl rfl rfl rfl rfl (by exact Xn (by decide) (by omega)) rfl ?_;refine ZB ?_;refine Zo ?_;refine Wq (a':=[(5,_),(6,_)]) (j+1) (hs7) (.cons (k:=5) rfl (.cons (k:=6) rfl (.cons (k:=4) rfl (.cons (k:=0) rfl (.cons (k:=1) rfl (.nil)))))) (by exact Mem.le.refl _) (fun w hw=>by first|exact hw|exact hw.c) ?_ ?_
     ·have hd9:=drop_at hwl (by omega:j<l.length) hw2
      have hp9:p l[j]=false:=by rw [← hd9];simpa using hP
      obtain ⟨e1,e2,e3⟩:=keep_put hwl hij (by omega:j<l.length) hw1 hw2
      exact ⟨i+1,w.set i l[j],rfl,rfl,by omega,by omega,e1,by rw [e2,filt_step (by omega:j<l.length),hp9];rfl,e3,by rw [filt_step (by omega:j<l.length),hp9];simp;omega,by rw [← hd9];exact ho7⟩
     ·omega
    ·simp only [Bool.not_eq_true',Bool.not_eq_false'] at hc4
     have hP:=hc4
     refine Yv (XV (Zn (Zm (l:=[0,1,2]) rfl ?_)));refine Zv ?_;refine XN rfl rfl rfl rfl rfl (by exact Xn (by decide) (by omega)) rfl ?_;refine ZB ?_;refine Zo ?_;refine Wq (a':=[(5,_),(6,_)]) (j+1) (h1) (.cons (k:=5) rfl (.cons (k:=6) rfl (.cons (k:=4) rfl (.cons (k:=0) rfl (.cons (k:=1) rfl (.nil)))))) (by exact Mem.le.refl _) (fun w hw=>by first|exact hw|exact hw.c) ?_ ?_
     ·have hd9:=drop_at hwl (by omega:j<l.length) hw2
      have hp9:p l[j]=true:=by rw [← hd9];simpa using hP
      exact ⟨i,w,rfl,rfl,by omega,by omega,hwl,by rw [hw1,filt_step (by omega:j<l.length),hp9];rfl,by have:=congrArg (List.drop 1) hw2;simpa [List.drop_drop] using this,by rw [filt_step (by omega:j<l.length),hp9];simpa using hi9,ho1⟩
     ·omega
   ·skip
    replace hc2:=dF hc2
    refine XS ?_
    iterate 2 refine XM ?_
    refine Wl (Zn (Y_pk [5,4,0] ?_));refine ZI (Zm (l:=[0,1,2,3]) rfl ?_)
    iterate 2 refine Zv ?_
    obtain rfl:j=l.length:=by omega
    rw [List.take_length] at hw1 hi9
    have hcc:=ho1.caps
    refine WG rfl rfl rfl (.some (k:=i) rfl rfl) .none .none F.elem26 (by simp) (by simp only [Option.getD_none,Option.getD_some];omega) (by simp only [Option.getD_none,Option.getD_some];omega) (by simp) (show WP (some ⟨b,0,none⟩) 21 i l.length c=.slice (some ⟨b,0+i * 21,none⟩) (l.length-i) (c-i) from pieceV_in (by omega)) rfl ?_
    have hcut:OSl 25 21 (.slice (some ⟨b,0,none⟩) ((kept p l).map ZD.segs).length c) h1 ((kept p l).map ZD.segs):=(by have h9:=OSl.cut (k:=i) (ho1.aZ rfl) (by omega);rw [← List.map_take,hw1] at h9;exact h9.aZ rfl)
    have hkl:((kept p l).map ZD.segs).length=i:=by simp;omega
    refine X_clear_own rfl rfl rfl rfl rfl F.elem26 F.zero25 (Ve rfl) (flat_all (YF rfl (XC XA))) hcut (by repeat first|exact Rem.here _|exact Rem.two|apply Rem.skip|apply Rem.over) (by omega) (by omega) putE_none ?_;intro hs8 ho8
    refine Zo (Zn (Y_pk [5,4,0] ?_));refine ZI (Zm (l:=[0,1,2,3]) rfl ?_)
    iterate 2 refine Zv ?_
    refine WG rfl rfl rfl .none (.some (k:=i) rfl rfl) .none F.elem26 (by simp) (by simp only [Option.getD_none,Option.getD_some];omega) (by simp only [Option.getD_none,Option.getD_some];omega) (by simp) (show WP (some ⟨b,0,none⟩) 21 0 i c=.slice (some ⟨b,0,none⟩) i c from pieceV_zero) rfl ?_;refine ZB ?_;refine Zo (Zn (Y_pk [4] ?_));refine Yg ?_
    refine Ya (.inr rfl) (.tmp rfl .nil) (fun w hw=>?_)
    exact ⟨_,_,hs8++Hc,rfl,Mem.le.refl _,hw.c,rfl,hs8,rfl,ho8.aZ (by omega)⟩
theorem DeleteFP_ok (M:Mem) (Hc:Hp) (a:Option Addr) (c:Nat) (l:List ZD) (hs:Hp) (ho:OSl 25 21 (.slice a l.length c) hs (l.map ZD.segs)) (bl:l.length≤1000000) (g:FuncId) (caps:List Value) (p:ZD→Bool) (hok:okFn Tryz.prog g=true) (hc:∀ x:ZD,Fo Tryz.prog g ([x.enc]++caps) M Hc (fun M' v=>M'=M∧v=.bool (p x))):Fh Tryz.prog 140 [.slice a l.length c,.func (.func g) #[] caps.toArray] M (hs++Hc) (fun M' v Hout=>M'=M∧∃ hs',Hout=hs'++Hc∧OSl 25 21 v hs' ((kept p l).map ZD.segs)):=by
  by_cases h:idxF p l=-1
  ·exact DeleteFP_no M Hc a c l hs ho bl g caps p hok hc h
  ·obtain ⟨i0,h1,h2,h3,h4⟩:=idxF_some h
   obtain ⟨b,rfl⟩:=ho.someB (by omega)
   exact DeleteFP_yes M Hc b c l hs ho bl g caps p hok hc i0 h1 h2 h3
end Go.Proofs.YtajmnjefajknoaaGreat
namespace Go.Proofs.YtajmnjefajknoaaGreat
open Go.Esp
theorem F.ok106:okFn Tryz.prog 106=true:=by kernel_rfl
theorem F.ok139:okFn Tryz.prog 139=true:=by kernel_rfl
theorem F.ok140:okFn Tryz.prog 140=true:=by kernel_rfl
theorem gone_ok (M:Mem) (b:Nat) (a:Int) (p:ZD):Fo Tryz.prog 139 ([p.enc]++[.pointer (some ⟨b,0,none⟩)]) M [(b,rowO [.one (.int .i64 a)] 3)] (fun M' v=>M'=M∧v=.bool (decide (p.addr=a))):=by
  obtain ⟨Xc,p_id⟩:=p
  refine WT Tryz.func139 rfl Tryz.ntmps139 rfl ?_;intro H
  refine ZI (Zm (l:=[0,1]) rfl ?_)
  refine Xk ?_;intro b1
  refine ZB ?_;refine Zo (Zn (Y_pk [3,2,1] ?_));refine ZI (Zm (l:=[0,1,2,3,4]) rfl ?_);refine Zk F.foff25_0 ?_
  iterate 2 refine ZH F.lay3 ?_
  refine Yz ?_;refine ZB ?_;refine Zo (Zn (Y_pk [3] ?_));refine Yg ?_
  refine Ya (.inr rfl) (.tmp rfl .nil) (fun w hw=>?_)
  refine ⟨_,M,rfl,Mem.le.refl M,hw.c,rfl,?_⟩
  clear hw
  rfl
theorem Forget_ok (M:Mem) (t:ZL) (addr:Int) (ht0:ZL.ok M t) (hbig:t.succ.l.length≤40∧t.fingers.l.length≤200):Esp.Fn Tryz.prog 108 [t.enc,.int .i64 addr] M (fun M' v=>TabIs M' v (Wg t.tb addr)):=by
  obtain ⟨⟨ZZ,Yp⟩,⟨Yr,YE⟩,⟨Yu,Yt,ZW⟩,⟨Yc,Yb,ZJ⟩⟩:=t
  have YS:SlK M ZD.segs 21 ⟨Yu,Yt,ZW⟩:=ht0.h0
  have WQ:SlM M Yu (ZW.map ZD.segs) 21:=YS.h1
  have WR:(ZW.map ZD.segs).length=ZW.length:=List.length_map ..
  have WS:ZW.length≤9223372036854775807:=YS.h2
  have WU:ZW.length≤Yt:=YS.h3
  have Yw:SlK M ZD.segs 21 ⟨Yc,Yb,ZJ⟩:=ht0.h1
  have Wb:SlM M Yc (ZJ.map ZD.segs) 21:=Yw.h1
  have Wi:(ZJ.map ZD.segs).length=ZJ.length:=List.length_map ..
  have Wc:ZJ.length≤9223372036854775807:=Yw.h2
  have Wj:ZJ.length≤Yb:=Yw.h3
  simp only at hbig
  refine Wu Tryz.func108 rfl Tryz.ntmps108 rfl ?_;intro H
  refine ZI (Zm (l:=[0,1,2]) rfl ?_)
  refine Xk ?_;intro b1
  refine Xk ?_;intro b2
  refine YT F.zero28 ?_;intro b3
  refine Zo (Zn (Y_pk [4,3,2] ?_));refine ZI (Zm (l:=[0,1]) rfl ?_);refine X_makeFunc rfl rfl rfl rfl rfl ?_;refine ZB ?_;refine Zo (Zn (Y_pk [5,4,2] ?_))
  iterate 2 refine ZI ?_
  refine Zm (l:=[0,1,2,3]) rfl ?_;refine Zv ?_;refine Zk F.foff28_1 ?_;refine ZH F.lay25 ?_;refine X_foV rfl rfl rfl F.ok139 rfl rfl (gone_ok _ b2 addr ⟨Yr,YE⟩) (by repeat first|exact Rem.here _|exact Rem.two|apply Rem.skip|apply Rem.over) (YA rfl) ?_
  rintro _ M1 _ ⟨hM1,rfl⟩;subst M1
  refine Zo (Zn (Y_pk [12,5,4,2] ?_))
  refine Yx rfl (fun hc4=>?_) (fun hc4=>?_)
  ·replace hc4:=dT hc4
   simp only [ZD.eta,ZL.eta,ZO.eta,ZM.eta,Yd.eta,ZQ.eta,YI.eta,ZX.eta] at hc4
   refine Zm (l:=[0,1,2]) rfl ?_;refine X_fs rfl rfl F.ok66 rfl (WO _) rfl ?_
   rintro _ rfl
   refine WV 13 rfl (show _=aggV [.one (.int .i64 (-1)),Yq 0] from rfl) ?_;refine Zk F.foff28_1 ?_;refine Yi F.lay25 ?_;refine Zo (Zn (Y_pk [5,4,2] ?_));refine ZI (Zm (l:=[0,1,2,3,4,5,6]) rfl ?_);refine Zk F.foff28_2 ?_;refine ZH F.lay26 ?_;refine VU rfl rfl F.ok106 rfl (CloneP_ok M Yu Yt ZW YS (by omega)) (by repeat first|exact Rem.here _|exact Rem.two|apply Rem.skip|apply Rem.over) (fun _ _ _ hm hw=>(hw.lower (by exact hm)).c) (YA rfl) ?_
   rintro v8 M1 hs8 hm1 ⟨hM1,ho8⟩;subst M1
   obtain ⟨ad8,cp8,rfl⟩:=ho8.valL
   refine Zv ?_;refine X_fhR2 rfl rfl F.ok140 rfl (DeleteFP_ok M [(b2,_)] ad8 cp8 ZW hs8 ho8 (by omega) 139 [_] (fun p=>decide (p.addr=addr)) F.ok139 (fun x=>gone_ok M b2 addr x)) (by repeat first|exact Rem.here _|exact Rem.two|apply Rem.skip|apply Rem.over) (by repeat first|exact Rem.here _|exact Rem.two|apply Rem.skip|apply Rem.over) (by rintro v M9 _ w hm ⟨rfl,hs9,rfl,_⟩ hw;exact hw.c) (YA rfl) ?_
   rintro v9 M1 _ hm1 ⟨hM1,hs9,rfl,ho9⟩;subst M1
   obtain ⟨ad9,cp9,rfl⟩:=ho9.valL
   simp only [List.append_assoc,List.cons_append,List.nil_append]
   refine Zk F.foff28_2 ?_;refine Yi F.lay26 ?_;refine Zo (Zn (Y_pk [5,4,2] ?_));refine ZI (Zm (l:=[0,1,2,3,4]) rfl ?_);refine Zk F.foff28_3 ?_;refine ZH F.lay26 ?_;refine VU rfl rfl F.ok106 rfl (CloneP_ok M Yc Yb ZJ Yw (by omega)) (by repeat first|exact Rem.here _|exact Rem.two|apply Rem.skip|apply Rem.over) (fun _ _ _ hm hw=>(hw.lower (by exact hm)).c) (YA rfl) ?_
   rintro v7 M1 hs7 hm1 ⟨hM1,ho7⟩;subst M1
   obtain ⟨ad7,cp7,rfl⟩:=ho7.valL
   refine Zk F.foff28_3 ?_;refine Yi F.lay26 ?_;refine Zo (Zn (Y_pk [5,4,2] ?_))
   iterate 2 refine ZI ?_
   refine Zm (l:=[0,1,2,3]) rfl ?_;refine Zk F.foff28_3 ?_;refine ZH F.lay26 ?_;refine YX F.elem26 ?_;refine Zv ?_;refine Zo (Zn (Y_pk [28,27,26,5,4,2] ?_));refine Xd (Y_pk [28,27,26,5,4,2] ?_);refine VH (Hin:=hs7) (.succ .zero) (by repeat first|exact Rem.here _|exact Rem.two|apply Rem.skip|apply Rem.over) (fun (k:Nat) M1 h1 z=>∃ (w:List ZD),M1=M∧z=[(28,.int .i64 (k:Int))]∧k≤ZJ.length∧w.length=ZJ.length∧w.take k=(ZJ.take k).map (gone1 addr)∧w.drop k=ZJ.drop k∧OSl 25 21 (.slice ad7 ZJ.length cp7) h1 (w.map ZD.segs)) (fun k=>ZJ.length-k) (0) (⟨ZJ,rfl,rfl,by omega,rfl,rfl,rfl,ho7⟩) ?_
   rintro k M1 h1 z hm1 ⟨w,hM1,rfl,hk,hwl,hw1,hw2,ho1⟩
   subst hM1
   have hnw:(w.map ZD.segs).length=w.length:=List.length_map ..
   refine ZI (Zm (l:=[0]) rfl ?_);refine Yz ?_;refine Zo (Zn (ZI ?_))
   refine Yx rfl (fun hc5=>?_) (fun hc5=>?_)
   ·replace hc5:=dT hc5
    refine Yv (Zn (ZI (Xd (ZI (Zm (l:=[0,1,2,3,4,5]) rfl ?_)))));refine Zv ?_;refine YR rfl rfl rfl rfl F.elem26 (by rfl) (by omega) (by exact OSl.plain (by assumption) (by (simp;omega))) rfl ?_;refine X_load_osl rfl rfl rfl (by assumption) (by repeat first|exact Rem.here _|exact Rem.two|apply Rem.skip|apply Rem.over) (by exact XW (by omega)) F.lay25 rfl rfl rfl ?_
    refine YT F.zero25 ?_;intro b6
    refine ZB ?_;refine Yi F.lay25 ?_;refine Zo (Zn (ZI (Zm (l:=[0,1,2]) rfl ?_)));refine Zv ?_;refine ZH F.lay25 ?_;refine X_foV rfl rfl rfl F.ok139 rfl rfl (gone_ok _ b2 addr w[k]) (by repeat first|exact Rem.here _|exact Rem.two|apply Rem.skip|apply Rem.over) (YA rfl) ?_
    rintro _ M1 _ ⟨hM1,rfl⟩;subst M1
    refine Zo (Zn ?_)
    refine Yx rfl (fun hc7=>?_) (fun hc7=>?_)
    ·replace hc7:=dT hc7
     refine Yy (l:=[0,1,2,3,4,5]) #[0,1,0,0,15,31] _ rfl (by kernel_rfl) (by kernel_rfl) St.drawn (fun _ h=>h) ?_;refine Zk F.foff28_3 ?_;refine ZH F.lay26 ?_;refine Zv ?_;refine X_fs rfl rfl F.ok66 rfl (WO _) rfl ?_
     rintro _ rfl
     refine WV 39 rfl (show _=aggV [.one (.int .i64 (-1)),Yq 0] from rfl) ?_;refine YR rfl rfl rfl rfl F.elem26 (by rfl) (by omega) (by exact OSl.plain (by assumption) (by (simp;omega))) rfl ?_
     obtain ⟨b6,rfl⟩:=ho1.someB (by omega)
     refine X_storeO (b:=b6) (j:=k) rfl rfl rfl rfl (by constructor) (YF rfl (XC XA)) F.lay25 rfl rfl ho1 (by repeat first|exact Rem.here _|exact Rem.two|apply Rem.skip|apply Rem.over) (by omega) ?_;intro hs6 ho6
     replace ho6:OSl 25 21 (.slice (some ⟨b6,0,none⟩) ZJ.length cp7) hs6 ((w.set k YW).map ZD.segs):=by rw [List.map_set];exact ho6.aZ (by simp;omega)
     refine Zo (XV (Zn (Zm (l:=[0,1]) rfl ?_)));refine XN rfl rfl rfl rfl rfl (by exact Xn (by decide) (by omega)) rfl ?_;refine Zv ?_;refine Zo ?_;refine Wq (a':=[(28,_)]) (k+1) (hs6) (.cons (k:=28) rfl (.cons (k:=27) rfl (.cons (k:=26) rfl (.cons (k:=5) rfl (.cons (k:=4) rfl (.cons (k:=2) rfl (.nil))))))) (by exact Mem.le.refl _) (fun w hw=>by first|exact hw|exact hw.c) ?_ ?_
     ·have hd9:=drop_at hwl (by omega:k<ZJ.length) hw2
      obtain ⟨e1,e2,e3⟩:=turn_step (f:=gone1 addr) (x:=YW) hwl (by omega:k<ZJ.length) hw1 hw2 (by unfold gone1;rw [if_pos (by rw [← hd9];assumption)])
      exact ⟨w.set k YW,rfl,rfl,by omega,e1,e2,e3,ho6⟩
     ·omega
    ·replace hc7:=dF hc7
     refine Yv (XV (Zn (Zm (l:=[0,1]) rfl ?_)));refine XN rfl rfl rfl rfl rfl (by exact Xn (by decide) (by omega)) rfl ?_;refine Zv ?_;refine Zo ?_;refine Wq (a':=[(28,_)]) (k+1) (h1) (.cons (k:=28) rfl (.cons (k:=27) rfl (.cons (k:=26) rfl (.cons (k:=5) rfl (.cons (k:=4) rfl (.cons (k:=2) rfl (.nil))))))) (by exact Mem.le.refl _) (fun w hw=>by first|exact hw|exact hw.c) ?_ ?_
     ·have hd9:=drop_at hwl (by omega:k<ZJ.length) hw2
      obtain ⟨e2,e3⟩:=turn_stay (f:=gone1 addr) hwl (by omega:k<ZJ.length) hw1 hw2 (by unfold gone1;rw [if_neg (by rw [← hd9];assumption)])
      exact ⟨w,rfl,rfl,by omega,hwl,e2,e3,ho1⟩
     ·omega
   ·replace hc5:=dF hc5
    refine XS ?_
    iterate 2 refine XM ?_
    refine Wl (Zn (Y_pk [4,2] ?_));refine ZI (Zm (l:=[0,1]) rfl ?_);refine ZH F.lay28 ?_;refine Yi F.lay28 ?_;refine Zo (Zn (Y_pk [4] ?_));refine Yg ?_
    refine Ya (.inr rfl) (.cell rfl (by repeat first|exact List.Mem.head _|refine List.Mem.tail _ ?_|refine List.mem_append_right _ ?_) F.lay28 rfl rfl .nil) (fun w hw=>?_)
    obtain rfl:k=ZJ.length:=by omega
    rw [List.take_length,List.take_of_length_le (by omega)] at hw1
    subst hw1
    obtain ⟨M9,s1,g1,g2,g3,g4,g5⟩:=OSl.freezeK (f:=ZD.segs) (H:=h1++H) ho9 (hw.c)
    obtain ⟨M8,s2,j1,j2,j3,j4,j5⟩:=OSl.freezeK (f:=ZD.segs) ho1 g2
    exact ⟨_,M8,rfl,g1.trans j1,j2,WA g3 j3 (g5.mono j1) j5 (by rw [g4,j4,kept_ne];unfold Wg ZL.tb;simp only;rw [if_pos (by assumption)];rfl)⟩
  ·replace hc4:=dF hc4
   simp only [ZD.eta,ZL.eta,ZO.eta,ZM.eta,Yd.eta,ZQ.eta,YI.eta,ZX.eta] at hc4
   refine Yv (Zn (Y_pk [5,4,2] ?_));refine ZI (Zm (l:=[0,1,2,3,4,5,6]) rfl ?_);refine Zk F.foff28_2 ?_;refine ZH F.lay26 ?_;refine VU rfl rfl F.ok106 rfl (CloneP_ok M Yu Yt ZW YS (by omega)) (by repeat first|exact Rem.here _|exact Rem.two|apply Rem.skip|apply Rem.over) (fun _ _ _ hm hw=>(hw.lower (by exact hm)).c) (YA rfl) ?_
   rintro v8 M1 hs8 hm1 ⟨hM1,ho8⟩;subst M1
   obtain ⟨ad8,cp8,rfl⟩:=ho8.valL
   refine Zv ?_;refine X_fhR2 rfl rfl F.ok140 rfl (DeleteFP_ok M [(b2,_)] ad8 cp8 ZW hs8 ho8 (by omega) 139 [_] (fun p=>decide (p.addr=addr)) F.ok139 (fun x=>gone_ok M b2 addr x)) (by repeat first|exact Rem.here _|exact Rem.two|apply Rem.skip|apply Rem.over) (by repeat first|exact Rem.here _|exact Rem.two|apply Rem.skip|apply Rem.over) (by rintro v M9 _ w hm ⟨rfl,hs9,rfl,_⟩ hw;exact hw.c) (YA rfl) ?_
   rintro v9 M1 _ hm1 ⟨hM1,hs9,rfl,ho9⟩;subst M1
   obtain ⟨ad9,cp9,rfl⟩:=ho9.valL
   simp only [List.append_assoc,List.cons_append,List.nil_append]
   refine Zk F.foff28_2 ?_;refine Yi F.lay26 ?_;refine Zo (Zn (Y_pk [5,4,2] ?_));refine ZI (Zm (l:=[0,1,2,3,4]) rfl ?_);refine Zk F.foff28_3 ?_;refine ZH F.lay26 ?_;refine VU rfl rfl F.ok106 rfl (CloneP_ok M Yc Yb ZJ Yw (by omega)) (by repeat first|exact Rem.here _|exact Rem.two|apply Rem.skip|apply Rem.over) (fun _ _ _ hm hw=>(hw.lower (by exact hm)).c) (YA rfl) ?_
   rintro v7 M1 hs7 hm1 ⟨hM1,ho7⟩;subst M1
   obtain ⟨ad7,cp7,rfl⟩:=ho7.valL
   refine Zk F.foff28_3 ?_;refine Yi F.lay26 ?_;refine Zo (Zn (Y_pk [5,4,2] ?_))
   iterate 2 refine ZI ?_
   refine Zm (l:=[0,1,2,3]) rfl ?_;refine Zk F.foff28_3 ?_;refine ZH F.lay26 ?_;refine YX F.elem26 ?_;refine Zv ?_;refine Zo (Zn (Y_pk [28,27,26,5,4,2] ?_));refine Xd (Y_pk [28,27,26,5,4,2] ?_);refine VH (Hin:=hs7) (.succ .zero) (by repeat first|exact Rem.here _|exact Rem.two|apply Rem.skip|apply Rem.over) (fun (k:Nat) M1 h1 z=>∃ (w:List ZD),M1=M∧z=[(28,.int .i64 (k:Int))]∧k≤ZJ.length∧w.length=ZJ.length∧w.take k=(ZJ.take k).map (gone1 addr)∧w.drop k=ZJ.drop k∧OSl 25 21 (.slice ad7 ZJ.length cp7) h1 (w.map ZD.segs)) (fun k=>ZJ.length-k) (0) (⟨ZJ,rfl,rfl,by omega,rfl,rfl,rfl,ho7⟩) ?_
   rintro k M1 h1 z hm1 ⟨w,hM1,rfl,hk,hwl,hw1,hw2,ho1⟩
   subst hM1
   have hnw:(w.map ZD.segs).length=w.length:=List.length_map ..
   refine ZI (Zm (l:=[0]) rfl ?_);refine Yz ?_;refine Zo (Zn (ZI ?_))
   refine Yx rfl (fun hc8=>?_) (fun hc8=>?_)
   ·replace hc8:=dT hc8
    refine Yv (Zn (ZI (Xd (ZI (Zm (l:=[0,1,2,3,4,5]) rfl ?_)))));refine Zv ?_;refine YR rfl rfl rfl rfl F.elem26 (by rfl) (by omega) (by exact OSl.plain (by assumption) (by (simp;omega))) rfl ?_;refine X_load_osl rfl rfl rfl (by assumption) (by repeat first|exact Rem.here _|exact Rem.two|apply Rem.skip|apply Rem.over) (by exact XW (by omega)) F.lay25 rfl rfl rfl ?_
    refine YT F.zero25 ?_;intro b9
    refine ZB ?_;refine Yi F.lay25 ?_;refine Zo (Zn (ZI (Zm (l:=[0,1,2]) rfl ?_)));refine Zv ?_;refine ZH F.lay25 ?_;refine X_foV rfl rfl rfl F.ok139 rfl rfl (gone_ok _ b2 addr w[k]) (by repeat first|exact Rem.here _|exact Rem.two|apply Rem.skip|apply Rem.over) (YA rfl) ?_
    rintro _ M1 _ ⟨hM1,rfl⟩;subst M1
    refine Zo (Zn ?_)
    refine Yx rfl (fun hc10=>?_) (fun hc10=>?_)
    ·replace hc10:=dT hc10
     refine Yy (l:=[0,1,2,3,4,5]) #[0,1,0,0,15,31] _ rfl (by kernel_rfl) (by kernel_rfl) St.drawn (fun _ h=>h) ?_;refine Zk F.foff28_3 ?_;refine ZH F.lay26 ?_;refine Zv ?_;refine X_fs rfl rfl F.ok66 rfl (WO _) rfl ?_
     rintro _ rfl
     refine WV 39 rfl (show _=aggV [.one (.int .i64 (-1)),Yq 0] from rfl) ?_;refine YR rfl rfl rfl rfl F.elem26 (by rfl) (by omega) (by exact OSl.plain (by assumption) (by (simp;omega))) rfl ?_
     obtain ⟨b6,rfl⟩:=ho1.someB (by omega)
     refine X_storeO (b:=b6) (j:=k) rfl rfl rfl rfl (by constructor) (YF rfl (XC XA)) F.lay25 rfl rfl ho1 (by repeat first|exact Rem.here _|exact Rem.two|apply Rem.skip|apply Rem.over) (by omega) ?_;intro hs6 ho6
     replace ho6:OSl 25 21 (.slice (some ⟨b6,0,none⟩) ZJ.length cp7) hs6 ((w.set k YW).map ZD.segs):=by rw [List.map_set];exact ho6.aZ (by simp;omega)
     refine Zo (XV (Zn (Zm (l:=[0,1]) rfl ?_)));refine XN rfl rfl rfl rfl rfl (by exact Xn (by decide) (by omega)) rfl ?_;refine Zv ?_;refine Zo ?_;refine Wq (a':=[(28,_)]) (k+1) (hs6) (.cons (k:=28) rfl (.cons (k:=27) rfl (.cons (k:=26) rfl (.cons (k:=5) rfl (.cons (k:=4) rfl (.cons (k:=2) rfl (.nil))))))) (by exact Mem.le.refl _) (fun w hw=>by first|exact hw|exact hw.c) ?_ ?_
     ·have hd9:=drop_at hwl (by omega:k<ZJ.length) hw2
      obtain ⟨e1,e2,e3⟩:=turn_step (f:=gone1 addr) (x:=YW) hwl (by omega:k<ZJ.length) hw1 hw2 (by unfold gone1;rw [if_pos (by rw [← hd9];assumption)])
      exact ⟨w.set k YW,rfl,rfl,by omega,e1,e2,e3,ho6⟩
     ·omega
    ·replace hc10:=dF hc10
     refine Yv (XV (Zn (Zm (l:=[0,1]) rfl ?_)));refine XN rfl rfl rfl rfl rfl (by exact Xn (by decide) (by omega)) rfl ?_;refine Zv ?_;refine Zo ?_;refine Wq (a':=[(28,_)]) (k+1) (h1) (.cons (k:=28) rfl (.cons (k:=27) rfl (.cons (k:=26) rfl (.cons (k:=5) rfl (.cons (k:=4) rfl (.cons (k:=2) rfl (.nil))))))) (by exact Mem.le.refl _) (fun w hw=>by first|exact hw|exact hw.c) ?_ ?_
     ·have hd9:=drop_at hwl (by omega:k<ZJ.length) hw2
      obtain ⟨e2,e3⟩:=turn_stay (f:=gone1 addr) hwl (by omega:k<ZJ.length) hw1 hw2 (by unfold gone1;rw [if_neg (by rw [← hd9];assumption)])
      exact ⟨w,rfl,rfl,by omega,hwl,e2,e3,ho1⟩
     ·omega
   ·replace hc8:=dF hc8
    refine XS ?_
    iterate 2 refine XM ?_
    refine Wl (Zn (Y_pk [4,2] ?_));refine ZI (Zm (l:=[0,1]) rfl ?_);refine ZH F.lay28 ?_;refine Yi F.lay28 ?_;refine Zo (Zn (Y_pk [4] ?_));refine Yg ?_
    refine Ya (.inr rfl) (.cell rfl (by repeat first|exact List.Mem.head _|refine List.Mem.tail _ ?_|refine List.mem_append_right _ ?_) F.lay28 rfl rfl .nil) (fun w hw=>?_)
    obtain rfl:k=ZJ.length:=by omega
    rw [List.take_length,List.take_of_length_le (by omega)] at hw1
    subst hw1
    obtain ⟨M9,s1,g1,g2,g3,g4,g5⟩:=OSl.freezeK (f:=ZD.segs) (H:=h1++H) ho9 (hw.c)
    obtain ⟨M8,s2,j1,j2,j3,j4,j5⟩:=OSl.freezeK (f:=ZD.segs) ho1 g2
    exact ⟨_,M8,rfl,g1.trans j1,j2,WA g3 j3 (g5.mono j1) j5 (by rw [g4,j4,kept_ne];unfold Wg ZL.tb;simp only;rw [if_neg (by assumption)];rfl)⟩
end Go.Proofs.YtajmnjefajknoaaGreat
namespace Go.Proofs.YtajmnjefajknoaaGreat
open Go.Esp
theorem F.ok62:okFn Tryz.prog 62=true:=by kernel_rfl
theorem Done_ok (M:Mem) (t:ZL) (id:Plc) (ht0:ZL.ok M t):Fs Tryz.prog 19 [t.enc,aggV [Yq id]] M (fun v=>v= (ofPB (VN t.tb id))):=by
  obtain ⟨⟨ZZ,Yp⟩,⟨Yr,YE⟩,⟨Yu,Yt,ZW⟩,⟨Yc,Yb,ZJ⟩⟩:=t
  have YS:SlK M ZD.segs 21 ⟨Yu,Yt,ZW⟩:=ht0.h0
  have WQ:SlM M Yu (ZW.map ZD.segs) 21:=YS.h1
  have WR:(ZW.map ZD.segs).length=ZW.length:=List.length_map ..
  have WS:ZW.length≤9223372036854775807:=YS.h2
  have WU:ZW.length≤Yt:=YS.h3
  have Yw:SlK M ZD.segs 21 ⟨Yc,Yb,ZJ⟩:=ht0.h1
  have Wb:SlM M Yc (ZJ.map ZD.segs) 21:=Yw.h1
  have Wi:(ZJ.map ZD.segs).length=ZJ.length:=List.length_map ..
  have Wc:ZJ.length≤9223372036854775807:=Yw.h2
  have Wj:ZJ.length≤Yb:=Yw.h3
  refine Xm Tryz.func19 rfl Tryz.ntmps19 rfl ?_;intro H
  refine ZI (Zm (l:=[0,1,2,3]) rfl ?_)
  refine Xk ?_;intro b1
  refine Xk ?_;intro b2
  refine YT F.zero25 ?_;intro b3
  refine ZB ?_;refine Zo (Zn (Y_pk [5,4,3,2] ?_));refine ZI (Zm (l:=[0,1,2,3]) rfl ?_);refine ZH F.lay28 ?_;refine X_fs rfl rfl F.ok41 rfl (Vt _ ⟨⟨_,_⟩,⟨_,_⟩,⟨_,_,_⟩,⟨_,_,_⟩⟩ (by assumption)) rfl ?_
  rintro _ rfl
  refine YT F.zero25 ?_;intro b4
  refine Yi F.lay25 ?_;refine Zo (Zn (Y_pk [6,5,4,3,2] ?_));refine ZI (Yy (l:=[0,1,2,3,4,5,6,7,8,9]) #[0,0,2,6,0,0,32,126,255,511] _ rfl (by kernel_rfl) (by kernel_rfl) St.drawn (fun _ h=>h) ?_);refine ZH F.lay25 ?_;refine Zk F.foff28_0 ?_;refine Zk F.foff25_1 ?_
  iterate 2 refine ZH F.lay23 ?_
  refine Zk F.foff25_1 ?_;refine ZH F.lay23 ?_;refine X_fs rfl rfl F.ok62 rfl (Half_ok _ _ _ _) rfl ?_
  rintro _ rfl
  refine Yi F.lay25 ?_;refine ZB ?_;refine Zo (Zn (Y_pk [5,4] ?_));refine Yg ?_
  refine Ya (.inr rfl) (.cell rfl (by repeat first|exact List.Mem.head _|refine List.Mem.tail _ ?_|refine List.mem_append_right _ ?_) F.lay25 rfl rfl (.tmp rfl .nil)) (fun w hw=>?_)
  refine ⟨_,rfl,(hw.c),?_⟩
  clear hw
  rfl
end Go.Proofs.YtajmnjefajknoaaGreat
namespace Go.Esp
theorem K_endM0 {P:Program} {e:Env} {M:Mem} {H:Hp} {n:Nat} {fn:Func} {R:Ending→World→Prop} {x:Exit} {vs:List Value} (hx:x=.normal∨x=.ret) (hr:Res P e H fn.results.toList vs) (h:∀ w,St M H w→R (.returned (resV vs)) w) :
    K ⟨n,[],none,[]⟩ (bodyPostM (Fr none) 0 P fn R) x (St M H) e:=K_endM (Ds:=[]) (Hd:=[]) hx hr (fun _ hw=>hw) (by simp) (by simp) h
section
variable {P:Program} {n:Sh} {Q:Exit→Act→World→Prop} {M:Mem} {H H0:Hp} {e:Env} {x:Exit} {c:Code}
theorem OSl.frz {α:Type} {T sz k cp:Nat} {f:α→Segs} {l:List α} {ad:Option Addr} {hs:Hp} (ho:OSl T sz (.slice ad k cp) hs (l.map f)) {w:World} (hw:St M (hs++H) w):∃ M',M.le M'∧St M' H w∧SlK M' f sz ⟨ad,cp,l⟩:=by
  obtain ⟨M',⟨a',c',l'⟩,h1,h2,h3,h4,h5⟩:=ho.freezeK hw
  simp only [Sl.val,Value.slice.injEq] at h3
  obtain ⟨rfl,_,rfl⟩:=h3
  simp only at h4
  subst h4
  exact ⟨M',h1,h2,h5⟩
theorem C_frz {α:Type} {T sz k cp:Nat} {f:α→Segs} {l:List α} {ad:Option Addr} {hs:Hp} (ho:OSl T sz (.slice ad k cp) hs (l.map f)) (hR:Rem hs H H0) (h:∀ M',M.le M'→SlK M' f sz ⟨ad,cp,l⟩→C P n c Q (St M' H0) e):C P n c Q (St M H) e:=by
  intro a w ha hw
  obtain ⟨M',h1,h2,h3⟩:=ho.frz (hw.perm hR.perm)
  exact h M' h1 h3 a w ha h2
end
def PsIs (M:Mem) (v:Value) (l:List ZD):Prop:=∃ s:Sl ZD,v=s.val∧s.l=l∧SlK M ZD.segs 21 s
theorem foldl_take {α β:Type} {f:β→α→β} {b:β} {l:List α} {k:Nat} (hk:k<l.length):(l.take (k+1)).foldl f b=f ((l.take k).foldl f b) l[k]:=by
  rw [List.take_add_one,List.getElem?_eq_getElem hk,List.foldl_append];rfl
def ptW {α:Type} (l:List α) (k j:Nat) (f:α):List α:=l.take k++List.replicate (j-k) f++l.drop j
theorem ptW_len {α:Type} {l:List α} {k j:Nat} {f:α} (hk:k≤j) (hj:j≤l.length):(ptW l k j f).length=l.length:=by
  unfold ptW;simp only [List.length_append,List.length_take,List.length_replicate,List.length_drop];omega
theorem ptW_start {α:Type} {l:List α} {k:Nat} {f:α}:ptW l k k f=l:=by
  unfold ptW;simp
theorem ptW_set {α:Type} {l:List α} {k j:Nat} {f:α} (hk:k≤j) (hj:j<l.length):(ptW l k j f).set j f=ptW l k (j+1) f:=by
  unfold ptW
  have hl:(l.take k++List.replicate (j-k) f).length=j:=by simp only [List.length_append,List.length_take,List.length_replicate];omega
  rw [List.set_append,if_neg (by omega),hl,Nat.sub_self,List.drop_eq_getElem_cons hj,List.set_cons_zero,show j+1-k=(j-k)+1 by omega,List.replicate_succ',← List.append_assoc,List.append_assoc (l.take k++List.replicate (j-k) f)]
  rfl
theorem pointEnd_go {s p:ZD} {k j:Nat} (hj:j<160) (h:¬(k<j∧inArc s p j=false)):WL s p k j (160-j)=WL s p k (j+1) (160-(j+1)):=by
  rw [show 160-j=(160-(j+1))+1 by omega]
  conv=>lhs;unfold WL
  rw [if_neg h]
theorem pointEnd_stop {s p:ZD} {k j:Nat} (hj:j<160) (h1:k<j) (h2:inArc s p j=false):WL s p k j (160-j)=j:=by
  rw [show 160-j=(160-(j+1))+1 by omega]
  unfold WL
  rw [if_pos ⟨h1,h2⟩]
theorem pointT_at {t:Tb} {k j:Nat} {p:ZD} (h1:IsTb t) (hk:k<160) (hp:p=t.self∨Xr t.self p) (he:WL t.self p k k (160-k)=j) :
    WZ t k p=({ t with fingers:=ptW t.fingers k j (fingerOf t p) },if j=160 then 0 else (j:Int),0):=by
  unfold WZ
  rw [if_pos ⟨h1,by omega,hp⟩]
  simp only [Int.toNat_natCast]
  rw [he]
  rfl
theorem pointT_is {t:Tb} {k j:Nat} {p f:ZD} {n:Int} (h1:IsTb t) (hk:k<160) (hp:p=t.self∨Xr t.self p) (he:WL t.self p k k (160-k)=j) (hf:fingerOf t p=f) (hn:(if j=160 then 0 else (j:Int))=n) :
    WZ t k p=({ t with fingers:=ptW t.fingers k j f },n,0):=by
  rw [pointT_at h1 hk hp he,hf,hn]
theorem pointT_no {t:Tb} {k:Int} {p:ZD} (h:¬(IsTb t∧(0≤k∧k<160)∧(p=t.self∨Xr t.self p))):WZ t k p=(Tb.zero,0,1):=if_neg h
def TabPE (M:Mem) (v:Value) (r:Tb×Int×Int):Prop:=∃ u,v=.tuple #[u,.int .i64 r.2.1,.int .i64 r.2.2]∧TabIs M u r.1
def Vp (s:Plc) (k:Nat):List (Nat×Plc):=(List.range' k (160-k)).map fun j=>(j,s+powP j)
theorem startsL_at {s:Plc} {k j:Nat} (hj:k≤j) (h:j<160):Vp s k=((List.range' k (j-k)).map fun j=>(j,s+powP j))++(j,s+powP j)::Vp s (j+1):=by
  unfold Vp
  rw [show 160-k=(j-k)+((160-(j+1))+1) by omega,← List.range'_append_1,List.map_append,show k+(j-k)=j by omega,List.range'_succ]
  rfl
theorem startsL_pre {s:Plc} {k j:Nat} (hj:k≤j):(((List.range' k (j+1-k)).map fun j=>(j,s+powP j)):List (Nat×Plc))=((List.range' k (j-k)).map fun j=>(j,s+powP j))++[(j,s+powP j)]:=by
  rw [show j+1-k=(j-k)+1 by omega,List.range'_1_concat,List.map_append,show k+(j-k)=j by omega]
  rfl
theorem startsL_split {s:Plc} {k:Nat} {pre post:List (Nat×Plc)} {x:Nat×Plc} (hx:Vp s k=pre++x::post):k+pre.length<160∧x=(k+pre.length,s+powP (k+pre.length)):=by
  have hl:=congrArg List.length hx
  unfold Vp at hl hx
  simp only [List.length_map,List.length_range',List.length_append,List.length_cons] at hl
  have hg:=congrArg (fun l=>l[pre.length]?) hx
  simp only [List.getElem?_map,List.getElem?_append_right (Nat.le_refl _),Nat.sub_self,List.getElem?_cons_zero] at hg
  rw [List.getElem?_range' (by omega)] at hg
  simp only [Option.map_some,Option.some.injEq,Nat.one_mul] at hg
  exact ⟨by omega,hg.symm⟩
end Go.Esp
namespace Go.Proofs.YtajmnjefajknoaaGreat
open Go.Esp
end Go.Proofs.YtajmnjefajknoaaGreat
namespace Go.Proofs.YtajmnjefajknoaaGreat
open Go.Esp
theorem F.lay36:lay Tryz.prog 36=some (false,1):=by kernel_rfl
theorem F.ok144:okFn Tryz.prog 144=true:=by kernel_rfl
theorem F.ok153:okFn Tryz.prog 153=true:=by kernel_rfl
theorem F.ok85:okFn Tryz.prog 85=true:=by kernel_rfl
theorem F.ok86:okFn Tryz.prog 86=true:=by kernel_rfl
theorem F.zero3:Wa Tryz.prog 3=some ((.int .i64 0)):=by kernel_rfl
theorem F.zero36:Wa Tryz.prog 36=some ((.int .i64 0)):=by kernel_rfl
theorem starts_ok (M:Mem) (sa:Int) (si:Plc) (pa:Int) (pi:Plc) (a1:Option Addr) (n1 c1:Nat) (a2:Option Addr) (n2 c2:Nat) (k:Int):Esp.Fn Tryz.prog 144 [aggV [.one (.int .i64 sa),Yq si,.one (.int .i64 pa),Yq pi,.one (.slice a1 n1 c1),.one (.slice a2 n2 c2)],.int .i64 k] M (fun M' v=>∃ q1 q2,v=.func (.func 153) #[] #[.pointer (some ⟨q1,0,none⟩),.pointer (some ⟨q2,0,none⟩)]∧M' q1=some (rowO [.one (.int .i64 k)] 3)∧M' q2=some (rowO [.one (.int .i64 sa),Yq si,.one (.int .i64 pa),Yq pi,.one (.slice a1 n1 c1),.one (.slice a2 n2 c2)] 28)):=by
  refine Wu Tryz.func144 rfl Tryz.ntmps144 rfl ?_;intro H
  refine ZI (Zm (l:=[0,1,2]) rfl ?_)
  refine Xk ?_;intro b1
  refine Xk ?_;intro b2
  refine ZB ?_;refine Zo (Zn (Y_pk [4,3,2] ?_));refine ZI (Zm (l:=[0,1]) rfl ?_);refine X_makeFunc rfl rfl rfl rfl rfl ?_;refine ZB ?_;refine Zo (Zn (Y_pk [4] ?_));refine Yg ?_
  refine Ya (.inr rfl) (.tmp rfl .nil) (fun w hw=>?_)
  obtain ⟨g1,g2⟩:=hw.freeze
  obtain ⟨g3,g4⟩:=g2.freeze
  exact ⟨_,_,rfl,g1.trans g3,g4,_,_,rfl,Mem.get_of (Mem.add_self _ _ _) g3,Mem.add_self _ _ _⟩
theorem starts_seq (M:Mem) (sa:Int) (si:Plc) (pa:Int) (pi:Plc) (a1:Option Addr) (n1 c1:Nat) (a2:Option Addr) (n2 c2:Nat) (kn:Nat) (hkn:kn<160) (q1 q2:Nat) (h1:M q1=some (rowO [.one (.int .i64 (kn:Int))] 3)) (h2:M q2=some (rowO [.one (.int .i64 sa),Yq si,.one (.int .i64 pa),Yq pi,.one (.slice a1 n1 c1),.one (.slice a2 n2 c2)] 28)):Seqs Tryz.prog 153 [.pointer (some ⟨q1,0,none⟩),.pointer (some ⟨q2,0,none⟩)] (fun x:Nat×Plc=>[.int .i64 (x.1:Int),aggV [Yq x.2]]) (Vp si kn) M []:=by
  intro lp J Jx hR M0 Jb G w hm0 hJ hw
  refine enter (S:=St M0 (Jb++G)) Tryz.func153 rfl Tryz.ntmps153 rfl hw ?_;refine ZI (Zm (l:=[0,1]) rfl ?_);refine X_load_mem rfl rfl rfl (by exact Mem.get_of (by assumption) (by repeat first|assumption|refine Mem.le.trans (by assumption) ?_)) F.lay3 rfl rfl rfl ?_;refine ZB ?_;refine Zo (Zn (Y_pk [4,0,2] ?_));refine Xd (Y_pk [4,0,2] ?_);refine VH (Hin:=Jb) (.succ .zero) (by repeat first|exact Rem.here _|exact Rem.two|apply Rem.skip|apply Rem.over) (fun (k:Nat) M9 h1 z=>z=[(4,.int .i64 (k:Int))]∧kn≤k∧k≤160∧J ((List.range' kn (k-kn)).map fun j=>(j,si+powP j)) M9 h1) (fun k=>160-k) (kn) (⟨rfl,by omega,by omega,by rw [Nat.sub_self];exact hJ⟩) ?_
  rintro k M1 h1 z hm1 ⟨rfl,hk1,hk,hJ1⟩
  iterate 2 refine ZI ?_
  refine Zm (l:=[0,1]) rfl ?_;refine Zv ?_;refine Yz ?_;refine Zo (Zn ?_)
  refine Yx rfl (fun hc1=>?_) (fun hc1=>?_)
  ·replace hc1:=dT hc1
   refine Yv (Zn (ZI (Xd (ZI (Zm (l:=[0,1,2,3,4,5,6,7]) rfl ?_)))));refine Zv ?_;refine X_fs rfl rfl F.ok85 rfl (Power_ok_in _ k (by omega)) rfl ?_
   rintro _ rfl
   refine Zv ?_
   iterate 2 refine Xz ?_
   refine YT F.zero23 ?_;intro b2
   refine Yi F.lay23 ?_;refine ZB ?_;refine Zo (Zn (Y_pk [5,16,15,12,14,13,9,8,4,0,2] ?_));refine ZI (C_regionR (l:=[0,1,2,3,4,5,6,7,8]) (Hin:=h1) (by repeat first|exact Rem.here _|exact Rem.two|apply Rem.skip|apply Rem.over) rfl ?_)
   iterate 2 refine Zv ?_
   refine Zk F.foff28_0 ?_;refine Zk F.foff25_1 ?_;refine X_load_mem rfl rfl rfl (by exact Mem.get_of (by assumption) (by repeat first|assumption|refine Mem.le.trans (by assumption) ?_)) F.lay23 rfl rfl rfl ?_;refine ZH F.lay23 ?_;refine X_fs rfl rfl F.ok86 rfl (Plus_ok _ _ _) rfl ?_
   rintro _ rfl
   refine X_yield (x:=(k,si+powP k)) (pre:=((List.range' kn (k-kn)).map fun j=>(j,si+powP j))) (post:=Vp si (k+1)) (Hb:=h1) rfl rfl rfl rfl rfl hR (startsL_at (by omega) (by omega)) (hm0.trans hm1) hJ1 (by repeat first|exact Rem.here _|exact Rem.two|apply Rem.skip|apply Rem.over) rfl (fun _ _ _ hm hw=>(hw.lower hm).c) rfl ?_ ?_
   ·intro M2 Jb2 hm2 hJ2
    refine Xx ?_;refine Zo (Zn (Ws rfl ?_));refine Yv (XV (Zn (Zm (l:=[0,1,2]) rfl ?_)));refine Zv ?_;refine XN rfl rfl rfl rfl rfl (by exact Xn (by decide) (by omega)) rfl ?_;refine ZB ?_;refine Zo ?_;refine Wq (a':=[(4,_)]) (k+1) (Jb2) (.cons (k:=4) rfl (.cons (k:=0) rfl (.cons (k:=2) rfl (.nil)))) (hm1.trans hm2) (fun w hw=>by first|exact hw|exact hw.c) ?_ ?_
    ·exact ⟨rfl,by omega,by omega,by rw [startsL_pre (by omega)];exact hJ2⟩
    ·omega
   ·intro M2 Jb2 hm2 hJ2
    refine Xx ?_;refine Zo (Zn (Xe rfl ?_));refine Yg (Xi ?_)
    iterate 2 refine YG ?_
    refine Xi ?_
    refine Ya (.inr rfl) (.nil) (fun w hw=>?_)
    exact ⟨_,M2,Jb2,rfl,hm1.trans hm2,hw.c,.inr ⟨((List.range' kn (k-kn)).map fun j=>(j,si+powP j))++[(k,si+powP k)],Vp si (k+1),by rw [startsL_at (j:=k) (by omega) (by omega)];simp,hJ2⟩⟩
  ·replace hc1:=dF hc1
   refine XS ?_
   iterate 2 refine XM ?_
   refine Wl ?_
   refine Ya (.inl rfl) (.nil) (fun w hw=>?_)
   obtain rfl:k=160:=by omega
   exact ⟨_,M1,h1,rfl,hm1,hw.c,.inl hJ1⟩
theorem Point_ok (M:Mem) (t:ZL) (k:Int) (p:ZD) (ht0:ZL.ok M t):Esp.Fn Tryz.prog 125 [t.enc,.int .i64 k,p.enc] M (fun M' v=>TabPE M' v (WZ t.tb k p)):=by
  obtain ⟨⟨ZZ,Yp⟩,⟨Yr,YE⟩,⟨Yu,Yt,ZW⟩,⟨Yc,Yb,ZJ⟩⟩:=t
  obtain ⟨Xc,p_id⟩:=p
  have YS:SlK M ZD.segs 21 ⟨Yu,Yt,ZW⟩:=ht0.h0
  have WQ:SlM M Yu (ZW.map ZD.segs) 21:=YS.h1
  have WR:(ZW.map ZD.segs).length=ZW.length:=List.length_map ..
  have WS:ZW.length≤9223372036854775807:=YS.h2
  have WU:ZW.length≤Yt:=YS.h3
  have Yw:SlK M ZD.segs 21 ⟨Yc,Yb,ZJ⟩:=ht0.h1
  have Wb:SlM M Yc (ZJ.map ZD.segs) 21:=Yw.h1
  have Wi:(ZJ.map ZD.segs).length=ZJ.length:=List.length_map ..
  have Wc:ZJ.length≤9223372036854775807:=Yw.h2
  have Wj:ZJ.length≤Yb:=Yw.h3
  refine fnM_enter Tryz.func125 rfl Tryz.ntmps125 rfl ?_;intro H
  refine ZI (Zm (l:=[0,1,2,3,4,5]) rfl ?_)
  refine Xk ?_;intro b1
  refine Xk ?_;intro b2
  refine Xk ?_;intro b3
  refine YT F.zero28 ?_;intro b4
  refine YT F.zero3 ?_;intro b5
  refine YT F.zero36 ?_;intro b6
  refine Zo (Zn (Y_pk [8,7,6,5,4,3] ?_))
  iterate 2 refine ZI ?_
  refine Zm (l:=[0,1,2,3,4,5,6,7,8,9,10,11,12,13,14,15,16,17,18,19,20,21,22]) rfl ?_;refine ZH F.lay28 ?_;refine X_fs rfl rfl F.ok70 rfl (IsT_ok _ ⟨⟨_,_⟩,⟨_,_⟩,⟨_,_,_⟩,⟨_,_,_⟩⟩ (by assumption)) rfl ?_
  rintro _ rfl
  refine Xx ?_;refine Zv ?_
  refine Yh 15 rfl (fun hc7=>?_) (fun hc7=>?_)
  ·replace hc7:=nT hc7
   iterate 2 refine ZU ?_
   refine ZK ?_;refine Zv ?_
   iterate 2 refine ZU ?_
   refine ZK ?_;refine Zv ?_
   iterate 10 refine ZU ?_
   refine ZK ?_;refine Zo (Zn (Y_pk [34,8,7,6,5,4,3] ?_));refine Xe rfl ?_;refine ZI (Zm (l:=[0,1,2,3]) rfl ?_);refine Xg rfl rfl F.bld28 (.nil) rfl rfl ?_;refine Yi F.lay28 ?_;refine Yi F.lay3 ?_;refine Yi F.lay36 ?_;refine Zo (Zn (Y_pk [8,7,6,5,4,3] ?_));refine Yg (YG ?_)
   refine K_endM0 (.inr rfl) (.cell rfl (by repeat first|exact List.Mem.head _|refine List.Mem.tail _ ?_|refine List.mem_append_right _ ?_) F.lay28 rfl rfl (.cell rfl (by repeat first|exact List.Mem.head _|refine List.Mem.tail _ ?_|refine List.mem_append_right _ ?_) F.lay3 rfl rfl (.cell rfl (by repeat first|exact List.Mem.head _|refine List.Mem.tail _ ?_|refine List.mem_append_right _ ?_) F.lay36 rfl rfl .nil))) (fun w hw=>?_)
   refine ⟨_,M,rfl,Mem.le.refl M,hw.c,?_⟩
   rw [show WZ (ZL.tb ⟨⟨ZZ,Yp⟩,⟨Yr,YE⟩,⟨Yu,Yt,ZW⟩,⟨Yc,Yb,ZJ⟩⟩) k ⟨Xc,p_id⟩=(Tb.zero,0,1) from pointT_no (by rintro ⟨g1,⟨g2,g3⟩,g4⟩;first|exact absurd g1 (by assumption)|omega|(rcases g4 with g4|g4;exact absurd g4 (by assumption);exact absurd g4 (by assumption)))]
   exact ⟨_,rfl,WK⟩
  ·replace hc7:=nF hc7
   refine ZH F.lay3 ?_;refine Yz ?_;refine ZK ?_;refine Zv ?_
   refine Yh 19 rfl (fun hc8=>?_) (fun hc8=>?_)
   ·replace hc8:=dT hc8
    iterate 2 refine ZU ?_
    refine ZK ?_;refine Zv ?_
    iterate 10 refine ZU ?_
    refine ZK ?_;refine Zo (Zn (Y_pk [34,8,7,6,5,4,3] ?_));refine Xe rfl ?_;refine ZI (Zm (l:=[0,1,2,3]) rfl ?_);refine Xg rfl rfl F.bld28 (.nil) rfl rfl ?_;refine Yi F.lay28 ?_;refine Yi F.lay3 ?_;refine Yi F.lay36 ?_;refine Zo (Zn (Y_pk [8,7,6,5,4,3] ?_));refine Yg (YG ?_)
    refine K_endM0 (.inr rfl) (.cell rfl (by repeat first|exact List.Mem.head _|refine List.Mem.tail _ ?_|refine List.mem_append_right _ ?_) F.lay28 rfl rfl (.cell rfl (by repeat first|exact List.Mem.head _|refine List.Mem.tail _ ?_|refine List.mem_append_right _ ?_) F.lay3 rfl rfl (.cell rfl (by repeat first|exact List.Mem.head _|refine List.Mem.tail _ ?_|refine List.mem_append_right _ ?_) F.lay36 rfl rfl .nil))) (fun w hw=>?_)
    refine ⟨_,M,rfl,Mem.le.refl M,hw.c,?_⟩
    rw [show WZ (ZL.tb ⟨⟨ZZ,Yp⟩,⟨Yr,YE⟩,⟨Yu,Yt,ZW⟩,⟨Yc,Yb,ZJ⟩⟩) k ⟨Xc,p_id⟩=(Tb.zero,0,1) from pointT_no (by rintro ⟨g1,⟨g2,g3⟩,g4⟩;first|exact absurd g1 (by assumption)|omega|(rcases g4 with g4|g4;exact absurd g4 (by assumption);exact absurd g4 (by assumption)))]
    exact ⟨_,rfl,WK⟩
   ·replace hc8:=dF hc8
    refine ZH F.lay3 ?_;refine Yz ?_;refine ZK ?_;refine Zv ?_
    refine Yh 23 rfl (fun hc9=>?_) (fun hc9=>?_)
    ·replace hc9:=dT hc9
     iterate 10 refine ZU ?_
     refine ZK ?_;refine Zo (Zn (Y_pk [34,8,7,6,5,4,3] ?_));refine Xe rfl ?_;refine ZI (Zm (l:=[0,1,2,3]) rfl ?_);refine Xg rfl rfl F.bld28 (.nil) rfl rfl ?_;refine Yi F.lay28 ?_;refine Yi F.lay3 ?_;refine Yi F.lay36 ?_;refine Zo (Zn (Y_pk [8,7,6,5,4,3] ?_));refine Yg (YG ?_)
     refine K_endM0 (.inr rfl) (.cell rfl (by repeat first|exact List.Mem.head _|refine List.Mem.tail _ ?_|refine List.mem_append_right _ ?_) F.lay28 rfl rfl (.cell rfl (by repeat first|exact List.Mem.head _|refine List.Mem.tail _ ?_|refine List.mem_append_right _ ?_) F.lay3 rfl rfl (.cell rfl (by repeat first|exact List.Mem.head _|refine List.Mem.tail _ ?_|refine List.mem_append_right _ ?_) F.lay36 rfl rfl .nil))) (fun w hw=>?_)
     refine ⟨_,M,rfl,Mem.le.refl M,hw.c,?_⟩
     rw [show WZ (ZL.tb ⟨⟨ZZ,Yp⟩,⟨Yr,YE⟩,⟨Yu,Yt,ZW⟩,⟨Yc,Yb,ZJ⟩⟩) k ⟨Xc,p_id⟩=(Tb.zero,0,1) from pointT_no (by rintro ⟨g1,⟨g2,g3⟩,g4⟩;first|exact absurd g1 (by assumption)|omega|(rcases g4 with g4|g4;exact absurd g4 (by assumption);exact absurd g4 (by assumption)))]
     exact ⟨_,rfl,WK⟩
    ·replace hc9:=dF hc9
     refine ZH F.lay25 ?_;refine Zk F.foff28_0 ?_;refine ZH F.lay25 ?_
     refine Wf (m:=20) rfl rfl rfl rfl rfl (by constructor) (by constructor) F.lay25 F.kinds25 rfl F.guard25 (by exact Xf (⟨_,_⟩)) (by exact Xf (⟨_,_⟩)) rfl rfl rfl ?_;intro c10 he11
     replace he11:c10=true↔¬(Segs.cells _=Segs.cells _):=he11
     obtain rfl:=neD he11 (ZD.inj (x:=⟨_,_⟩) (y:=⟨_,_⟩));clear he11
     refine Zv ?_
     refine Yh 28 rfl (fun hc12=>?_) (fun hc12=>?_)
     ·replace hc12:=nT hc12
      refine ZH F.lay28 ?_;refine ZH F.lay25 ?_;refine X_fs rfl rfl F.ok118 rfl (other_ok _ ⟨⟨_,_⟩,⟨_,_⟩,⟨_,_,_⟩,⟨_,_,_⟩⟩ ⟨_,_⟩) rfl ?_
      rintro _ rfl
      refine Xx ?_
      iterate 2 refine ZK ?_
      refine Zo (Zn (Y_pk [34,8,7,6,5,4,3] ?_))
      refine Yx rfl (fun hc13=>?_) (fun hc13=>?_)
      ·replace hc13:=nT hc13
       simp only [ZD.eta,ZL.eta,ZO.eta,ZM.eta,Yd.eta,ZQ.eta,YI.eta,ZX.eta] at hc13
       refine ZI (Zm (l:=[0,1,2,3]) rfl ?_);refine Xg rfl rfl F.bld28 (.nil) rfl rfl ?_;refine Yi F.lay28 ?_;refine Yi F.lay3 ?_;refine Yi F.lay36 ?_;refine Zo (Zn (Y_pk [8,7,6,5,4,3] ?_));refine Yg (YG ?_)
       refine K_endM0 (.inr rfl) (.cell rfl (by repeat first|exact List.Mem.head _|refine List.Mem.tail _ ?_|refine List.mem_append_right _ ?_) F.lay28 rfl rfl (.cell rfl (by repeat first|exact List.Mem.head _|refine List.Mem.tail _ ?_|refine List.mem_append_right _ ?_) F.lay3 rfl rfl (.cell rfl (by repeat first|exact List.Mem.head _|refine List.Mem.tail _ ?_|refine List.mem_append_right _ ?_) F.lay36 rfl rfl .nil))) (fun w hw=>?_)
       refine ⟨_,M,rfl,Mem.le.refl M,hw.c,?_⟩
       rw [show WZ (ZL.tb ⟨⟨ZZ,Yp⟩,⟨Yr,YE⟩,⟨Yu,Yt,ZW⟩,⟨Yc,Yb,ZJ⟩⟩) k ⟨Xc,p_id⟩=(Tb.zero,0,1) from pointT_no (by rintro ⟨g1,⟨g2,g3⟩,g4⟩;first|exact absurd g1 (by assumption)|omega|(rcases g4 with g4|g4;exact absurd g4 (by assumption);exact absurd g4 (by assumption)))]
       exact ⟨_,rfl,WK⟩
      ·replace hc13:=nF hc13
       simp only [ZD.eta,ZL.eta,ZO.eta,ZM.eta,Yd.eta,ZQ.eta,YI.eta,ZX.eta] at hc13
       refine Yv (Zn (Y_pk [8,7,6,5,4,3] ?_));refine ZI (Zm (l:=[0,1,2]) rfl ?_)
       obtain ⟨kn,rfl⟩:∃ kn:Nat,k=kn:=⟨k.toNat,by omega⟩
       have hf160:ZJ.length=160:=(show IsTb (ZL.tb ⟨⟨ZZ,Yp⟩,⟨Yr,YE⟩,⟨Yu,Yt,ZW⟩,⟨Yc,Yb,ZJ⟩⟩) by assumption).2.2.2.1
       refine ZH F.lay25 ?_
       refine YT F.zero25 ?_;intro b14
       refine Yi F.lay25 ?_;refine Zo (Zn (Y_pk [9,8,7,6,5,4,3] ?_))
       iterate 2 refine ZI ?_
       refine Zm (l:=[0,1,2,3]) rfl ?_;refine ZH F.lay25 ?_;refine Zk F.foff28_0 ?_;refine ZH F.lay25 ?_
       refine Wf (m:=20) rfl rfl rfl rfl rfl (by constructor) (by constructor) F.lay25 F.kinds25 rfl F.guard25 (by exact Xf (⟨_,_⟩)) (by exact Xf (⟨_,_⟩)) rfl rfl rfl ?_;intro c15 he16
       replace he16:c15=true↔Segs.cells _=Segs.cells _:=he16
       obtain rfl:=eqD he16 (ZD.inj (x:=⟨_,_⟩) (y:=⟨_,_⟩));clear he16
       refine Zo (Zn (Y_pk [40,9,8,7,6,5,4,3] ?_))
       refine Yx rfl (fun hc17=>?_) (fun hc17=>?_)
       ·replace hc17:=dT hc17
        contradiction
       ·replace hc17:=dF hc17
        refine Yv (Zn (Y_pk [9,8,7,6,5,4,3] ?_));refine ZI (Zm (l:=[0,1,2,3,4]) rfl ?_);refine Zk F.foff28_3 ?_;refine ZH F.lay26 ?_;refine VU rfl rfl F.ok106 rfl (CloneP_ok M Yc Yb ZJ Yw (by omega)) (by repeat first|exact Rem.here _|exact Rem.two|apply Rem.skip|apply Rem.over) (fun _ _ _ hm hw=>(hw.lower (by exact hm)).c) (YA rfl) ?_
        rintro v8 M1 hs8 hm1 ⟨hM1,ho8⟩;subst M1
        obtain ⟨ad8,cp8,rfl⟩:=ho8.valL
        refine Zk F.foff28_3 ?_;refine Yi F.lay26 ?_;refine Zo (Zn (Y_pk [9,8,7,6,5,4,3] ?_))
        iterate 2 refine ZI ?_
        refine Zm (l:=[0,1,2]) rfl ?_;refine ZH F.lay28 ?_;refine ZH F.lay3 ?_;refine X_fn rfl rfl F.ok144 rfl (starts_ok M _ _ _ _ _ _ _ _ _ _ _) rfl ?_
        rintro _ M2 hm2 ⟨q1,q2,rfl,hq1,hq2⟩
        refine Zo (Zn (Y_pk [48,9,8,7,6,5,4,3] ?_));refine Xd (Y_pk [48,9,8,7,6,5,4,3] ?_);refine C_rangeFunc (enc:=(fun x:Nat×Plc=>[.int .i64 (x.1:Int),aggV [Yq x.2]])) (xs:=Vp Yp kn) (Hi:=[]) (Hu:=(b4,rowO [.one (.int .i64 0),Yq 0,.one (.int .i64 0),Yq 0,.one (.slice none 0 0),.one (.slice none 0 0)] 28)::(b5,rowO [.one (.int .i64 0)] 3)::(b6,rowO [.one (.int .i64 0)] 36)::(b1,rowO [.one (.int .i64 ZZ),Yq Yp,.one (.int .i64 Yr),Yq YE,.one (Sl.val ⟨Yu,Yt,ZW⟩),.one (.slice ad8 ZJ.length cp8)] 28)::(b2,rowO [.one (.int .i64 (kn:Int))] 3)::(b3,rowO [.one (.int .i64 Xc),Yq p_id] 25)::(b14,rowO [.one (.int .i64 Xc),Yq p_id] 25)::hs8) (H0:=H) (fun pre M9 Hu=>∃ hs,Hu=(b4,rowO [.one (.int .i64 0),Yq 0,.one (.int .i64 0),Yq 0,.one (.slice none 0 0),.one (.slice none 0 0)] 28)::(b5,rowO [.one (.int .i64 0)] 3)::(b6,rowO [.one (.int .i64 0)] 36)::(b1,rowO [.one (.int .i64 ZZ),Yq Yp,.one (.int .i64 Yr),Yq YE,.one (Sl.val ⟨Yu,Yt,ZW⟩),.one (.slice ad8 ZJ.length cp8)] 28)::(b2,rowO [.one (.int .i64 (kn:Int))] 3)::(b3,rowO [.one (.int .i64 Xc),Yq p_id] 25)::(b14,rowO [.one (.int .i64 Xc),Yq p_id] 25)::hs∧OSl 25 21 (.slice ad8 ZJ.length cp8) hs ((ptW ZJ kn (kn+pre.length) (ZD.mk Xc p_id)).map ZD.segs)∧WL ⟨ZZ,Yp⟩ ⟨Xc,p_id⟩ kn kn (160-kn)=WL ⟨ZZ,Yp⟩ ⟨Xc,p_id⟩ kn (kn+pre.length) (160-(kn+pre.length))) (fun c pre M9 Hu=>c=.ret∧∃ (hs:Hp) (j:Nat),Hu=(b4,rowO [.one (.int .i64 ZZ),Yq Yp,.one (.int .i64 Yr),Yq YE,.one (Sl.val ⟨Yu,Yt,ZW⟩),.one (.slice ad8 ZJ.length cp8)] 28)::(b5,rowO [.one (.int .i64 (j:Int))] 3)::(b6,rowO [.one (.int .i64 0)] 36)::(b1,rowO [.one (.int .i64 ZZ),Yq Yp,.one (.int .i64 Yr),Yq YE,.one (Sl.val ⟨Yu,Yt,ZW⟩),.one (.slice ad8 ZJ.length cp8)] 28)::(b2,rowO [.one (.int .i64 (kn:Int))] 3)::(b3,rowO [.one (.int .i64 Xc),Yq p_id] 25)::(b14,rowO [.one (.int .i64 Xc),Yq p_id] 25)::hs∧kn<j∧j<160∧OSl 25 21 (.slice ad8 ZJ.length cp8) hs ((ptW ZJ kn (j) (ZD.mk Xc p_id)).map ZD.segs)∧WL ⟨ZZ,Yp⟩ ⟨Xc,p_id⟩ kn kn (160-kn)=j) rfl F.ok153 (starts_seq M2 _ _ _ _ _ _ _ _ _ _ kn (by omega) q1 q2 hq1 hq2) (fun w hw=>hw.c) ⟨hs8,rfl,by rw [List.length_nil,Nat.add_zero,ptW_start];exact ho8,rfl⟩ (fun _=>rfl) rfl ?_ ?_ ?_
        ·rintro lp rdy bsy pre ⟨x1,x2⟩ post M3 _ G hxs hm3 ⟨hs3,rfl,ho1,hI⟩
         obtain ⟨hx9,hx⟩:=startsL_split hxs
         obtain ⟨rfl,rfl⟩:=Prod.mk.inj hx
         generalize hj9:kn+pre.length=j at *
         have hwl:(ptW ZJ kn j (ZD.mk Xc p_id)).length=ZJ.length:=ptW_len (by omega) (by omega)
         have hnw:((ptW ZJ kn j (ZD.mk Xc p_id)).map ZD.segs).length=(ptW ZJ kn j (ZD.mk Xc p_id)).length:=List.length_map ..
         simp only [List.cons_append,rEnv]
         refine ZI (Zm (l:=[0]) rfl ?_);refine ZB ?_;refine Zo (Zn (Y_pk [10,50,9,8,7,6,5,4,3] ?_));refine Zm (l:=[0,1]) rfl ?_
         refine YT F.zero23 ?_;intro b21
         refine Yi F.lay23 ?_;refine Zo (K_assign1 ?_);refine Xd ?_
         iterate 2 refine ZI ?_
         refine Zm (l:=[0,1,2,3,4,5,6,7,8,9,10,11,12]) rfl ?_;refine Zv ?_;refine ZH F.lay3 ?_;refine Yz ?_;refine Zv ?_
         refine Yh 54 rfl (fun hc22=>?_) (fun hc22=>?_)
         ·replace hc22:=dT hc22
          refine Zk F.foff28_0 ?_;refine Zk F.foff25_1 ?_
          iterate 2 refine ZH F.lay23 ?_
          refine Zk F.foff25_1 ?_;refine ZH F.lay23 ?_;refine X_fs rfl rfl F.ok62 rfl (Half_ok _ _ _ _) rfl ?_
          rintro _ rfl
          refine Xx ?_;refine ZK ?_;refine Zo (Zn (Y_pk [63,10,9,8,7,6,3] ?_))
          refine Yx rfl (fun hc23=>?_) (fun hc23=>?_)
          ·replace hc23:=nT hc23
           refine ZI (Zm (l:=[0,1,2,3,4]) rfl ?_);refine ZH F.lay28 ?_;refine Zv ?_;refine Yi F.lay28 ?_;refine Yi F.lay3 ?_;refine Yi F.lay36 ?_;refine Zo (Zn (Y_pk [10,9,8,7,6,3] ?_));refine Yg (YG (Xi ?_))
           refine K_rndR (Hu:=(b4,rowO [.one (.int .i64 ZZ),Yq Yp,.one (.int .i64 Yr),Yq YE,.one (Sl.val ⟨Yu,Yt,ZW⟩),.one (.slice ad8 ZJ.length cp8)] 28)::(b5,rowO [.one (.int .i64 (j:Int))] 3)::(b6,rowO [.one (.int .i64 0)] 36)::(b1,rowO [.one (.int .i64 ZZ),Yq Yp,.one (.int .i64 Yr),Yq YE,.one (Sl.val ⟨Yu,Yt,ZW⟩),.one (.slice ad8 ZJ.length cp8)] 28)::(b2,rowO [.one (.int .i64 (kn:Int))] 3)::(b3,rowO [.one (.int .i64 Xc),Yq p_id] 25)::(b14,rowO [.one (.int .i64 Xc),Yq p_id] 25)::hs3) (Mem.le.refl _) (fun w hw=>hw.c) ⟨rfl,hs3,j,rfl,by omega,by omega,ho1,?_⟩
           exact hI.trans (pointEnd_stop (by omega) (by omega) (by unfold inArc;exact decide_eq_false (by assumption)))
          ·replace hc23:=nF hc23
           refine Yv (Zn (Y_pk [10,9,8,7,6,3] ?_));refine Zm (l:=[0,1,2,3,4,5]) rfl ?_;refine Zk F.foff28_3 ?_;refine ZH F.lay26 ?_;refine Zv ?_;refine ZH F.lay25 ?_;refine YR rfl rfl rfl rfl F.elem26 (by rfl) (by omega) (by exact OSl.plain (by assumption) (by (simp;omega))) rfl ?_
           obtain ⟨bF,rfl⟩:=ho1.someB (by omega)
           refine X_storeO (b:=bF) (j:=j) rfl rfl rfl rfl (by constructor) (YF rfl (XC XA)) F.lay25 rfl rfl ho1 (by repeat first|exact Rem.here _|exact Rem.two|apply Rem.skip|apply Rem.over) (by omega) ?_;intro hs6 ho6
           replace ho6:OSl 25 21 (.slice (some ⟨bF,0,none⟩) ZJ.length cp8) hs6 ((ptW ZJ kn (j+1) (ZD.mk Xc p_id)).map ZD.segs):=by rw [← ptW_set (by omega) (by omega),List.map_set];exact ho6.aZ (by simp;omega)
           refine Zo (XV ?_)
           refine K_rnd (Hu:=(b4,rowO [.one (.int .i64 0),Yq 0,.one (.int .i64 0),Yq 0,.one (.slice none 0 0),.one (.slice none 0 0)] 28)::(b5,rowO [.one (.int .i64 0)] 3)::(b6,rowO [.one (.int .i64 0)] 36)::(b1,rowO [.one (.int .i64 ZZ),Yq Yp,.one (.int .i64 Yr),Yq YE,.one (Sl.val ⟨Yu,Yt,ZW⟩),.one (.slice (some ⟨bF,0,none⟩) ZJ.length cp8)] 28)::(b2,rowO [.one (.int .i64 (kn:Int))] 3)::(b3,rowO [.one (.int .i64 Xc),Yq p_id] 25)::(b14,rowO [.one (.int .i64 Xc),Yq p_id] 25)::hs6) (Mem.le.refl _) (fun w hw=>hw.c) ⟨hs6,rfl,?_,?_⟩
           ·rw [List.length_append,List.length_singleton,← Nat.add_assoc,hj9];exact ho6
           ·rw [List.length_append,List.length_singleton,← Nat.add_assoc,hj9,hI,pointEnd_go (by omega) (by rintro ⟨g1,g2⟩;unfold inArc at g2;simp_all)]
         ·replace hc22:=dF hc22
          iterate 8 refine ZU ?_
          refine ZK ?_;refine Zo (Zn (Y_pk [63,10,9,8,7,6,3] ?_));refine Ws rfl ?_;refine Yv (Zn (Y_pk [10,9,8,7,6,3] ?_));refine Zm (l:=[0,1,2,3,4,5]) rfl ?_;refine Zk F.foff28_3 ?_;refine ZH F.lay26 ?_;refine Zv ?_;refine ZH F.lay25 ?_;refine YR rfl rfl rfl rfl F.elem26 (by rfl) (by omega) (by exact OSl.plain (by assumption) (by (simp;omega))) rfl ?_
          obtain ⟨bF,rfl⟩:=ho1.someB (by omega)
          refine X_storeO (b:=bF) (j:=j) rfl rfl rfl rfl (by constructor) (YF rfl (XC XA)) F.lay25 rfl rfl ho1 (by repeat first|exact Rem.here _|exact Rem.two|apply Rem.skip|apply Rem.over) (by omega) ?_;intro hs6 ho6
          replace ho6:OSl 25 21 (.slice (some ⟨bF,0,none⟩) ZJ.length cp8) hs6 ((ptW ZJ kn (j+1) (ZD.mk Xc p_id)).map ZD.segs):=by rw [← ptW_set (by omega) (by omega),List.map_set];exact ho6.aZ (by simp;omega)
          refine Zo (XV ?_)
          refine K_rnd (Hu:=(b4,rowO [.one (.int .i64 0),Yq 0,.one (.int .i64 0),Yq 0,.one (.slice none 0 0),.one (.slice none 0 0)] 28)::(b5,rowO [.one (.int .i64 0)] 3)::(b6,rowO [.one (.int .i64 0)] 36)::(b1,rowO [.one (.int .i64 ZZ),Yq Yp,.one (.int .i64 Yr),Yq YE,.one (Sl.val ⟨Yu,Yt,ZW⟩),.one (.slice (some ⟨bF,0,none⟩) ZJ.length cp8)] 28)::(b2,rowO [.one (.int .i64 (kn:Int))] 3)::(b3,rowO [.one (.int .i64 Xc),Yq p_id] 25)::(b14,rowO [.one (.int .i64 Xc),Yq p_id] 25)::hs6) (Mem.le.refl _) (fun w hw=>hw.c) ⟨hs6,rfl,?_,?_⟩
          ·rw [List.length_append,List.length_singleton,← Nat.add_assoc,hj9];exact ho6
          ·rw [List.length_append,List.length_singleton,← Nat.add_assoc,hj9,hI,pointEnd_go (by omega) (by rintro ⟨g1,g2⟩;omega)]
        ·rintro D L o M3 _ hm3 ⟨hs3,rfl,ho1,hI⟩
         rw [show kn+(Vp Yp kn).length=160 by unfold Vp;simp;omega] at ho1 hI
         simp only [List.cons_append,List.nil_append]
         refine XV (Zn (Y_pk [8,7,6,3] ?_));refine ZI (Zm (l:=[0,1,2,3]) rfl ?_);refine ZH F.lay28 ?_;refine Yi F.lay28 ?_;refine Yi F.lay3 ?_;refine Yi F.lay36 ?_;refine Zo (Zn (Y_pk [8,7,6] ?_));refine Yg ?_
         refine K_endM (Ds:=[D]) (Hd:=[(D,.deferred (some []))]) (H:=(b4,rowO [.one (.int .i64 ZZ),Yq Yp,.one (.int .i64 Yr),Yq YE,.one (Sl.val ⟨Yu,Yt,ZW⟩),.one (.slice ad8 ZJ.length cp8)] 28)::(b5,rowO [.one (.int .i64 0)] 3)::(b6,rowO [.one (.int .i64 0)] 36)::hs3++H) (.inr rfl) (.cell rfl (by repeat first|exact List.Mem.head _|refine List.Mem.tail _ ?_|refine List.mem_append_right _ ?_) F.lay28 rfl rfl (.cell rfl (by repeat first|exact List.Mem.head _|refine List.Mem.tail _ ?_|refine List.mem_append_right _ ?_) F.lay3 rfl rfl (.cell rfl (by repeat first|exact List.Mem.head _|refine List.Mem.tail _ ?_|refine List.mem_append_right _ ?_) F.lay36 rfl rfl .nil))) (fun w hw=>hw.c) (by simp) (by simp) (fun w hw=>?_)
         obtain ⟨M9,s2,j1,j2,j3,j4,j5⟩:=OSl.freezeK (f:=ZD.segs) (H:=H) ho1 (hw.c)
         refine ⟨_,M9,rfl,hm2.trans (hm3.trans j1),j2,?_⟩
         rw [show WZ (ZL.tb ⟨⟨ZZ,Yp⟩,⟨Yr,YE⟩,⟨Yu,Yt,ZW⟩,⟨Yc,Yb,ZJ⟩⟩) ((kn:Nat):Int) ⟨Xc,p_id⟩=({ (ZL.tb ⟨⟨ZZ,Yp⟩,⟨Yr,YE⟩,⟨Yu,Yt,ZW⟩,⟨Yc,Yb,ZJ⟩⟩) with fingers:=ptW ZJ kn 160 ⟨Xc,p_id⟩ },0,0) from ?_]
         ·exact ⟨_,rfl,WA (s1:=⟨Yu,Yt,ZW⟩) (s2:=s2) rfl j3 (YS.mono (hm2.trans (hm3.trans j1))) j5 (by rw [j4];rfl)⟩
         ·exact pointT_is (j:=160) (by assumption) (by omega) (by exact .inr (by assumption)) hI (show fingerOf (ZL.tb ⟨⟨ZZ,Yp⟩,⟨Yr,YE⟩,⟨Yu,Yt,ZW⟩,⟨Yc,Yb,ZJ⟩⟩) ⟨Xc,p_id⟩=⟨Xc,p_id⟩ from if_neg (by assumption)) (if_pos rfl)
        ·rintro c D L o M3 _ pre post hpp hm3 ⟨rfl,hs3,j,rfl,hj1,hj2,ho1,hI⟩
         simp only [List.cons_append,List.nil_append]
         refine Yg (Xi (YG ?_))
         refine K_endM (Ds:=[D]) (Hd:=[(D,.deferred (some []))]) (H:=(b4,rowO [.one (.int .i64 ZZ),Yq Yp,.one (.int .i64 Yr),Yq YE,.one (Sl.val ⟨Yu,Yt,ZW⟩),.one (.slice ad8 ZJ.length cp8)] 28)::(b5,rowO [.one (.int .i64 (j:Int))] 3)::(b6,rowO [.one (.int .i64 0)] 36)::hs3++H) (.inr rfl) (.cell rfl (by repeat first|exact List.Mem.head _|refine List.Mem.tail _ ?_|refine List.mem_append_right _ ?_) F.lay28 rfl rfl (.cell rfl (by repeat first|exact List.Mem.head _|refine List.Mem.tail _ ?_|refine List.mem_append_right _ ?_) F.lay3 rfl rfl (.cell rfl (by repeat first|exact List.Mem.head _|refine List.Mem.tail _ ?_|refine List.mem_append_right _ ?_) F.lay36 rfl rfl .nil))) (fun w hw=>hw.c) (by simp) (by simp) (fun w hw=>?_)
         obtain ⟨M9,s2,j1,j2,j3,j4,j5⟩:=OSl.freezeK (f:=ZD.segs) (H:=H) ho1 (hw.c)
         refine ⟨_,M9,rfl,hm2.trans (hm3.trans j1),j2,?_⟩
         rw [show WZ (ZL.tb ⟨⟨ZZ,Yp⟩,⟨Yr,YE⟩,⟨Yu,Yt,ZW⟩,⟨Yc,Yb,ZJ⟩⟩) ((kn:Nat):Int) ⟨Xc,p_id⟩=({ (ZL.tb ⟨⟨ZZ,Yp⟩,⟨Yr,YE⟩,⟨Yu,Yt,ZW⟩,⟨Yc,Yb,ZJ⟩⟩) with fingers:=ptW ZJ kn j ⟨Xc,p_id⟩ },(j:Int),0) from ?_]
         ·exact ⟨_,rfl,WA (s1:=⟨Yu,Yt,ZW⟩) (s2:=s2) rfl j3 (YS.mono (hm2.trans (hm3.trans j1))) j5 (by rw [j4];rfl)⟩
         ·exact pointT_is (j:=j) (by assumption) (by omega) (by exact .inr (by assumption)) hI (show fingerOf (ZL.tb ⟨⟨ZZ,Yp⟩,⟨Yr,YE⟩,⟨Yu,Yt,ZW⟩,⟨Yc,Yb,ZJ⟩⟩) ⟨Xc,p_id⟩=⟨Xc,p_id⟩ from if_neg (by assumption)) (if_neg (by omega))
     ·replace hc12:=nF hc12
      iterate 4 refine ZU ?_
      iterate 2 refine ZK ?_
      refine Zo (Zn (Y_pk [34,8,7,6,5,4,3] ?_));refine Ws rfl ?_;refine Yv (Zn (Y_pk [8,7,6,5,4,3] ?_));refine ZI (Zm (l:=[0,1,2]) rfl ?_)
      obtain ⟨kn,rfl⟩:∃ kn:Nat,k=kn:=⟨k.toNat,by omega⟩
      have hf160:ZJ.length=160:=(show IsTb (ZL.tb ⟨⟨ZZ,Yp⟩,⟨Yr,YE⟩,⟨Yu,Yt,ZW⟩,⟨Yc,Yb,ZJ⟩⟩) by assumption).2.2.2.1
      refine ZH F.lay25 ?_
      refine YT F.zero25 ?_;intro b24
      refine Yi F.lay25 ?_;refine Zo (Zn (Y_pk [9,8,7,6,5,4,3] ?_))
      iterate 2 refine ZI ?_
      refine Zm (l:=[0,1,2,3]) rfl ?_;refine ZH F.lay25 ?_;refine Zk F.foff28_0 ?_;refine ZH F.lay25 ?_
      refine Wf (m:=20) rfl rfl rfl rfl rfl (by constructor) (by constructor) F.lay25 F.kinds25 rfl F.guard25 (by exact Xf (⟨_,_⟩)) (by exact Xf (⟨_,_⟩)) rfl rfl rfl ?_;intro c25 he26
      replace he26:c25=true↔Segs.cells _=Segs.cells _:=he26
      obtain rfl:=eqD he26 (ZD.inj (x:=⟨_,_⟩) (y:=⟨_,_⟩));clear he26
      refine Zo (Zn (Y_pk [40,9,8,7,6,5,4,3] ?_))
      refine Yx rfl (fun hc27=>?_) (fun hc27=>?_)
      ·replace hc27:=dT hc27
       refine Zm (l:=[0,1]) rfl ?_;refine X_fs rfl rfl F.ok66 rfl (WO _) rfl ?_
       rintro _ rfl
       refine WV 41 rfl (show _=aggV [.one (.int .i64 (-1)),Yq 0] from rfl) ?_;refine Yi F.lay25 ?_;refine Zo (Zn (Y_pk [9,8,7,6,5,4,3] ?_));refine ZI (Zm (l:=[0,1,2,3,4]) rfl ?_);refine Zk F.foff28_3 ?_;refine ZH F.lay26 ?_;refine VU rfl rfl F.ok106 rfl (CloneP_ok M Yc Yb ZJ Yw (by omega)) (by repeat first|exact Rem.here _|exact Rem.two|apply Rem.skip|apply Rem.over) (fun _ _ _ hm hw=>(hw.lower (by exact hm)).c) (YA rfl) ?_
       rintro v8 M1 hs8 hm1 ⟨hM1,ho8⟩;subst M1
       obtain ⟨ad8,cp8,rfl⟩:=ho8.valL
       refine Zk F.foff28_3 ?_;refine Yi F.lay26 ?_;refine Zo (Zn (Y_pk [9,8,7,6,5,4,3] ?_))
       iterate 2 refine ZI ?_
       refine Zm (l:=[0,1,2]) rfl ?_;refine ZH F.lay28 ?_;refine ZH F.lay3 ?_;refine X_fn rfl rfl F.ok144 rfl (starts_ok M _ _ _ _ _ _ _ _ _ _ _) rfl ?_
       rintro _ M2 hm2 ⟨q1,q2,rfl,hq1,hq2⟩
       refine Zo (Zn (Y_pk [48,9,8,7,6,5,4,3] ?_));refine Xd (Y_pk [48,9,8,7,6,5,4,3] ?_);refine C_rangeFunc (enc:=(fun x:Nat×Plc=>[.int .i64 (x.1:Int),aggV [Yq x.2]])) (xs:=Vp Yp kn) (Hi:=[]) (Hu:=(b4,rowO [.one (.int .i64 0),Yq 0,.one (.int .i64 0),Yq 0,.one (.slice none 0 0),.one (.slice none 0 0)] 28)::(b5,rowO [.one (.int .i64 0)] 3)::(b6,rowO [.one (.int .i64 0)] 36)::(b1,rowO [.one (.int .i64 ZZ),Yq Yp,.one (.int .i64 Yr),Yq YE,.one (Sl.val ⟨Yu,Yt,ZW⟩),.one (.slice ad8 ZJ.length cp8)] 28)::(b2,rowO [.one (.int .i64 (kn:Int))] 3)::(b3,rowO [.one (.int .i64 Xc),Yq p_id] 25)::(b24,rowO [.one (.int .i64 (-1)),Yq 0] 25)::hs8) (H0:=H) (fun pre M9 Hu=>∃ hs,Hu=(b4,rowO [.one (.int .i64 0),Yq 0,.one (.int .i64 0),Yq 0,.one (.slice none 0 0),.one (.slice none 0 0)] 28)::(b5,rowO [.one (.int .i64 0)] 3)::(b6,rowO [.one (.int .i64 0)] 36)::(b1,rowO [.one (.int .i64 ZZ),Yq Yp,.one (.int .i64 Yr),Yq YE,.one (Sl.val ⟨Yu,Yt,ZW⟩),.one (.slice ad8 ZJ.length cp8)] 28)::(b2,rowO [.one (.int .i64 (kn:Int))] 3)::(b3,rowO [.one (.int .i64 Xc),Yq p_id] 25)::(b24,rowO [.one (.int .i64 (-1)),Yq 0] 25)::hs∧OSl 25 21 (.slice ad8 ZJ.length cp8) hs ((ptW ZJ kn (kn+pre.length) YW).map ZD.segs)∧WL ⟨ZZ,Yp⟩ ⟨Xc,p_id⟩ kn kn (160-kn)=WL ⟨ZZ,Yp⟩ ⟨Xc,p_id⟩ kn (kn+pre.length) (160-(kn+pre.length))) (fun c pre M9 Hu=>c=.ret∧∃ (hs:Hp) (j:Nat),Hu=(b4,rowO [.one (.int .i64 ZZ),Yq Yp,.one (.int .i64 Yr),Yq YE,.one (Sl.val ⟨Yu,Yt,ZW⟩),.one (.slice ad8 ZJ.length cp8)] 28)::(b5,rowO [.one (.int .i64 (j:Int))] 3)::(b6,rowO [.one (.int .i64 0)] 36)::(b1,rowO [.one (.int .i64 ZZ),Yq Yp,.one (.int .i64 Yr),Yq YE,.one (Sl.val ⟨Yu,Yt,ZW⟩),.one (.slice ad8 ZJ.length cp8)] 28)::(b2,rowO [.one (.int .i64 (kn:Int))] 3)::(b3,rowO [.one (.int .i64 Xc),Yq p_id] 25)::(b24,rowO [.one (.int .i64 (-1)),Yq 0] 25)::hs∧kn<j∧j<160∧OSl 25 21 (.slice ad8 ZJ.length cp8) hs ((ptW ZJ kn (j) YW).map ZD.segs)∧WL ⟨ZZ,Yp⟩ ⟨Xc,p_id⟩ kn kn (160-kn)=j) rfl F.ok153 (starts_seq M2 _ _ _ _ _ _ _ _ _ _ kn (by omega) q1 q2 hq1 hq2) (fun w hw=>hw.c) ⟨hs8,rfl,by rw [List.length_nil,Nat.add_zero,ptW_start];exact ho8,rfl⟩ (fun _=>rfl) rfl ?_ ?_ ?_
       ·rintro lp rdy bsy pre ⟨x1,x2⟩ post M3 _ G hxs hm3 ⟨hs3,rfl,ho1,hI⟩
        obtain ⟨hx9,hx⟩:=startsL_split hxs
        obtain ⟨rfl,rfl⟩:=Prod.mk.inj hx
        generalize hj9:kn+pre.length=j at *
        have hwl:(ptW ZJ kn j YW).length=ZJ.length:=ptW_len (by omega) (by omega)
        have hnw:((ptW ZJ kn j YW).map ZD.segs).length=(ptW ZJ kn j YW).length:=List.length_map ..
        simp only [List.cons_append,rEnv]
        refine ZI (Zm (l:=[0]) rfl ?_);refine ZB ?_;refine Zo (Zn (Y_pk [10,50,9,8,7,6,5,4,3] ?_));refine Zm (l:=[0,1]) rfl ?_
        refine YT F.zero23 ?_;intro b28
        refine Yi F.lay23 ?_;refine Zo (K_assign1 ?_);refine Xd ?_
        iterate 2 refine ZI ?_
        refine Zm (l:=[0,1,2,3,4,5,6,7,8,9,10,11,12]) rfl ?_;refine Zv ?_;refine ZH F.lay3 ?_;refine Yz ?_;refine Zv ?_
        refine Yh 54 rfl (fun hc29=>?_) (fun hc29=>?_)
        ·replace hc29:=dT hc29
         refine Zk F.foff28_0 ?_;refine Zk F.foff25_1 ?_
         iterate 2 refine ZH F.lay23 ?_
         refine Zk F.foff25_1 ?_;refine ZH F.lay23 ?_;refine X_fs rfl rfl F.ok62 rfl (Half_ok _ _ _ _) rfl ?_
         rintro _ rfl
         refine Xx ?_;refine ZK ?_;refine Zo (Zn (Y_pk [63,10,9,8,7,6,3] ?_))
         refine Yx rfl (fun hc30=>?_) (fun hc30=>?_)
         ·replace hc30:=nT hc30
          refine ZI (Zm (l:=[0,1,2,3,4]) rfl ?_);refine ZH F.lay28 ?_;refine Zv ?_;refine Yi F.lay28 ?_;refine Yi F.lay3 ?_;refine Yi F.lay36 ?_;refine Zo (Zn (Y_pk [10,9,8,7,6,3] ?_));refine Yg (YG (Xi ?_))
          refine K_rndR (Hu:=(b4,rowO [.one (.int .i64 ZZ),Yq Yp,.one (.int .i64 Yr),Yq YE,.one (Sl.val ⟨Yu,Yt,ZW⟩),.one (.slice ad8 ZJ.length cp8)] 28)::(b5,rowO [.one (.int .i64 (j:Int))] 3)::(b6,rowO [.one (.int .i64 0)] 36)::(b1,rowO [.one (.int .i64 ZZ),Yq Yp,.one (.int .i64 Yr),Yq YE,.one (Sl.val ⟨Yu,Yt,ZW⟩),.one (.slice ad8 ZJ.length cp8)] 28)::(b2,rowO [.one (.int .i64 (kn:Int))] 3)::(b3,rowO [.one (.int .i64 Xc),Yq p_id] 25)::(b24,rowO [.one (.int .i64 (-1)),Yq 0] 25)::hs3) (Mem.le.refl _) (fun w hw=>hw.c) ⟨rfl,hs3,j,rfl,by omega,by omega,ho1,?_⟩
          exact hI.trans (pointEnd_stop (by omega) (by omega) (by unfold inArc;exact decide_eq_false (by assumption)))
         ·replace hc30:=nF hc30
          refine Yv (Zn (Y_pk [10,9,8,7,6,3] ?_));refine Zm (l:=[0,1,2,3,4,5]) rfl ?_;refine Zk F.foff28_3 ?_;refine ZH F.lay26 ?_;refine Zv ?_;refine ZH F.lay25 ?_;refine YR rfl rfl rfl rfl F.elem26 (by rfl) (by omega) (by exact OSl.plain (by assumption) (by (simp;omega))) rfl ?_
          obtain ⟨bF,rfl⟩:=ho1.someB (by omega)
          refine X_storeO (b:=bF) (j:=j) rfl rfl rfl rfl (by constructor) (YF rfl (XC XA)) F.lay25 rfl rfl ho1 (by repeat first|exact Rem.here _|exact Rem.two|apply Rem.skip|apply Rem.over) (by omega) ?_;intro hs6 ho6
          replace ho6:OSl 25 21 (.slice (some ⟨bF,0,none⟩) ZJ.length cp8) hs6 ((ptW ZJ kn (j+1) YW).map ZD.segs):=by rw [← ptW_set (by omega) (by omega),List.map_set];exact ho6.aZ (by simp;omega)
          refine Zo (XV ?_)
          refine K_rnd (Hu:=(b4,rowO [.one (.int .i64 0),Yq 0,.one (.int .i64 0),Yq 0,.one (.slice none 0 0),.one (.slice none 0 0)] 28)::(b5,rowO [.one (.int .i64 0)] 3)::(b6,rowO [.one (.int .i64 0)] 36)::(b1,rowO [.one (.int .i64 ZZ),Yq Yp,.one (.int .i64 Yr),Yq YE,.one (Sl.val ⟨Yu,Yt,ZW⟩),.one (.slice (some ⟨bF,0,none⟩) ZJ.length cp8)] 28)::(b2,rowO [.one (.int .i64 (kn:Int))] 3)::(b3,rowO [.one (.int .i64 Xc),Yq p_id] 25)::(b24,rowO [.one (.int .i64 (-1)),Yq 0] 25)::hs6) (Mem.le.refl _) (fun w hw=>hw.c) ⟨hs6,rfl,?_,?_⟩
          ·rw [List.length_append,List.length_singleton,← Nat.add_assoc,hj9];exact ho6
          ·rw [List.length_append,List.length_singleton,← Nat.add_assoc,hj9,hI,pointEnd_go (by omega) (by rintro ⟨g1,g2⟩;unfold inArc at g2;simp_all)]
        ·replace hc29:=dF hc29
         iterate 8 refine ZU ?_
         refine ZK ?_;refine Zo (Zn (Y_pk [63,10,9,8,7,6,3] ?_));refine Ws rfl ?_;refine Yv (Zn (Y_pk [10,9,8,7,6,3] ?_));refine Zm (l:=[0,1,2,3,4,5]) rfl ?_;refine Zk F.foff28_3 ?_;refine ZH F.lay26 ?_;refine Zv ?_;refine ZH F.lay25 ?_;refine YR rfl rfl rfl rfl F.elem26 (by rfl) (by omega) (by exact OSl.plain (by assumption) (by (simp;omega))) rfl ?_
         obtain ⟨bF,rfl⟩:=ho1.someB (by omega)
         refine X_storeO (b:=bF) (j:=j) rfl rfl rfl rfl (by constructor) (YF rfl (XC XA)) F.lay25 rfl rfl ho1 (by repeat first|exact Rem.here _|exact Rem.two|apply Rem.skip|apply Rem.over) (by omega) ?_;intro hs6 ho6
         replace ho6:OSl 25 21 (.slice (some ⟨bF,0,none⟩) ZJ.length cp8) hs6 ((ptW ZJ kn (j+1) YW).map ZD.segs):=by rw [← ptW_set (by omega) (by omega),List.map_set];exact ho6.aZ (by simp;omega)
         refine Zo (XV ?_)
         refine K_rnd (Hu:=(b4,rowO [.one (.int .i64 0),Yq 0,.one (.int .i64 0),Yq 0,.one (.slice none 0 0),.one (.slice none 0 0)] 28)::(b5,rowO [.one (.int .i64 0)] 3)::(b6,rowO [.one (.int .i64 0)] 36)::(b1,rowO [.one (.int .i64 ZZ),Yq Yp,.one (.int .i64 Yr),Yq YE,.one (Sl.val ⟨Yu,Yt,ZW⟩),.one (.slice (some ⟨bF,0,none⟩) ZJ.length cp8)] 28)::(b2,rowO [.one (.int .i64 (kn:Int))] 3)::(b3,rowO [.one (.int .i64 Xc),Yq p_id] 25)::(b24,rowO [.one (.int .i64 (-1)),Yq 0] 25)::hs6) (Mem.le.refl _) (fun w hw=>hw.c) ⟨hs6,rfl,?_,?_⟩
         ·rw [List.length_append,List.length_singleton,← Nat.add_assoc,hj9];exact ho6
         ·rw [List.length_append,List.length_singleton,← Nat.add_assoc,hj9,hI,pointEnd_go (by omega) (by rintro ⟨g1,g2⟩;omega)]
       ·rintro D L o M3 _ hm3 ⟨hs3,rfl,ho1,hI⟩
        rw [show kn+(Vp Yp kn).length=160 by unfold Vp;simp;omega] at ho1 hI
        simp only [List.cons_append,List.nil_append]
        refine XV (Zn (Y_pk [8,7,6,3] ?_));refine ZI (Zm (l:=[0,1,2,3]) rfl ?_);refine ZH F.lay28 ?_;refine Yi F.lay28 ?_;refine Yi F.lay3 ?_;refine Yi F.lay36 ?_;refine Zo (Zn (Y_pk [8,7,6] ?_));refine Yg ?_
        refine K_endM (Ds:=[D]) (Hd:=[(D,.deferred (some []))]) (H:=(b4,rowO [.one (.int .i64 ZZ),Yq Yp,.one (.int .i64 Yr),Yq YE,.one (Sl.val ⟨Yu,Yt,ZW⟩),.one (.slice ad8 ZJ.length cp8)] 28)::(b5,rowO [.one (.int .i64 0)] 3)::(b6,rowO [.one (.int .i64 0)] 36)::hs3++H) (.inr rfl) (.cell rfl (by repeat first|exact List.Mem.head _|refine List.Mem.tail _ ?_|refine List.mem_append_right _ ?_) F.lay28 rfl rfl (.cell rfl (by repeat first|exact List.Mem.head _|refine List.Mem.tail _ ?_|refine List.mem_append_right _ ?_) F.lay3 rfl rfl (.cell rfl (by repeat first|exact List.Mem.head _|refine List.Mem.tail _ ?_|refine List.mem_append_right _ ?_) F.lay36 rfl rfl .nil))) (fun w hw=>hw.c) (by simp) (by simp) (fun w hw=>?_)
        obtain ⟨M9,s2,j1,j2,j3,j4,j5⟩:=OSl.freezeK (f:=ZD.segs) (H:=H) ho1 (hw.c)
        refine ⟨_,M9,rfl,hm2.trans (hm3.trans j1),j2,?_⟩
        rw [show WZ (ZL.tb ⟨⟨ZZ,Yp⟩,⟨Yr,YE⟩,⟨Yu,Yt,ZW⟩,⟨Yc,Yb,ZJ⟩⟩) ((kn:Nat):Int) ⟨Xc,p_id⟩=({ (ZL.tb ⟨⟨ZZ,Yp⟩,⟨Yr,YE⟩,⟨Yu,Yt,ZW⟩,⟨Yc,Yb,ZJ⟩⟩) with fingers:=ptW ZJ kn 160 YW },0,0) from ?_]
        ·exact ⟨_,rfl,WA (s1:=⟨Yu,Yt,ZW⟩) (s2:=s2) rfl j3 (YS.mono (hm2.trans (hm3.trans j1))) j5 (by rw [j4];rfl)⟩
        ·exact pointT_is (j:=160) (by assumption) (by omega) (by exact .inl (by assumption)) hI (show fingerOf (ZL.tb ⟨⟨ZZ,Yp⟩,⟨Yr,YE⟩,⟨Yu,Yt,ZW⟩,⟨Yc,Yb,ZJ⟩⟩) ⟨Xc,p_id⟩=YW from if_pos (by assumption)) (if_pos rfl)
       ·rintro c D L o M3 _ pre post hpp hm3 ⟨rfl,hs3,j,rfl,hj1,hj2,ho1,hI⟩
        simp only [List.cons_append,List.nil_append]
        refine Yg (Xi (YG ?_))
        refine K_endM (Ds:=[D]) (Hd:=[(D,.deferred (some []))]) (H:=(b4,rowO [.one (.int .i64 ZZ),Yq Yp,.one (.int .i64 Yr),Yq YE,.one (Sl.val ⟨Yu,Yt,ZW⟩),.one (.slice ad8 ZJ.length cp8)] 28)::(b5,rowO [.one (.int .i64 (j:Int))] 3)::(b6,rowO [.one (.int .i64 0)] 36)::hs3++H) (.inr rfl) (.cell rfl (by repeat first|exact List.Mem.head _|refine List.Mem.tail _ ?_|refine List.mem_append_right _ ?_) F.lay28 rfl rfl (.cell rfl (by repeat first|exact List.Mem.head _|refine List.Mem.tail _ ?_|refine List.mem_append_right _ ?_) F.lay3 rfl rfl (.cell rfl (by repeat first|exact List.Mem.head _|refine List.Mem.tail _ ?_|refine List.mem_append_right _ ?_) F.lay36 rfl rfl .nil))) (fun w hw=>hw.c) (by simp) (by simp) (fun w hw=>?_)
        obtain ⟨M9,s2,j1,j2,j3,j4,j5⟩:=OSl.freezeK (f:=ZD.segs) (H:=H) ho1 (hw.c)
        refine ⟨_,M9,rfl,hm2.trans (hm3.trans j1),j2,?_⟩
        rw [show WZ (ZL.tb ⟨⟨ZZ,Yp⟩,⟨Yr,YE⟩,⟨Yu,Yt,ZW⟩,⟨Yc,Yb,ZJ⟩⟩) ((kn:Nat):Int) ⟨Xc,p_id⟩=({ (ZL.tb ⟨⟨ZZ,Yp⟩,⟨Yr,YE⟩,⟨Yu,Yt,ZW⟩,⟨Yc,Yb,ZJ⟩⟩) with fingers:=ptW ZJ kn j YW },(j:Int),0) from ?_]
        ·exact ⟨_,rfl,WA (s1:=⟨Yu,Yt,ZW⟩) (s2:=s2) rfl j3 (YS.mono (hm2.trans (hm3.trans j1))) j5 (by rw [j4];rfl)⟩
        ·exact pointT_is (j:=j) (by assumption) (by omega) (by exact .inl (by assumption)) hI (show fingerOf (ZL.tb ⟨⟨ZZ,Yp⟩,⟨Yr,YE⟩,⟨Yu,Yt,ZW⟩,⟨Yc,Yb,ZJ⟩⟩) ⟨Xc,p_id⟩=YW from if_pos (by assumption)) (if_neg (by omega))
      ·replace hc27:=dF hc27
       contradiction
end Go.Proofs.YtajmnjefajknoaaGreat
namespace Go.Proofs.YtajmnjefajknoaaGreat
open Go.Esp
end Go.Proofs.YtajmnjefajknoaaGreat
namespace Go.Esp
def cmp3 (x y:Int):Int:=if x<y then -1 else if y<x then 1 else 0
def Vs (s:ZD) (acc:List ZD) (p:ZD):List ZD:=if 0≤p.addr∧p.addr≠s.addr∧¬hasA acc p.addr then acc++[p] else acc
def metT (t:Tb):List ZD:=(t.pred::(t.succ++t.fingers)).foldl (Vs t.self) []
theorem insP_perm {p:ZD}:∀ {l:List ZD},(insP p l).Perm (p::l)
  | []=>.refl _
  | q::l=>by
    unfold insP
    split
    · exact (insP_perm.cons q).trans (.swap _ _ _)
    · exact .refl _
theorem insP_sorted {p:ZD}:∀ {l:List ZD},l.Pairwise (fun a b=>a.addr<b.addr)→¬hasA l p.addr→(insP p l).Pairwise (fun a b=>a.addr<b.addr)
  | [],_,_=>List.pairwise_singleton _ _
  | q::l,h,hn=>by
    obtain ⟨h1,h2⟩:=List.pairwise_cons.1 h
    have hq:p.addr≠q.addr:=fun e=>hn (by unfold hasA;rw [List.map_cons,e];exact .head _)
    have hl:¬hasA l p.addr:=fun e=>hn (by unfold hasA at *;rw [List.map_cons];exact .tail _ e)
    unfold insP
    split
    · rename_i hlt
      refine List.pairwise_cons.2 ⟨fun a ha=>?_,insP_sorted h2 hl⟩
      rcases List.mem_cons.1 (insP_perm.mem_iff.1 ha) with rfl|ha
      · exact hlt
      · exact h1 a ha
    · rename_i hge
      refine List.pairwise_cons.2 ⟨fun a ha=>?_,h⟩
      rcases List.mem_cons.1 ha with rfl|ha
      · omega
      · have:=h1 a ha;omega
theorem hasA_perm {l l':List ZD} (h:l.Perm l') {a:Int}:hasA l a↔hasA l' a:=(h.map ZD.addr).mem_iff
theorem known_met {s:ZD}:∀ {xs out acc:List ZD},out.Perm acc→out.Pairwise (fun a b=>a.addr<b.addr) →
    (xs.foldl (knownStep s) out).Perm (xs.foldl (Vs s) acc)∧(xs.foldl (knownStep s) out).Pairwise (fun a b=>a.addr<b.addr)
  | [],out,acc,h1,h2=>⟨h1,h2⟩
  | p::xs,out,acc,h1,h2=>by
    rw [List.foldl_cons,List.foldl_cons]
    unfold knownStep Vs
    by_cases hc:p.addr<0∨p.addr=s.addr∨hasA out p.addr
    · rw [if_pos hc,if_neg (by rintro ⟨g1,g2,g3⟩;rcases hc with hc|hc|hc;omega;exact g2 hc;exact g3 ((hasA_perm h1).1 hc))]
      exact known_met h1 h2
    · rw [if_neg hc,if_pos ⟨by have:¬p.addr<0:=fun h=>hc (.inl h);omega,fun h=>hc (.inr (.inl h)),fun h=>hc (.inr (.inr ((hasA_perm h1).2 h)))⟩]
      exact known_met (insP_perm.trans ((h1.cons p).trans (List.perm_append_singleton p acc).symm)) (insP_sorted h2 fun h=>hc (.inr (.inr h)))
theorem sorted_one:∀ {l l':List ZD},l.Perm l'→l.Pairwise (fun a b=>a.addr<b.addr)→l'.Pairwise (fun a b=>a.addr≤b.addr)→l=l'
  | [],l',h,_,_=>(h.symm.eq_nil).symm
  | a::l,[],h,_,_=>(h.eq_nil)
  | a::l,b::l',h,h1,h2=>by
    obtain ⟨g1,g2⟩:=List.pairwise_cons.1 h1
    obtain ⟨g3,g4⟩:=List.pairwise_cons.1 h2
    have hab:a=b:=by
      rcases List.mem_cons.1 (h.mem_iff.1 (.head _):a∈b::l') with e|e
      · exact e
      · rcases List.mem_cons.1 (h.mem_iff.2 (.head _):b∈a::l) with e2|e2
        · exact e2.symm
        · have:=g1 b e2;have:=g3 a e;omega
    subst hab
    rw [sorted_one (h.cons_inv) g2 g4]
theorem known_is {t:Tb} {l:List ZD} (h1:l.Perm (metT t)) (h2:l.Pairwise (fun a b=>a.addr≤b.addr)):l=knownT t:=by
  have h:=known_met (s:=t.self) (xs:=t.pred::(t.succ++t.fingers)) (List.Perm.refl []) List.Pairwise.nil
  exact (sorted_one (h.1.trans h1.symm) h.2 h2).symm
theorem met_step {s p:ZD} {xs:List ZD} {acc:List ZD} (h:acc=xs.foldl (Vs s) []):(xs++[p]).foldl (Vs s) []=Vs s acc p:=by
  rw [List.foldl_append,← h];rfl
theorem flat_at {rows:List (Sl ZD)} {i k:Nat} {a:Option Addr} {c:Nat} {l:List ZD} (hi:i<rows.length) (hr:rows[i]=⟨a,c,l⟩) (hk:k<l.length) :
    (rows.map Sl.l).flatten=(((rows.take i).map Sl.l).flatten++l.take k)++l[k]::(l.drop (k+1)++((rows.drop (i+1)).map Sl.l).flatten):=by
  conv=>lhs;rw [← List.take_append_drop i rows,List.drop_eq_getElem_cons hi,hr]
  simp only [List.map_append,List.flatten_append,List.map_cons,List.flatten_cons]
  conv=>lhs;rw [← List.take_append_drop k l,List.drop_eq_getElem_cons hk]
  simp only [List.append_assoc,List.cons_append]
theorem flat_next {rows:List (Sl ZD)} {i:Nat} {a:Option Addr} {c:Nat} {l:List ZD} (hi:i<rows.length) (hr:rows[i]=⟨a,c,l⟩):((rows.take (i+1)).map Sl.l).flatten=((rows.take i).map Sl.l).flatten++l:=by
  rw [List.take_add_one,List.getElem?_eq_getElem hi,hr]
  simp
theorem flat_rest {rows:List (Sl ZD)} {i k:Nat} {a:Option Addr} {c:Nat} {l:List ZD} (hi:i<rows.length) (hr:rows[i]=⟨a,c,l⟩) (hk:k<l.length) :
    (rows.map Sl.l).flatten=((((rows.take i).map Sl.l).flatten++l.take k)++[l[k]])++(l.drop (k+1)++((rows.drop (i+1)).map Sl.l).flatten):=by
  rw [flat_at hi hr hk,List.append_assoc _ [l[k]]];rfl
end Go.Esp
namespace Go.Proofs.YtajmnjefajknoaaGreat
open Go.Esp
theorem F.elem147:slOf Tryz.prog 147=some (26,1,24):=by kernel_rfl
theorem F.lay147:lay Tryz.prog 147=some (false,1):=by kernel_rfl
theorem F.ok129:okFn Tryz.prog 129=true:=by kernel_rfl
theorem F.ok148:okFn Tryz.prog 148=true:=by kernel_rfl
theorem all_ok (M:Mem) (b:Nat) (hs12 hs7:Hp) (v7:Value) (p:ZD) (a2:Option Addr) (c2:Nat) (l2:List ZD) (a3:Option Addr) (c3:Nat) (l3:List ZD) (ho12:OSl 26 1 (.slice (some ⟨b,0,none⟩) 3 3) hs12 [[.one v7],[.one (Sl.val ⟨a2,c2,l2⟩)],[.one (Sl.val ⟨a3,c3,l3⟩)]]) (ho7:OSl 25 21 v7 hs7 ([p].map ZD.segs)) (k2:SlK M ZD.segs 21 ⟨a2,c2,l2⟩) (k3:SlK M ZD.segs 21 ⟨a3,c3,l3⟩):Fh Tryz.prog 126 [.slice (some ⟨b,0,none⟩) 3 3] M (hs12++hs7) (fun M' v Hout=>Hout=[]∧∃ (q1 c:Nat) (ad:Option Addr) (rows:List (Sl ZD)),v=.func (.func 145) #[] #[.pointer (some ⟨q1,0,none⟩)]∧M' q1=some (rowO [.one (.slice ad rows.length c)] 147)∧SlM M' ad (rows.map (fun s=>[.one s.val])) 1∧rows.length=3∧(∀ s∈rows,SlK M' ZD.segs 21 s)∧(rows.map Sl.l).flatten=p::(l2++l3)):=by
  refine XP (fun H=>hs12++(hs7++H)) (fun _=>(List.append_assoc _ _ _)) Tryz.func126 rfl Tryz.ntmps126 rfl ?_;intro H
  refine ZI (Zm (l:=[0,1]) rfl ?_)
  refine Xk ?_;intro b1
  refine ZB ?_;refine Zo (Zn (Y_pk [2,1] ?_));refine ZI (Zm (l:=[0,1]) rfl ?_);refine X_makeFunc rfl rfl rfl rfl rfl ?_;refine ZB ?_;refine Zo (Zn (Y_pk [2] ?_));refine Yg ?_
  refine Ya (.inr rfl) (.tmp rfl .nil) (fun w hw=>?_)
  obtain ⟨g1,g2⟩:=hw.freeze
  obtain ⟨M7,ad7,cp7,e1,e2,e3,e4⟩:=ho12.freeze g2
  obtain ⟨M8,s7,d1,d2,d3,d4,d5⟩:=OSl.freezeK (f:=ZD.segs) (l:=[p]) (H:=H) ho7 e2
  simp only [Value.slice.injEq,List.length_cons,List.length_nil] at e3
  obtain ⟨rfl,_,rfl⟩:=e3
  have hle:=g1.trans (e1.trans d1)
  refine ⟨_,M8,[],rfl,hle,d2,rfl,_,3,_,[s7,⟨a2,c2,l2⟩,⟨a3,c3,l3⟩],rfl,Mem.get_of (Mem.add_self _ _ _) (e1.trans d1),?_,rfl,?_,?_⟩
  ·have e5:=e4.mono d1;rw [d3] at e5;exact e5
  ·intro s hs;simp only [List.mem_cons,List.not_mem_nil,or_false] at hs;rcases hs with rfl|rfl|rfl;exact d5;exact k2.mono hle;exact k3.mono hle
  ·simp [d4]
theorem all_seq (M:Mem) (q1 c:Nat) (ad:Option Addr) (rows:List (Sl ZD)) (h1:M q1=some (rowO [.one (.slice ad rows.length c)] 147)) (h2:SlM M ad (rows.map (fun s=>[.one s.val])) 1) (hn:rows.length=3) (h3:∀ s∈rows,SlK M ZD.segs 21 s):Seqs Tryz.prog 145 [.pointer (some ⟨q1,0,none⟩)] (fun p:ZD=>[p.enc]) (rows.map Sl.l).flatten M []:=by
  intro lp J Jx hR M0 Jb G w hm0 hJ hw
  have nrows:(rows.map (fun s:Sl ZD=>[Seg.one s.val])).length=rows.length:=List.length_map ..
  refine enter (S:=St M0 (Jb++G)) Tryz.func145 rfl Tryz.ntmps145 rfl hw ?_;refine ZI (Zm (l:=[0,1,2]) rfl ?_);refine X_load_mem rfl rfl rfl (by exact Mem.get_of (by assumption) (by repeat first|assumption|refine Mem.le.trans (by assumption) ?_)) F.lay147 rfl rfl rfl ?_;refine YX F.elem147 ?_;refine Zv ?_;refine Zo (Zn (Y_pk [9,8,7,0] ?_));refine Xd (Y_pk [9,8,7,0] ?_);refine VH (Hin:=Jb) (.succ .zero) (by repeat first|exact Rem.here _|exact Rem.two|apply Rem.skip|apply Rem.over) (fun (i:Nat) M9 h1 z=>z=[(9,.int .i64 (i:Int))]∧i≤rows.length∧J ((rows.take i).map Sl.l).flatten M9 h1) (fun i=>rows.length-i) (0) (⟨rfl,by omega,hJ⟩) ?_
  rintro i M1 h1 z hm1 ⟨rfl,hi,hJ1⟩
  have h2b:=h2.mono (hm0.trans hm1)
  refine ZI (Zm (l:=[0]) rfl ?_);refine Yz ?_;refine Zo (Zn (ZI ?_))
  refine Yx rfl (fun hc1=>?_) (fun hc1=>?_)
  ·replace hc1:=dT hc1
   refine Yv (Zn (ZI (Xd (ZI ?_))))
   have hi2:i<rows.length:=by omega
   obtain ⟨⟨r_a,r_c,r_l⟩,hr⟩:∃ s,rows[i]=s:=⟨_,rfl⟩
   have k_r:SlK M1 ZD.segs 21 ⟨r_a,r_c,r_l⟩:=hr ▸ (h3 rows[i] (List.getElem_mem hi2)).mono (hm0.trans hm1)
   have s_r:=k_r.h1
   have n_r:(r_l.map ZD.segs).length=r_l.length:=List.length_map ..
   have m_r:r_l.length≤9223372036854775807:=k_r.h2
   simp only at s_r
   refine Zm (l:=[0,1,2]) rfl ?_;refine YR rfl rfl rfl rfl F.elem147 (by rfl) (by omega) (by exact SlM.plain (by assumption) (by (simp;omega))) rfl ?_;refine Xo rfl rfl rfl (by assumption) (by exact XW (by omega)) F.lay26 rfl rfl rfl ?_
   rw [hr]
   refine ZB ?_;refine Zo (Zn (ZI (Zm (l:=[0,1,2]) rfl ?_)));refine Zv ?_;refine YX F.elem26 ?_;refine Zv ?_;refine Zo (Zn (Xd (Y_pk [15,14,13,4,12,11,10,9,8,7,0] ?_)));refine VH (Hin:=h1) (.succ .zero) (by repeat first|exact Rem.here _|exact Rem.two|apply Rem.skip|apply Rem.over) (fun (k:Nat) M9 h1 z=>z=[(15,.int .i64 (k:Int))]∧k≤r_l.length∧J (((rows.take i).map Sl.l).flatten++r_l.take k) M9 h1) (fun k=>r_l.length-k) (0) (⟨rfl,by omega,by rw [List.take_zero,List.append_nil];exact hJ1⟩) ?_
   rintro k M2 h2 z hm2 ⟨rfl,hk,hJ2⟩
   have s_r2:=s_r.mono hm2
   refine ZI (Zm (l:=[0]) rfl ?_);refine Yz ?_;refine Zo (Zn (ZI ?_))
   refine Yx rfl (fun hc2=>?_) (fun hc2=>?_)
   ·replace hc2:=dT hc2
    refine Yv (Zn (ZI (Xd (ZI (Zm (l:=[0,1,2,3]) rfl ?_)))));refine YR rfl rfl rfl rfl F.elem26 (by rfl) (by omega) (by exact SlM.plain (by assumption) (by (simp;omega))) rfl ?_;refine Xo rfl rfl rfl (by assumption) (by exact XW (by omega)) F.lay25 rfl rfl rfl ?_
    refine YT F.zero25 ?_;intro b3
    refine Yi F.lay25 ?_;refine Zo (Zn (ZI (C_regionR (l:=[0,1,2,3]) (Hin:=h2) (by repeat first|exact Rem.here _|exact Rem.two|apply Rem.skip|apply Rem.over) rfl ?_)));refine Zv ?_;refine ZH F.lay25 ?_;refine X_yield (x:=r_l[k]) (pre:=((rows.take i).map Sl.l).flatten++r_l.take k) (post:=r_l.drop (k+1)++((rows.drop (i+1)).map Sl.l).flatten) (Hb:=h2) rfl rfl rfl rfl rfl hR (flat_at hi2 hr (by omega)) (hm0.trans (hm1.trans hm2)) hJ2 (by repeat first|exact Rem.here _|exact Rem.two|apply Rem.skip|apply Rem.over) rfl (fun _ _ _ hm hw=>(hw.lower hm).c) rfl ?_ ?_
    ·intro M3 Jb3 hm3 hJ3
     refine Xx ?_;refine Zo (Zn (Ws rfl ?_));refine Yv (XV (Zn (Zm (l:=[0,1]) rfl ?_)));refine XN rfl rfl rfl rfl rfl (by exact Xn (by decide) (by omega)) rfl ?_;refine Zv ?_;refine Zo ?_;refine Wq (a':=[(15,_)]) (k+1) (Jb3) (.cons (k:=15) rfl (.cons (k:=14) rfl (.cons (k:=13) rfl (.cons (k:=4) rfl (.cons (k:=12) rfl (.cons (k:=11) rfl (.cons (k:=10) rfl (.cons (k:=9) rfl (.cons (k:=8) rfl (.cons (k:=7) rfl (.cons (k:=0) rfl (.nil)))))))))))) (hm2.trans hm3) (fun w hw=>by first|exact hw|exact hw.c) ?_ ?_
     ·exact ⟨rfl,by omega,by rw [List.take_add_one,List.getElem?_eq_getElem (by omega:k<r_l.length),← List.append_assoc];exact hJ3⟩
     ·omega
    ·intro M3 Jb3 hm3 hJ3
     refine Xx ?_;refine Zo (Zn (Xe rfl ?_));refine Yg (Xi ?_)
     iterate 2 refine YG ?_
     iterate 2 refine Xi ?_
     iterate 2 refine YG ?_
     refine Xi ?_
     refine Ya (.inr rfl) (.nil) (fun w hw=>?_)
     exact ⟨_,M3,Jb3,rfl,hm1.trans (hm2.trans hm3),hw.c,.inr ⟨_,_,flat_rest hi2 hr (by omega),hJ3⟩⟩
   ·replace hc2:=dF hc2
    refine XS ?_
    iterate 2 refine XM ?_
    refine Wl (XV (Zn (Zm (l:=[0,1]) rfl ?_)));refine XN rfl rfl rfl rfl rfl (by exact Xn (by decide) (by omega)) rfl ?_;refine Zv ?_;refine Zo ?_;refine Wq (a':=[(9,_)]) (i+1) (h2) (.cons (k:=9) rfl (.cons (k:=8) rfl (.cons (k:=7) rfl (.cons (k:=0) rfl (.nil))))) (hm1.trans hm2) (fun w hw=>by first|exact hw|exact hw.c) ?_ ?_
    ·exact ⟨rfl,by omega,by obtain rfl:k=r_l.length:=(by omega);rw [flat_next hi2 hr,← List.take_length (l:=r_l)];exact hJ2⟩
    ·omega
  ·replace hc1:=dF hc1
   refine XS ?_
   iterate 2 refine XM ?_
   refine Wl ?_
   refine Ya (.inl rfl) (.nil) (fun w hw=>?_)
   obtain rfl:i=rows.length:=by omega
   exact ⟨_,M1,h1,rfl,hm1,hw.c,.inl (by rw [List.take_length] at hJ1;exact hJ1)⟩
theorem isNaN_ok (M:Mem) (x:Int):Fs Tryz.prog 148 [.int .i64 x] M (fun v=>v=Value.bool (decide (False))):=by
  refine Xm Tryz.func148 rfl Tryz.ntmps148 rfl ?_;intro H
  refine ZI (Zm (l:=[0]) rfl ?_);refine ZB ?_;refine Zo (Zn (ZI (Zm (l:=[0,1,2,3]) rfl ?_)))
  iterate 2 refine Zv ?_
  refine Yz ?_;refine ZB ?_;refine Zo (Zn (Y_pk [2] ?_));refine Yg ?_
  refine Ya (.inr rfl) (.tmp rfl .nil) (fun w hw=>?_)
  refine ⟨_,rfl,(hw.c),?_⟩
  clear hw
  refine congrArg Value.bool ?_
  simp
theorem Compare_ok (M:Mem) (x:Int) (y:Int):Fs Tryz.prog 129 [.int .i64 x,.int .i64 y] M (fun v=>v= (.int .i64 (cmp3 x y))):=by
  refine Xm Tryz.func129 rfl Tryz.ntmps129 rfl ?_;intro H
  refine ZI (Zm (l:=[0]) rfl ?_);refine ZB ?_;refine Zo (Zn (ZI (Zm (l:=[0,1,2]) rfl ?_)));refine Zv ?_;refine X_fs rfl rfl F.ok148 rfl (isNaN_ok _ _) rfl ?_
  rintro _ rfl
  refine ZB ?_;refine Zo (Zn (Y_pk [5,4,0,1] ?_));refine ZI (Zm (l:=[0,1,2]) rfl ?_);refine Zv ?_;refine X_fs rfl rfl F.ok148 rfl (isNaN_ok _ _) rfl ?_
  rintro _ rfl
  refine ZB ?_;refine Zo (Zn (Y_pk [6,5,4,0,1] ?_))
  iterate 2 refine ZI ?_
  refine Zm (l:=[0]) rfl ?_;refine Zv ?_;refine Zo (Zn (Y_pk [11,6,4,0,1] ?_))
  refine Yx rfl (fun hc1=>?_) (fun hc1=>?_)
  ·replace hc1:=dT hc1
   (exfalso;omega)
  ·replace hc1:=dF hc1
   refine Yv (Zn (Y_pk [6,4,0,1] ?_))
   iterate 2 refine ZI ?_
   refine Zm (l:=[0]) rfl ?_;refine Zv ?_;refine Zo (Zn (Y_pk [13,4,0,1] ?_))
   refine Yx rfl (fun hc2=>?_) (fun hc2=>?_)
   ·replace hc2:=dT hc2
    (exfalso;omega)
   ·replace hc2:=dF hc2
    refine Yv (Zn (Y_pk [4,0,1] ?_))
    iterate 2 refine ZI ?_
    refine Zm (l:=[0,1,2]) rfl ?_
    iterate 2 refine Zv ?_
    refine Yz ?_;refine Zo (Zn (Y_pk [16,4,0,1] ?_))
    refine Yx rfl (fun hc3=>?_) (fun hc3=>?_)
    ·replace hc3:=dT hc3
     refine ZI (Zm (l:=[0]) rfl ?_);refine ZB ?_;refine Zo (Zn (Y_pk [4,0,1] ?_));refine Yg (YG ?_)
     refine Ya (.inr rfl) (.tmp rfl .nil) (fun w hw=>?_)
     refine ⟨_,rfl,(hw.c),?_⟩
     clear hw
     refine congrArg (Value.int .i64) ?_
     unfold cmp3
     (rw [if_pos (by omega)];done)
    ·replace hc3:=dF hc3
     refine Yv (Zn (Y_pk [4,0,1] ?_))
     iterate 2 refine ZI ?_
     refine Zm (l:=[0,1,2]) rfl ?_
     iterate 2 refine Zv ?_
     refine Yz ?_;refine Zo (Zn (Y_pk [19,4] ?_))
     refine Yx rfl (fun hc4=>?_) (fun hc4=>?_)
     ·replace hc4:=dT hc4
      refine ZI (Zm (l:=[0]) rfl ?_);refine ZB ?_;refine Zo (Zn (Y_pk [4] ?_));refine Yg (YG ?_)
      refine Ya (.inr rfl) (.tmp rfl .nil) (fun w hw=>?_)
      refine ⟨_,rfl,(hw.c),?_⟩
      clear hw
      refine congrArg (Value.int .i64) ?_
      unfold cmp3
      (rw [if_neg (by omega),if_pos (by omega)];done)
     ·replace hc4:=dF hc4
      refine Yv (Zn (Y_pk [4] ?_));refine ZI (Zm (l:=[0]) rfl ?_);refine ZB ?_;refine Zo (Zn (Yg ?_))
      refine Ya (.inr rfl) (.tmp rfl .nil) (fun w hw=>?_)
      refine ⟨_,rfl,(hw.c),?_⟩
      clear hw
      refine congrArg (Value.int .i64) ?_
      unfold cmp3
      (rw [if_neg (by omega),if_neg (by omega)];done)
theorem byAddr_ok (M:Mem) (x:ZD) (y:ZD):Fs Tryz.prog 128 [x.enc,y.enc] M (fun v=>v= (.int .i64 (cmp3 x.addr y.addr))):=by
  obtain ⟨x_addr,x_id⟩:=x
  obtain ⟨y_addr,y_id⟩:=y
  refine Xm Tryz.func128 rfl Tryz.ntmps128 rfl ?_;intro H
  refine ZI (Zm (l:=[0,1,2]) rfl ?_)
  refine Xk ?_;intro b1
  refine Xk ?_;intro b2
  refine ZB ?_;refine Zo (Zn (Y_pk [4,3,2] ?_));refine ZI (Zm (l:=[0,1,2,3,4,5]) rfl ?_);refine Zk F.foff25_0 ?_;refine ZH F.lay3 ?_;refine Zk F.foff25_0 ?_;refine ZH F.lay3 ?_;refine X_fs rfl rfl F.ok129 rfl (Compare_ok _ _ _) rfl ?_
  rintro _ rfl
  refine ZB ?_;refine Zo (Zn (Y_pk [4] ?_));refine Yg ?_
  refine Ya (.inr rfl) (.tmp rfl .nil) (fun w hw=>?_)
  refine ⟨_,rfl,(hw.c),?_⟩
  clear hw
  rfl
end Go.Proofs.YtajmnjefajknoaaGreat
namespace Go.Proofs
open Go.Shelf
def Tryz.sortL_ren:Go.Shelf.Ren:=⟨fun|6=>127|15=>147|14=>146|28=>162|29=>163|20=>154|21=>155|22=>156|23=>157|24=>158|25=>159|26=>160|27=>161|46=>166|47=>167|48=>168|49=>169|50=>170|57=>171|n=>n,fun|22=>26|24=>25|25=>137|3=>3|39=>129|0=>0|53=>152|55=>29|4=>4|46=>160|45=>159|50=>94|5=>5|9=>9|66=>168|70=>99|76=>173|77=>174|n=>n,fun|n=>n⟩
theorem Tryz.sortL:Go.Proofs.SlLaysF0.n6 Tryz.prog Tryz.sortL_ren:={
  mixed:=by kernel_rfl
  f6:=⟨Tryz.f127.name,by decide,Tryz.func127.trans (congrArg some (by kernel_rfl))⟩
  f14:=⟨Tryz.f146.name,by decide,Tryz.func146.trans (congrArg some (by kernel_rfl))⟩
  f15:=Tryz.func147.trans (congrArg some (by kernel_rfl))
  f20:=⟨Tryz.f154.name,by decide,Tryz.func154.trans (congrArg some (by kernel_rfl))⟩
  f21:=⟨Tryz.f155.name,by decide,Tryz.func155.trans (congrArg some (by kernel_rfl))⟩
  f22:=⟨Tryz.f156.name,by decide,Tryz.func156.trans (congrArg some (by kernel_rfl))⟩
  f23:=⟨Tryz.f157.name,by decide,Tryz.func157.trans (congrArg some (by kernel_rfl))⟩
  f24:=⟨Tryz.f158.name,by decide,Tryz.func158.trans (congrArg some (by kernel_rfl))⟩
  f25:=⟨Tryz.f159.name,by decide,Tryz.func159.trans (congrArg some (by kernel_rfl))⟩
  f26:=⟨Tryz.f160.name,by decide,Tryz.func160.trans (congrArg some (by kernel_rfl))⟩
  f27:=⟨Tryz.f161.name,by decide,Tryz.func161.trans (congrArg some (by kernel_rfl))⟩
  f28:=Tryz.func162.trans (congrArg some (by kernel_rfl))
  f29:=Tryz.func163.trans (congrArg some (by kernel_rfl))
  f46:=⟨Tryz.f166.name,by decide,Tryz.func166.trans (congrArg some (by kernel_rfl))⟩
  f47:=Tryz.func167.trans (congrArg some (by kernel_rfl))
  f48:=Tryz.func168.trans (congrArg some (by kernel_rfl))
  f49:=⟨Tryz.f169.name,by decide,Tryz.func169.trans (congrArg some (by kernel_rfl))⟩
  f50:=⟨Tryz.f170.name,by decide,Tryz.func170.trans (congrArg some (by kernel_rfl))⟩
  f57:=⟨Tryz.f171.name,by decide,Tryz.func171.trans (congrArg some (by kernel_rfl))⟩
  t0:=Tryz.underlying0
  a0:=Tryz.isAgg0
  z0:=Tryz.sizeOf0
  v0:=Tryz.zeroValue0
  t3:=Tryz.underlying3
  a3:=Tryz.isAgg3
  z3:=Tryz.sizeOf3
  v3:=Tryz.zeroValue3
  t4:=Tryz.underlying4
  a4:=Tryz.isAgg4
  z4:=Tryz.sizeOf4
  v4:=Tryz.zeroValue4
  t5:=Tryz.underlying5
  a5:=Tryz.isAgg5
  z5:=Tryz.sizeOf5
  v5:=Tryz.zeroValue5
  t9:=Tryz.underlying9
  a9:=Tryz.isAgg9
  z9:=Tryz.sizeOf9
  v9:=Tryz.zeroValue9
  t22:=Tryz.underlying26
  a22:=Tryz.isAgg26
  z22:=Tryz.sizeOf26
  v22:=Tryz.zeroValue26
  t25:=Tryz.underlying137
  a25:=Tryz.isAgg137
  z25:=Tryz.sizeOf137
  v25:=Tryz.zeroValue137
  t39:=Tryz.underlying129
  a39:=Tryz.isAgg129
  z39:=Tryz.sizeOf129
  v39:=Tryz.zeroValue129
  t45:=Tryz.underlying159
  a45:=Tryz.isAgg159
  z45:=Tryz.sizeOf159
  v45:=Tryz.zeroValue159
  t46:=Tryz.underlying160
  a46:=Tryz.isAgg160
  z46:=Tryz.sizeOf160
  v46:=Tryz.zeroValue160
  t50:=Tryz.underlying94
  a50:=Tryz.isAgg94
  z50:=Tryz.sizeOf94
  v50:=Tryz.zeroValue94
  t53:=Tryz.underlying152
  a53:=Tryz.isAgg152
  z53:=Tryz.sizeOf152
  v53:=Tryz.zeroValue152
  t55:=Tryz.underlying29
  a55:=Tryz.isAgg29
  z55:=Tryz.sizeOf29
  v55:=Tryz.zeroValue29
  t66:=Tryz.underlying168
  a66:=Tryz.isAgg168
  z66:=Tryz.sizeOf168
  v66:=Tryz.zeroValue168
  t70:=Tryz.underlying99
  a70:=Tryz.isAgg99
  z70:=Tryz.sizeOf99
  v70:=Tryz.zeroValue99
  t76:=Tryz.underlying173
  a76:=Tryz.isAgg173
  z76:=Tryz.sizeOf173
  v76:=Tryz.zeroValue173
  t77:=Tryz.underlying174
  a77:=Tryz.isAgg174
  z77:=Tryz.sizeOf174
  v77:=Tryz.zeroValue174 }
end Go.Proofs
namespace Go.Esp
open Go.Proofs Go.Shelf Go.RowKit Go.Lib Go.Sort
def memS (W:World):Mem:=⟨fun b=>W.heap[b]?,W.os,W.tape,W.output,W.drawn⟩
theorem St.startS (W:World):St (memS W) [] W:=⟨fun _ _ h=>h,fun _ _ h=>(by cases h),fun _ _ h=>(by cases h),List.nodup_nil,rfl,rfl,rfl,Nat.le_refl _⟩
theorem lays_of_fs {P:Program} {g:FuncId} {vs:List Value} {r:Value} (h:∀ M,Fs P g vs M (fun v=>v=r)) (W:World):Calls P g vs.toArray W fun e w'=>e=.returned r∧∃ q os',w'=grow (W.drewN q) os':=by
  refine (h (memS W) [] W (St.startS W)).mono ?_
  rintro e w' ⟨v,rfl,hst,rfl⟩
  refine ⟨rfl,w'.drawn-W.drawn,w'.heap.extract W.heap.size w'.heap.size,?_⟩
  have hp:∀ b o,W.heap[b]?=some o→w'.heap[b]?=some o:=hst.mem
  obtain ⟨h1,h2,h3,h4⟩:=hst.io
  have hle:W.heap.size≤w'.heap.size:=by
    rcases Nat.eq_zero_or_pos W.heap.size with h0|h0
    · omega
    · have:=hp (W.heap.size-1) _ (Array.getElem?_eq_getElem (by omega))
      have:=(Array.getElem?_eq_some_iff.1 this).1
      omega
  have hh:w'.heap=W.heap++w'.heap.extract W.heap.size w'.heap.size:=by
    apply Array.ext_getElem?
    intro i
    rw [Array.getElem?_append]
    split
    · rename_i hi
      rw [hp i _ (Array.getElem?_eq_getElem hi),Array.getElem?_eq_getElem hi]
    · rename_i hi
      rw [Array.getElem?_extract]
      rw [show W.heap.size+(i-W.heap.size)=i by omega]
      split
      · rfl
      · rw [Array.getElem?_eq_none];omega
  cases w' with
  | mk heap tape drawn os output =>
    simp only [grow,World.drewN,World.mk.injEq]
    simp only [memS] at h1 h2 h3 h4
    exact ⟨hh,h2,(Nat.add_sub_cancel' h4).symm,h1,h3⟩
section
variable {α:Type} [Inhabited α] {f:α→Segs} {sz:Nat}
theorem rowsCells_get {rows:List Segs} (h:lens sz rows) {j i:Nat} {r:Segs} (hr:rows[j]?=some r) (hi:i<sz):(Ye rows)[j * sz+i]?=(Segs.cells r)[i]?:=by
  rw [← rowsCells_at h hr,List.getElem?_take,if_pos hi,List.getElem?_drop]
theorem flat_get (hpos:0<sz) (hk:∀ x,(Segs.cells (f x)).length=sz) {l:List α} (hl:lens sz (l.map f)) {t:Nat} (ht:t<l.length * sz) :
    (Ye (l.map f))[t]?=some ((flatK (fun x=>Segs.cells (f x)) sz l.toArray)[t]!):=by
  have hj:t / sz<l.length:=(Nat.div_lt_iff_lt_mul hpos).2 ht
  have hm:=Nat.mod_lt t hpos
  have h:=rowsCells_get hl (j:=t / sz) (i:=t % sz) (r:=f l[t / sz]) (by rw [List.getElem?_map,List.getElem?_eq_getElem hj];rfl) hm
  rw [Nat.div_add_mod'] at h
  rw [h,get_flatK _ _ _ _ (by simpa using ht)]
  have e:l.toArray[t / sz]! = l[t / sz]:=by rw [getElem!_pos _ _ (by simpa using hj)];simp
  rw [e,List.getElem?_eq_getElem (by rw [hk];exact hm)]
  congr 1
  rw [getElem!_pos _ _ (by rw [hk];exact hm)]
theorem st_sorted {M:Mem} {H:Hp} {w:World} {b T:Nat} {cur F:Array Value} (hw:St M ((b,.cells cur T (0,0))::H) w) (n:Nat) (os:Array Obj) :
    St M ((b,.cells (putCells id 0 F cur) T (0,0))::H) (grow (putRow id (Sort.ahead w n) b 0 F) os):=by
  have hb:=hw.own b _ (.head _)
  have hlt:=(Array.getElem?_eq_some_iff.1 hb).1
  refine hw.upd .head ?_ (fun c hc x hx=>?_) ⟨rfl,rfl,rfl,Nat.le_add_right _ _⟩
  · show ((w.heap.modify b _)++os)[b]?=_
    rw [Array.getElem?_append_left (by simpa using hlt),Array.getElem?_modify,if_pos rfl,hb]
    rfl
  · show ((w.heap.modify b _)++os)[c]?=_
    have hcl:=(Array.getElem?_eq_some_iff.1 hx).1
    rw [Array.getElem?_append_left (by simpa using hcl),Array.getElem?_modify,if_neg (Ne.symm hc),hx]
theorem sort_fh {P:Program} {ρ:Ren} (L:SlLaysF0.n6 P ρ) (aE:∀ w,(isAgg (ρ.t 24)).run P w=.ok true w) (zE:∀ w,(Go.sizeOf (ρ.t 24)).run P w=.ok sz w) (hpos:0<sz) (hk:∀ x,(Segs.cells (f x)).length=sz)
    (h1:∀ x,∀ v∈Segs.cells (f x),v.oneCell'=true) (cf:α→α→Int) (hO:SWO (ltOf cf)) (g:FuncId) (hg:okFn P g=true) (hc:∀ M x y,Fs P g [aggV (f x),aggV (f y)] M (fun v=>v=.int .i64 (cf x y)))
    {T b c:Nat} {l:List α} {hs:Hp} (ho:OSl T sz (.slice (some ⟨b,0,none⟩) l.length c) hs (l.map f)) (hl:l.length≤1000000) (M:Mem) :
    Fh P (ρ.f 6) [.slice (some ⟨b,0,none⟩) l.length c,.func (.func g) #[] #[]] M hs (fun M' v Hout=>M'=M∧v=.tuple #[]∧∃ l':List α,l'.Perm l∧l'.Pairwise (fun x y=>¬cf y x<0)∧OSl T sz (.slice (some ⟨b,0,none⟩) l.length c) Hout (l'.map f)):=by
  obtain ⟨cur,rfl,hl0,hlens,hle,hcm,hcs,htk⟩:=ho.inv
  have hml:(l.map f).length=l.length:=List.length_map ..
  rw [hml] at hle htk
  intro H w hw
  have hb:=hw.own b _ (.head _)
  have hlt:=(Array.getElem?_eq_some_iff.1 hb).1
  have hsz:l.length * sz≤cur.size:=by rw [hcs];exact Nat.mul_le_mul_right _ hle
  have hH:HoldsK (fun x=>Segs.cells (f x)) sz w b 0 l.toArray:=by
    intro j hj
    have hj':j<l.length * sz:=by simpa using hj
    refine ⟨?_,?_⟩
    · unfold World.cell?
      simp only [hb,Option.isSome_none,Bool.false_eq_true,if_false,Nat.zero_add,id]
      rw [← flat_get hpos hk hlens hj',← htk,List.getElem?_take,if_pos hj']
      simp
    · unfold World.frozen?
      simp only [hb]
      simp
  have hcl:CmpLays P g #[] (fun x=>Segs.cells (f x)) sz cf b 0 l.toArray.size w:=fun m os dk _ x y=>lays_of_fs (fun M=>hc M x y) _
  have key:=AnyQ.slices_SortFunc L sz aE zE (fun x=>Segs.cells (f x)) hk h1 cf hO g #[] b 0 c l.toArray w (fun args w=>callFunc_run hg) hcl hH hlt (by simp;omega)
  rw [show l.toArray.size=l.length from by simp] at key
  refine key.mono ?_
  rintro e w' ⟨rfl,d',n,os,⟨hp1,_,hp3⟩,hs1,rfl⟩
  have hd:d'.size=l.length:=by simpa using hp1
  have hst:=st_sorted (F:=flatK (fun x=>Segs.cells (f x)) sz d') hw n os
  have hperm:d'.toList.Perm l:=by
    have h9:=hp3
    rw [show d'.extract 0 l.length=d' from by rw [← hd];simp,show l.toArray.extract 0 l.length=l.toArray from by rw [show l.length=l.toArray.size from by simp];simp] at h9
    simpa using h9
  have hlens':lens sz (d'.toList.map f):=fun r hr=>by
    obtain ⟨x,hx,rfl⟩:=List.mem_map.1 hr
    rw [← Segs.cells_length];exact hk x
  refine ⟨_,M,[(b,.cells (putCells id 0 (flatK (fun x=>Segs.cells (f x)) sz d') cur) T (0,0))],rfl,Mem.le.refl M,hst,rfl,rfl,d'.toList,hperm,?_,?_⟩
  · rw [List.pairwise_iff_getElem]
    intro i j hi hj hij
    have h9:=hs1 i j (Nat.zero_le _) hij (by rw [← hd];simpa using hj)
    rw [getElem!_pos _ _ (by simpa using hj),getElem!_pos _ _ (by simpa using hi)] at h9
    unfold ltOf at h9
    simpa using h9
  · have hln:(d'.toList.map f).length=l.length:=by simpa using hd
    have:=OSl.own (T:=T) b c (d'.toList.map f) (putCells id 0 (flatK (fun x=>Segs.cells (f x)) sz d') cur) hlens' (by rw [hln];exact hle) hcm (by simpa [putCells] using hcs) ?_
    · rw [hln] at this;exact this
    · apply List.ext_getElem?
      intro t
      rw [List.getElem?_take]
      by_cases ht:t<(d'.toList.map f).length * sz
      · rw [if_pos ht]
        have ht':t<d'.toList.length * sz:=by simpa using ht
        rw [flat_get hpos hk hlens' ht']
        have htc:t<cur.size:=by rw [hln] at ht;omega
        simp only [putCells,Array.getElem?_toList,Array.getElem?_mapIdx,Array.getElem?_eq_getElem htc,Option.map_some]
        rw [if_pos ⟨Nat.zero_le _,by simpa using ht⟩]
        simp
      · rw [if_neg ht,List.getElem?_eq_none]
        rw [rowsCells_len hlens'];omega
end
end Go.Esp
namespace Go.Proofs.YtajmnjefajknoaaGreat
open Go.Esp
theorem F.ok128:okFn Tryz.prog 128=true:=by kernel_rfl
theorem F.ok146:okFn Tryz.prog 146=true:=by kernel_rfl
theorem F.ok147:okFn Tryz.prog 147=true:=by kernel_rfl
theorem F.ok154:okFn Tryz.prog 154=true:=by kernel_rfl
theorem Ins_nil (M:Mem) (g:FuncId):Fs Tryz.prog 154 [.slice none 0 0,.int .i64 0,.int .i64 0,.func (.func g) #[] #[]] M (fun v=>v=.tuple #[]):=by
  refine Xm Tryz.func154 rfl Tryz.ntmps154 rfl ?_;intro H
  refine ZI (Zm (l:=[0,1,2]) rfl ?_);refine Zv ?_;refine XN rfl rfl rfl rfl rfl (by exact Xn (by decide) (by omega)) rfl ?_;refine ZB ?_;refine Zo (Zn (Y_pk [8,0,1,2,3] ?_));refine Xd (Y_pk [8,0,1,2,3] ?_);refine WH (.succ .zero) (fun (_:Nat) z=>z=[(8,.int .i64 1)]) (fun _=>1) (0) (rfl) ?_
  rintro _ _ rfl
  iterate 2 refine ZI ?_
  refine Zm (l:=[0,1,2]) rfl ?_
  iterate 2 refine Zv ?_
  refine Yz ?_;refine Zo (Zn ?_)
  refine Yx rfl (fun hc1=>?_) (fun hc1=>?_)
  ·replace hc1:=dT hc1
   (exfalso;omega)
  ·replace hc1:=dF hc1
   refine XS ?_
   iterate 2 refine XM ?_
   refine Wl ?_
   refine Ya (.inl rfl) (.nil) (fun w hw=>?_)
   exact ⟨_,rfl,hw.c,rfl⟩
theorem Pdq_nil (M:Mem) (g:FuncId) (lim:Int):Fs Tryz.prog 146 [.slice none 0 0,.int .i64 0,.int .i64 0,.int .i64 lim,.func (.func g) #[] #[]] M (fun v=>v=.tuple #[]):=by
  refine Xm Tryz.func146 rfl Tryz.ntmps146 rfl ?_;intro H
  refine ZI (Zm (l:=[0]) rfl ?_);refine ZB ?_;refine Zo (Zn (ZI (Zm (l:=[0]) rfl ?_)));refine ZB ?_;refine Zo (Zn (Xd (Y_pk [1,2,3,10,11,0,4] ?_)));refine WH (.succ (.succ (.succ (.succ (.succ .zero))))) (fun (_:Nat) z=>z=[(1,.int .i64 0),(2,.int .i64 0),(3,.int .i64 lim),(10,.bool true),(11,.bool true)]) (fun _=>1) (0) (rfl) ?_
  rintro _ _ rfl
  refine Xd (ZI (Zm (l:=[0,1,2,3]) rfl ?_))
  iterate 2 refine Zv ?_
  refine XN rfl rfl rfl rfl rfl (by exact Xn (by decide) (by omega)) rfl ?_;refine ZB ?_;refine Zo (Zn ?_)
  iterate 2 refine ZI ?_
  refine Zm (l:=[0,1]) rfl ?_;refine Zv ?_;refine Yz ?_;refine Zo (Zn ?_)
  refine Yx rfl (fun hc1=>?_) (fun hc1=>?_)
  ·replace hc1:=dT hc1
   refine ZI (Zm (l:=[0,1,2,3,4]) rfl ?_)
   iterate 4 refine Zv ?_
   refine X_fs rfl rfl F.ok154 rfl (Ins_nil M g) rfl ?_
   rintro _ rfl
   refine Zo (Zn (Y_pk [29,28,27,26,25,24,12,23,22,21,1,2,3,10,11,0,4] ?_));refine Yg (YG (Xi (YG (Xi ?_))))
   refine Ya (.inr rfl) (.nil) (fun w hw=>?_)
   exact ⟨_,rfl,hw.c,rfl⟩
  ·replace hc1:=dF hc1
   (exfalso;omega)
theorem Len_nil (M:Mem):Fs Tryz.prog 147 [.int .u64 0] M (fun v=>v=.int .i64 (Lib.bitLen 0)):=fun H w hw=>(Any.bits_Len (SlLaysF0.n15.bits (P:=Tryz.prog) (ρ:=Tryz.sortL_ren) { Tryz.sortL with }) 0 w (by omega) (by omega)).mono fun _ _ ⟨he,hw2⟩=>⟨_,he,by rw [hw2];exact hw,rfl⟩
theorem Sort_nil (M:Mem) (g:FuncId):Fs Tryz.prog 127 [.slice none 0 0,.func (.func g) #[] #[]] M (fun v=>v=.tuple #[]):=by
  refine Xm Tryz.func127 rfl Tryz.ntmps127 rfl ?_;intro H
  refine ZI (Zm (l:=[0,1,2]) rfl ?_);refine Zv ?_;refine YX F.elem26 ?_;refine ZB ?_;refine Zo (Zn (Y_pk [4,0,1] ?_));refine Zm (l:=[0,1,2,3,4,5,6]) rfl ?_
  iterate 3 refine Zv ?_
  refine X_conv rfl rfl rfl Tryz.underlying3 Tryz.underlying129 (by exact wrap_u64_in (by decide) (by omega)) rfl ?_;refine X_fs rfl rfl F.ok147 rfl (Len_nil M) rfl ?_
  rintro _ rfl
  refine Zv ?_;refine X_fs rfl rfl F.ok146 rfl (Pdq_nil M g _) rfl ?_
  rintro _ rfl
  refine Zo ?_
  refine Ya (.inl rfl) (.nil) (fun w hw=>?_)
  exact ⟨_,rfl,hw.c,rfl⟩
instance:Inhabited ZD:=⟨⟨0,0⟩⟩
theorem byAddr_swo:Sort.SWO (ltOf fun x y:ZD=>cmp3 x.addr y.addr):=by
  have e:∀ x y:ZD,ltOf (fun x y:ZD=>cmp3 x.addr y.addr) x y=decide (x.addr<y.addr):=by
   intro x y;unfold ltOf cmp3;by_cases h:x.addr<y.addr <;> simp [h];split <;> omega
  exact ⟨fun x=>by rw [e];simp,fun x y z h1 h2=>by rw [e] at *;simp at *;omega,fun x y z h1 h2=>by rw [e] at *;simp at *;omega⟩
theorem Sort_ok (M:Mem) (a:Option Addr) (c:Nat) (l:List ZD) (hs:Hp) (ho:OSl 25 21 (.slice a l.length c) hs (l.map ZD.segs)) (hl:l.length≤1000000):Fh Tryz.prog 127 [.slice a l.length c,.func (.func 128) #[] #[]] M hs (fun M' v Hout=>M'=M∧v=.tuple #[]∧∃ l':List ZD,l'.Perm l∧l'.Pairwise (fun x y=>x.addr≤y.addr)∧OSl 25 21 (.slice a l.length c) Hout (l'.map ZD.segs)):=by
  cases a with
  |none =>
   obtain ⟨rfl,rfl,rfl⟩:=ho.noneAll
   exact fun H w hw=>(Sort_nil M 128 H w hw).mono fun e w' ⟨v,he,hst,hv⟩=>⟨v,M,[],he,Mem.le.refl M,hst,rfl,hv,[],.refl _,.nil,OSl.nil⟩
  |some ad =>
   obtain ⟨b,rfl⟩:=ho.someAll
   have key:=sort_fh (f:=ZD.segs) (sz:=21) Tryz.sortL Tryz.isAgg25 Tryz.sizeOf25 (by decide) (fun x=>(Segs.cells_length _).trans (ZD.len x)) (fun x=>ZD.flat x) (fun x y:ZD=>cmp3 x.addr y.addr) byAddr_swo 128 F.ok128 (fun M x y=>byAddr_ok M x y) ho hl M
   exact fun H w hw=>(key H w hw).mono fun e w' ⟨v,M2,Ho,he,hle,hst,hM,hv,l2,h1,h2,h3⟩=>⟨v,M2,Ho,he,hle,hst,hM,hv,l2,h1,h2.imp (fun h=>by unfold cmp3 at h;split at h <;> (try split at h) <;> omega),h3⟩
end Go.Proofs.YtajmnjefajknoaaGreat
namespace Go.Proofs.YtajmnjefajknoaaGreat
open Go.Esp
theorem F.ok126:okFn Tryz.prog 126=true:=by kernel_rfl
theorem F.ok127:okFn Tryz.prog 127=true:=by kernel_rfl
theorem F.ok145:okFn Tryz.prog 145=true:=by kernel_rfl
theorem F.zero26:Wa Tryz.prog 26=some ((.slice none 0 0)):=by kernel_rfl
theorem Known_ok (M:Mem) (t:ZL) (ht0:ZL.ok M t) (hbig:t.succ.l.length≤40∧t.fingers.l.length≤200):Esp.Fn Tryz.prog 90 [t.enc] M (fun M' v=>PsIs M' v (knownT t.tb)):=by
  obtain ⟨⟨ZZ,Yp⟩,⟨Yr,YE⟩,⟨Yu,Yt,ZW⟩,⟨Yc,Yb,ZJ⟩⟩:=t
  have YS:SlK M ZD.segs 21 ⟨Yu,Yt,ZW⟩:=ht0.h0
  have WQ:SlM M Yu (ZW.map ZD.segs) 21:=YS.h1
  have WR:(ZW.map ZD.segs).length=ZW.length:=List.length_map ..
  have WS:ZW.length≤9223372036854775807:=YS.h2
  have WU:ZW.length≤Yt:=YS.h3
  have Yw:SlK M ZD.segs 21 ⟨Yc,Yb,ZJ⟩:=ht0.h1
  have Wb:SlM M Yc (ZJ.map ZD.segs) 21:=Yw.h1
  have Wi:(ZJ.map ZD.segs).length=ZJ.length:=List.length_map ..
  have Wc:ZJ.length≤9223372036854775807:=Yw.h2
  have Wj:ZJ.length≤Yb:=Yw.h3
  simp only at hbig
  refine fnM_enter Tryz.func90 rfl Tryz.ntmps90 rfl ?_;intro H
  refine ZI (Zm (l:=[0,1]) rfl ?_)
  refine Xk ?_;intro b1
  refine ZB ?_;refine Zo (Zn (Y_pk [2,1] ?_));refine ZI (Zm (l:=[0]) rfl ?_)
  refine YT F.zero26 ?_;intro b2
  refine Zo (Zn ?_)
  iterate 2 refine ZI ?_
  refine Zm (l:=[0,1,2,3,4,5,6,7,8]) rfl ?_;refine Zk F.foff28_1 ?_;refine ZH F.lay25 ?_
  refine XB rfl rfl F.elem26 F.zero25 rfl rfl (.cons rfl (by constructor) .nil) rfl rfl (by simp only [List.map_cons,List.map_nil] <;> rfl) rfl ?_;intro b3 hob4
  refine Zk F.foff28_2 ?_;refine ZH F.lay26 ?_;refine Zk F.foff28_3 ?_;refine ZH F.lay26 ?_
  refine XB rfl rfl F.elem147 F.zero26 rfl rfl (.cons rfl (by constructor) (.cons rfl (by constructor) (.cons rfl (by constructor) .nil))) rfl rfl (by simp only [List.map_cons,List.map_nil] <;> rfl) rfl ?_;intro b5 hob6
  refine X_fhR2 rfl rfl F.ok126 rfl (all_ok M _ _ _ _ ⟨Yr,YE⟩ Yu Yt ZW Yc Yb ZJ hob6 hob4 YS Yw) (by repeat first|exact Rem.here _|exact Rem.two|apply Rem.skip|apply Rem.over) (by repeat first|exact Rem.here _|exact Rem.two|apply Rem.skip|apply Rem.over) (by rintro v M9 Hout w hm ⟨rfl,_⟩ hw;exact (hw.lower hm).c) (YA rfl) ?_
  rintro _ M1 _ hm1 ⟨rfl,q1,qc,qad,qrows,rfl,hq1,hq2,hqn,hq3,hqx⟩
  simp only [List.nil_append]
  refine Zo (Zn (Y_pk [13,3,2,1] ?_));refine Xd (Y_pk [13,3,2,1] ?_);refine C_rangeFunc (enc:=fun p:ZD=>[p.enc]) (xs:=(qrows.map Sl.l).flatten) (Hi:=[]) (Hu:=(b1,rowO [.one (.int .i64 ZZ),Yq Yp,.one (.int .i64 Yr),Yq YE,.one (Sl.val ⟨Yu,Yt,ZW⟩),.one (Sl.val ⟨Yc,Yb,ZJ⟩)] 28)::(b2,rowO [.one (.slice none 0 0)] 26)::[]) (H0:=H) (fun pre M9 Hu=>∃ (acc:List ZD) (v:Value) (hs:Hp),Hu=(b1,rowO [.one (.int .i64 ZZ),Yq Yp,.one (.int .i64 Yr),Yq YE,.one (Sl.val ⟨Yu,Yt,ZW⟩),.one (Sl.val ⟨Yc,Yb,ZJ⟩)] 28)::(b2,rowO [.one v] 26)::hs∧OSl 25 21 v hs (acc.map ZD.segs)∧acc.length≤pre.length∧acc=pre.foldl (Vs ⟨ZZ,Yp⟩) []) (fun _ _ _ _=>False) rfl F.ok145 (all_seq M1 q1 qc qad qrows hq1 hq2 hqn hq3) (fun w hw=>hw.c) ⟨[],_,[],rfl,OSl.nil,by simp,rfl⟩ (fun _=>rfl) rfl ?_ ?_ ?_
  ·rintro lp rdy bsy pre ⟨x_addr,x_id⟩ post M3 _ G hxs hm3 ⟨acc,v0,hs0,rfl,ho,hal,hI⟩
   obtain ⟨ad0,cp0,rfl⟩:=ho.valL
   have hml:(acc.map ZD.segs).length=acc.length:=List.length_map ..
   have hpl:pre.length≤1000:=by
    have h9:=congrArg List.length (hqx.symm.trans hxs)
    simp only [List.length_cons,List.length_append] at h9
    omega
   simp only [List.cons_append,rEnv]
   refine Zm (l:=[0,1]) rfl ?_
   refine YT F.zero25 ?_;intro b7
   refine Yi F.lay25 ?_;refine Zo (K_assign1 ?_);refine Xd (ZI (Zm (l:=[0,1,2,3,4,5,6,7,8,9,10,11,12,13,14,15,16,17]) rfl ?_));refine Zk F.foff25_0 ?_;refine ZH F.lay3 ?_;refine Yz ?_;refine Zv ?_
   refine Yh 18 rfl (fun hc8=>?_) (fun hc8=>?_)
   ·replace hc8:=dT hc8
    refine Zk F.foff25_0 ?_;refine ZH F.lay3 ?_;refine Zk F.foff28_0 ?_;refine Zk F.foff25_0 ?_;refine ZH F.lay3 ?_;refine Yz ?_;refine ZK ?_;refine Zv ?_
    refine Yh 26 rfl (fun hc9=>?_) (fun hc9=>?_)
    ·replace hc9:=nT hc9
     refine ZH F.lay26 ?_;refine Zk F.foff25_0 ?_;refine ZH F.lay3 ?_;refine X_fo rfl rfl F.ok119 rfl (has_rd _ hs0 ⟨ad0,cp0,acc⟩ _ (ho.rd _) (by show acc.length≤9223372036854775807;omega)) (by repeat first|exact Rem.here _|exact Rem.two|apply Rem.skip|apply Rem.over) (YA rfl) ?_
     rintro _ M1 _ ⟨hM1,rfl⟩;subst M1
     refine Xx ?_;refine ZK ?_;refine Zo (Zn (Y_pk [32,4,3,2] ?_))
     refine Yx rfl (fun hc10=>?_) (fun hc10=>?_)
     ·replace hc10:=nT hc10
      simp only [ZD.eta,ZL.eta,ZO.eta,ZM.eta,Yd.eta,ZQ.eta,YI.eta,ZX.eta] at hc10
      refine Zm (l:=[0,1,2,3,4]) rfl ?_;refine ZH F.lay26 ?_;refine ZH F.lay25 ?_
      refine XB rfl rfl F.elem26 F.zero25 rfl rfl (.cons rfl (by constructor) .nil) rfl rfl (by simp only [List.map_cons,List.map_nil] <;> rfl) rfl ?_;intro b11 hob12
      refine Vm (m:=1000000) rfl rfl rfl rfl rfl F.elem26 F.zero25 (by exact Ve rfl) rfl (by assumption) (by repeat first|exact Rem.here _|exact Rem.two|apply Rem.skip|apply Rem.over) (Src.own hob12.lens (by (refine rows_one1 ?_;(repeat (first|exact XA|refine XC ?_|(refine YF ?_ ?_;rfl)));done)) rfl (by repeat first|exact List.Mem.head _|refine List.Mem.tail _ ?_|refine List.mem_append_right _ ?_)) (by (simp;omega)) (by decide) rfl ?_;intro v15 hs14 ho13;obtain ⟨adv15,cpv15,rfl⟩:=ho13.valAt (n:=acc.length+1) (by (simp;done))
      refine Yi F.lay26 ?_;refine Zo (XV ?_)
      refine K_rnd (Hu:=(b1,rowO [.one (.int .i64 ZZ),Yq Yp,.one (.int .i64 Yr),Yq YE,.one (Sl.val ⟨Yu,Yt,ZW⟩),.one (Sl.val ⟨Yc,Yb,ZJ⟩)] 28)::(b2,rowO [.one (.slice adv15 (acc.length+1) cpv15)] 26)::hs14) (Mem.le.refl _) (fun w hw=>hw.c) ⟨acc++[⟨x_addr,x_id⟩],_,_,rfl,by rw [List.map_append];exact ho13,by simp only [List.length_append,List.length_cons,List.length_nil];omega,?_⟩
      rw [met_step hI];unfold Vs;rw [if_pos ⟨by assumption,by assumption,by assumption⟩]
     ·replace hc10:=nF hc10
      simp only [ZD.eta,ZL.eta,ZO.eta,ZM.eta,Yd.eta,ZQ.eta,YI.eta,ZX.eta] at hc10
      refine Yv (XV ?_)
      refine K_rnd (Hu:=(b1,rowO [.one (.int .i64 ZZ),Yq Yp,.one (.int .i64 Yr),Yq YE,.one (Sl.val ⟨Yu,Yt,ZW⟩),.one (Sl.val ⟨Yc,Yb,ZJ⟩)] 28)::(b2,rowO [.one (.slice ad0 acc.length cp0)] 26)::hs0) (Mem.le.refl _) (fun w hw=>hw.c) ⟨acc,_,_,rfl,ho,by simp only [List.length_append,List.length_cons,List.length_nil];omega,?_⟩
      rw [met_step hI];unfold Vs;rw [if_neg (by rintro ⟨g1,g2,g3⟩;first|exact absurd g1 (by assumption)|exact absurd g2 (by assumption)|exact absurd (by assumption) g2|exact absurd (by assumption) g3|omega)]
    ·replace hc9:=nF hc9
     iterate 5 refine ZU ?_
     refine ZK ?_;refine Zo (Zn (Y_pk [32,4,3,2] ?_));refine Ws rfl ?_;refine Yv (XV ?_)
     refine K_rnd (Hu:=(b1,rowO [.one (.int .i64 ZZ),Yq Yp,.one (.int .i64 Yr),Yq YE,.one (Sl.val ⟨Yu,Yt,ZW⟩),.one (Sl.val ⟨Yc,Yb,ZJ⟩)] 28)::(b2,rowO [.one (.slice ad0 acc.length cp0)] 26)::hs0) (Mem.le.refl _) (fun w hw=>hw.c) ⟨acc,_,_,rfl,ho,by simp only [List.length_append,List.length_cons,List.length_nil];omega,?_⟩
     rw [met_step hI];unfold Vs;rw [if_neg (by rintro ⟨g1,g2,g3⟩;first|exact absurd g1 (by assumption)|exact absurd g2 (by assumption)|exact absurd (by assumption) g2|exact absurd (by assumption) g3|omega)]
   ·replace hc8:=dF hc8
    iterate 6 refine ZU ?_
    refine ZK ?_;refine Zv ?_
    iterate 5 refine ZU ?_
    refine ZK ?_;refine Zo (Zn (Y_pk [32,4,3,2] ?_));refine Ws rfl ?_;refine Yv (XV ?_)
    refine K_rnd (Hu:=(b1,rowO [.one (.int .i64 ZZ),Yq Yp,.one (.int .i64 Yr),Yq YE,.one (Sl.val ⟨Yu,Yt,ZW⟩),.one (Sl.val ⟨Yc,Yb,ZJ⟩)] 28)::(b2,rowO [.one (.slice ad0 acc.length cp0)] 26)::hs0) (Mem.le.refl _) (fun w hw=>hw.c) ⟨acc,_,_,rfl,ho,by simp only [List.length_append,List.length_cons,List.length_nil];omega,?_⟩
    rw [met_step hI];unfold Vs;rw [if_neg (by rintro ⟨g1,g2,g3⟩;first|exact absurd g1 (by assumption)|exact absurd g2 (by assumption)|exact absurd (by assumption) g2|exact absurd (by assumption) g3|omega)]
  ·rintro D L o M3 _ hm3 ⟨acc,v0,hs0,rfl,ho,hal,hI⟩
   obtain ⟨ad0,cp0,rfl⟩:=ho.valL
   have hpl:acc.length≤1000:=by
    have h9:=congrArg List.length hqx
    simp only [List.length_cons,List.length_append] at h9
    omega
   simp only [List.cons_append,List.nil_append]
   refine XV (Zn (Y_pk [3,2] ?_));refine ZI (C_regionR (l:=[0,1]) (Hin:=hs0) (by repeat first|exact Rem.here _|exact Rem.two|apply Rem.skip|apply Rem.over) rfl ?_);refine ZH F.lay26 ?_;refine VU rfl rfl F.ok127 rfl (Sort_ok M3 ad0 cp0 acc hs0 ho (by omega)) (by repeat first|exact Rem.here _|exact Rem.two|apply Rem.skip|apply Rem.over) (fun _ _ _ hm hw=>(hw.lower (by exact hm)).c) (YA rfl) ?_
   rintro _ M4 hs9 hm4 ⟨hM4,rfl,l9,hp9,hs99,ho9⟩;subst M4
   refine Zo (Zn (Y_pk [3,2] ?_));refine ZI (Zm (l:=[0,1]) rfl ?_);refine ZH F.lay26 ?_;refine ZB ?_;refine Zo (Zn (Y_pk [2] ?_));refine Yg ?_
   refine K_endM (Ds:=[D]) (Hd:=[(D,.deferred (some []))]) (H:=hs9++H) (.inr rfl) (.tmp rfl .nil) (fun w hw=>hw.c) (by simp) (by simp) (fun w hw=>?_)
   obtain ⟨M9,j1,j2,j3⟩:=OSl.frz ho9 hw
   exact ⟨_,M9,rfl,hm1.trans (hm3.trans j1),j2,⟨ad0,cp0,l9⟩,congrArg (fun n=>Value.slice ad0 n cp0) (by simpa using hp9.length_eq.symm),known_is (by rw [hI,hqx] at hp9;exact hp9) hs99,j3⟩
  ·intro c D L o M2 Hu2 pre post _ _ h;exact h.elim
end Go.Proofs.YtajmnjefajknoaaGreat
