/-
  Texts of this claim, one behind the other: Ident, CircleM, IdentN, T1, IdxF, TableM, T2, T3, Rules6, T4, T5, Rules7, T6, T7, T8, T9, T10, T11, T12, TableP.
-/
import Derived.Test.YtajmnjefajknoaaGreatQL21
import Derived.Laws.Sem
import Derived.Test.YtajmnjefajknoaaGreatRows
import Derived.Laws.MakeOwn
set_option linter.unusedSimpArgs false
set_option linter.unusedVariables false
set_option linter.unnecessarySimpa false
namespace Go.Esp
theorem ofB_step {f g:Nat→Nat} (hf:∀ i,f i<256) (hg:∀ i,g i<256) {n:Nat} (h:ofB n f<ofB n g):ofB (n+1) f<ofB (n+1) g:=by
  have:=hf n
  have:=hg n
  simp only [ofB]
  omega
theorem ofB_mono {f g:Nat→Nat} (hf:∀ i,f i<256) (hg:∀ i,g i<256) {m:Nat} (h:ofB m f<ofB m g):∀ n,ofB (m+n) f<ofB (m+n) g
  | 0=>h
  | n+1=>ofB_step hf hg (ofB_mono hf hg h n)
theorem less_of {a b:Plc} {k:Nat} (hk:k<20) (h:∀ j,j<k→idB a j=idB b j) (hlt:idB a k<idB b k):a.toNat<b.toNat:=by
  rw [← idB_toNat a,← idB_toNat b]
  have h1:ofB (k+1) (idB a)<ofB (k+1) (idB b):=by
    simp only [ofB,ofB_congr h]
    omega
  have:=ofB_mono (Ue a) (Ue b) h1 (20-(k+1))
  rwa [show k+1+(20-(k+1))=20 by omega] at this
theorem less_at {a b:Plc} {k:Nat} (hk:k<20) (h:∀ j,j<k→idB a j=idB b j) (hne:¬idB a k=idB b k):a.toNat<b.toNat↔idB a k<idB b k:=by
  constructor
  · intro hlt
    rcases Nat.lt_or_ge (idB a k) (idB b k) with h1|h1
    · exact h1
    · have:=less_of hk (fun j hj=>(h j hj).symm) (show idB b k<idB a k by omega)
      omega
  · exact less_of hk h
theorem plc_eq {a b:Plc} (h:∀ j,j<20→idB a j=idB b j):a=b:=by
  apply BitVec.eq_of_toNat_eq
  rw [← idB_toNat a,← idB_toNat b]
  exact ofB_congr h
def VU (x:Plc):ByteArray:=⟨((List.range 20).map fun i=>(idB x i).toUInt8).toArray⟩
theorem idBytes_size (x:Plc):(VU x).size=20:=by simp [VU,ByteArray.size]
theorem idBytes_at (x:Plc) {i:Nat} (h:i<20):(VU x)[i]! = (idB x i).toUInt8:=by
  have hs:i<(VU x).size:=by rw [idBytes_size];exact h
  rw [getElem!_pos (VU x) i hs]
  show (((List.range 20).map fun i=>(idB x i).toUInt8).toArray)[i]'(by simpa using h)=_
  simp
theorem u8_inj {m n:Nat} (hm:m<256) (hn:n<256):m.toUInt8=n.toUInt8↔m=n:=by
  constructor
  · intro h
    have:=congrArg UInt8.toNat h
    simp only [Nat.toUInt8,UInt8.toNat_ofNat'] at this
    omega
  · rintro rfl;rfl
theorem u8_lt {m n:Nat} (hm:m<256) (hn:n<256):m.toUInt8<n.toUInt8↔m<n:=by
  rw [UInt8.lt_iff_toNat_lt]
  simp only [Nat.toUInt8,UInt8.toNat_ofNat']
  omega
def cmpP (a b:Plc):Int:=if a.toNat<b.toNat then -1 else if a=b then 0 else 1
theorem cmp_bytes (a b:Plc):Extern.BytealgCompare.cmp (VU a) (VU b)=cmpP a b:=by
  unfold Extern.BytealgCompare.cmp cmpP
  rw [idBytes_size,idBytes_size,Nat.min_self]
  cases hf:(List.range 20).find? fun i=>(VU a)[i]! != (VU b)[i]! with
  | none =>
    have h:=List.find?_eq_none.1 hf
    have e:a=b:=plc_eq fun j hj=>by
      have:=h j (List.mem_range.2 hj)
      rw [idBytes_at a hj,idBytes_at b hj] at this
      exact (u8_inj (Ue _ _) (Ue _ _)).1 (by simpa using this)
    subst e
    simp
  | some i =>
    have h1:=List.find?_some hf
    have hi:i<20:=List.mem_range.1 (List.mem_of_find?_eq_some hf)
    have h2:∀ j,j<i→idB a j=idB b j:=by
      intro j hj
      have hj':j<20:=by omega
      rw [List.find?_range_eq_some] at hf
      have:=hf.2.2 j hj
      rw [idBytes_at a hj',idBytes_at b hj'] at this
      exact (u8_inj (Ue _ _) (Ue _ _)).1 (by simpa using this)
    rw [idBytes_at a hi,idBytes_at b hi] at h1
    have hne:¬idB a i=idB b i:=fun e=>by rw [e] at h1;simp at h1
    have hl:=less_at hi h2 hne
    simp only [idBytes_at a hi,idBytes_at b hi,u8_lt (Ue a i) (Ue b i)]
    have hab:a≠b:=fun e=>hne (by rw [e])
    simp only [hl,hab,if_false]
section
variable {P:Program} {M:Mem} {H:Hp}
theorem run_loadBytes {x:Plc} {w:World} {b:Nat} {T:TypeId} (hb:w.heap[b]?=some (rowO [Yt x] T)):∀ (n k:Nat) (acc:ByteArray),k+n=20→acc.data.toList=(List.range k).map (fun i=>(idB x i).toUInt8) →
    (Extern.Bytes.loadBytes ⟨b,k,none⟩ n acc).run P w=.ok (VU x) w
  | 0,k,acc,hk,ha=>by
    have:acc=VU x:=by
      apply ByteArray.ext
      apply Array.ext'
      rw [ha]
      simp [VU,show k=20 by omega]
    subst this
    rfl
  | n+1,k,acc,hk,ha=>by
    have hk':k<20:=by omega
    have hc:w.cell? ⟨b,k,none⟩=some (.int .u8 (idB x k)):=by
      rw [cell_of_row hb]
      have:=id_at' (x:=x) hk'
      simpa using this
    unfold Extern.Bytes.loadBytes
    rw [Sem.run_bind,run_load,hc]
    show (Sem.run P _ w)=_
    have:=run_loadBytes hb n (k+1) (acc.push (idB x k).toUInt8) (by omega) (by simp [ByteArray.push,ha,List.range_succ])
    simpa [Addr.add_lit] using this
theorem run_compare {a b:Plc} {ba bb:Nat} {T U:TypeId} {w:World} (ha:w.heap[ba]?=some (rowO [Yt a] T)) (hb:w.heap[bb]?=some (rowO [Yt b] U)) :
    (Extern.BytealgCompare.compare #[.slice (some ⟨ba,0,none⟩) 20 20,.slice (some ⟨bb,0,none⟩) 20 20]).run P w=.ok (.int .i64 (cmpP a b)) w:=by
  have h1:(Extern.Bytes.bytesOf (.slice (some ⟨ba,0,none⟩) 20 20)).run P w=.ok (VU a) w:=run_loadBytes ha 20 0 .empty rfl (by rfl)
  have h2:(Extern.Bytes.bytesOf (.slice (some ⟨bb,0,none⟩) 20 20)).run P w=.ok (VU b) w:=run_loadBytes hb 20 0 .empty rfl (by rfl)
  show (do let u ← Extern.Bytes.bytesOf (.slice (some ⟨ba,0,none⟩) 20 20);let v ← Extern.Bytes.bytesOf (.slice (some ⟨bb,0,none⟩) 20 20);pure (goInt (Extern.BytealgCompare.cmp u v)):Sem Value).run P w=_
  rw [Xd h1,Xd h2,cmp_bytes]
  rfl
end
end Go.Esp
namespace Go.Esp
def Uk (a b:Plc):Prop:=a.toNat<b.toNat
instance (a b:Plc):Decidable (Uk a b):=by unfold Uk;exact inferInstance
theorem cmpP_neg {a b:Plc}:cmpP a b<0↔Uk a b:=by
  unfold cmpP Uk
  split
  · rename_i h;simp [h]
  · rename_i h
    split <;> simp [h]
def CircOk (l:List ZF):Prop:=(∀ p∈l,0≤p.addr∧p.addr≤999)∧(l.map ZF.addr).Nodup∧l.Pairwise (fun p q=>Uk p.id q.id)
instance (l:List ZF):Decidable (CircOk l):=by unfold CircOk;exact inferInstance
def IsCircle (l:List ZF):Prop:=(1≤l.length∧l.length≤16)∧CircOk l
instance (l:List ZF):Decidable (IsCircle l):=by unfold IsCircle;exact inferInstance
def pO (l:List ZF) (x:Plc) (i:Nat):Bool:=match l[i]? with
  | some p=>decide (¬Uk p.id x)
  | none=>true
def ownerI (l:List ZF) (x:Plc):Nat:=firstP (pO l x) l.length % l.length
def ofII (r:Int×Int):Value:=.tuple #[.int .i64 r.1,.int .i64 r.2]
def ownerR (l:List ZF) (x:Plc):Int×Int:=if IsCircle l then ((ownerI l x:Nat),0) else (0,1)
end Go.Esp
namespace Go.Esp
def Uq (x:Plc) (k:Nat):Vector Value 20:=Vector.ofFn fun i:Fin 20=>if 20≤i.val+k then .int .u8 (idB x i.val) else .int .u8 0
theorem lastV_get (x:Plc) (k:Nat) {i:Nat} (h:i<20):(Uq x k)[i]=if 20≤i+k then .int .u8 (idB x i) else .int .u8 0:=by
  unfold Uq;rw [Vector.getElem_ofFn]
theorem lastV_none' (x:Plc):Uq x 0=idV 0:=by
  apply Vector.ext;intro i hi
  rw [lastV_get x 0 hi,if_neg (by omega),Un _ hi];simp [idB]
theorem lastV_all (x:Plc):Uq x 20=idV x:=by
  apply Vector.ext;intro i hi
  rw [lastV_get x 20 hi,if_pos (by omega),Un _ hi]
theorem lastV_step (x:Plc) {k:Nat} (h:k<20) {v:Int} (hv:v=(idB x (19-k):Nat)):(Uq x k).set (19-k) (.int .u8 v)=Uq x (k+1):=by
  subst hv
  apply Vector.ext;intro i hi
  rw [lastV_get x (k+1) hi]
  by_cases e:i=19-k
  · subst e
    rw [Vector.getElem_set_self,if_pos (by omega)]
  · rw [Vector.getElem_set_ne _ _ (Ne.symm e),lastV_get x k hi]
    by_cases h1:20≤i+k
    · rw [if_pos h1,if_pos (by omega)]
    · rw [if_neg h1,if_neg (by omega)]
def frontV (x y:Plc) (k:Nat):Vector Value 20:=Vector.ofFn fun i:Fin 20=>if i.val<k then .int .u8 (idB x i.val) else .int .u8 (idB y i.val)
theorem mod_step (A P:Nat):A % (P * 256)=A % P+P * (A / P % 256):=Nat.mod_mul
theorem pow_step (k:Nat):256 ^ (k+1)=256 ^ k * 256:=Nat.pow_succ 256 k
theorem pow20:(256:Nat) ^ 20=2 ^ 160:=by decide
theorem idB_at (x:Plc) {k:Nat} (h:k<20):idB x (19-k)=x.toNat / 256 ^ k % 256:=by
  unfold idB;rw [show 19-(19-k)=k by omega]
theorem pow_split {k:Nat} (h:k<20):∃ C,2 ^ 160=256 ^ k * (256 * C):=by
  refine ⟨256 ^ (19-k),?_⟩
  rw [← pow20,← Nat.mul_assoc,← pow_step,← Nat.pow_add];congr 1;omega
theorem big_div (X:Nat) {k:Nat} (h:k<20):X % 2 ^ 160 / 256 ^ k % 256=X / 256 ^ k % 256:=by
  obtain ⟨C,hC⟩:=pow_split h
  rw [hC,Nat.mod_mul_right_div_self,Nat.mod_mul_right_mod]
theorem div_rest {P X r:Nat} (hr:r<P):(P * X+r) / P=X:=by
  rw [Nat.add_comm,Nat.add_mul_div_left _ _ (by omega),Nat.div_eq_of_lt hr,Nat.zero_add]
def Uf (a b:Plc) (k:Nat):Nat:=(a.toNat % 256 ^ k+b.toNat % 256 ^ k) / 256 ^ k
theorem carryK_zero (a b:Plc):Uf a b 0=0:=by unfold Uf;simp [Nat.mod_one]
theorem carryK_le (a b:Plc) (k:Nat):Uf a b k≤1:=by
  unfold Uf
  have hp:0<256 ^ k:=Nat.pow_pos (by decide)
  have h1:=Nat.mod_lt a.toNat hp
  have h2:=Nat.mod_lt b.toNat hp
  exact Nat.le_of_lt_succ ((Nat.div_lt_iff_lt_mul hp).2 (by omega))
theorem sum_step (a b:Plc) {k:Nat} (h:k<20) :
    (Uf a b k+(idB a (19-k)+idB b (19-k))) % 256=idB (a+b) (19-k)∧(Uf a b k+(idB a (19-k)+idB b (19-k))) / 256=Uf a b (k+1):=by
  rw [idB_at a h,idB_at b h,idB_at (a+b) h,BitVec.toNat_add,big_div _ h]
  unfold Uf
  rw [pow_step,mod_step,mod_step]
  have hp:0<256 ^ k:=Nat.pow_pos (by decide)
  generalize 256 ^ k=P at hp ⊢
  have e1:=Nat.div_add_mod a.toNat P
  have e2:=Nat.div_add_mod b.toNat P
  generalize a.toNat=A at *
  generalize b.toNat=B at *
  have e3:(A+B) / P=A / P+B / P+(A % P+B % P) / P:=by
    conv=>lhs;rw [← e1,← e2]
    rw [show P * (A / P)+A % P+(P * (B / P)+B % P)=(A % P+B % P)+P * (A / P+B / P) by rw [Nat.mul_add];omega,Nat.add_mul_div_left _ _ hp]
    omega
  constructor
  · rw [e3];omega
  · rw [← Nat.div_div_eq_div_mul,show A % P+P * (A / P % 256)+(B % P+P * (B / P % 256))=(A % P+B % P)+P * (A / P % 256+B / P % 256) by rw [Nat.mul_add];omega,Nat.add_mul_div_left _ _ hp]
def Ui (a b:Plc) (k:Nat):Nat:=if a.toNat % 256 ^ k<b.toNat % 256 ^ k then 1 else 0
theorem borrowK_zero (a b:Plc):Ui a b 0=0:=by unfold Ui;simp [Nat.mod_one]
theorem borrowK_le (a b:Plc) (k:Nat):Ui a b k≤1:=by unfold Ui;split <;> omega
theorem sub_toNat (a b:Plc):(a-b).toNat=(a.toNat+(2 ^ 160-b.toNat)) % 2 ^ 160:=by
  rw [BitVec.toNat_sub];congr 1;omega
theorem diff_step (a b:Plc) {k:Nat} (h:k<20) :
    (256+idB a (19-k)-idB b (19-k)-Ui a b k) % 256=idB (a-b) (19-k)∧1-(256+idB a (19-k)-idB b (19-k)-Ui a b k) / 256=Ui a b (k+1):=by
  have hb:b.toNat<2 ^ 160:=b.isLt
  rw [idB_at a h,idB_at b h,idB_at (a-b) h,sub_toNat,big_div _ h]
  unfold Ui
  rw [pow_step,mod_step,mod_step]
  have hp:0<256 ^ k:=Nat.pow_pos (by decide)
  obtain ⟨C,hC⟩:=pow_split h
  rw [hC] at hb ⊢
  generalize 256 ^ k=P at hp hb ⊢
  have e1:=Nat.div_add_mod a.toNat P
  have e2:=Nat.div_add_mod b.toNat P
  have m1:=Nat.mod_lt a.toNat hp
  have m2:=Nat.mod_lt b.toNat hp
  generalize a.toNat=A at *
  generalize b.toNat=B at *
  have hq:B / P<256 * C:=(Nat.div_lt_iff_lt_mul hp).2 (by rw [Nat.mul_comm];exact hb)
  have e3:(A+(P * (256 * C)-B)) / P=A / P+256 * C-B / P-(if A % P<B % P then 1 else 0):=by
    generalize A / P=X at *
    generalize B / P=Y at *
    generalize A % P=r at *
    generalize B % P=s at *
    subst e1 e2
    obtain ⟨Z,hZ⟩:∃ Z,256 * C=Y+1+Z:=⟨256 * C-Y-1,by omega⟩
    have e4:P * (256 * C)=P * Y+P+P * Z:=by rw [hZ,Nat.mul_add,Nat.mul_add,Nat.mul_one]
    split
    · rw [show P * X+r+(P * (256 * C)-(P * Y+s))=P * (X+Z)+(P+r-s) by rw [Nat.mul_add];omega,div_rest (by omega)];omega
    · rw [show P * X+r+(P * (256 * C)-(P * Y+s))=P * (X+Z+1)+(r-s) by rw [Nat.mul_add,Nat.mul_add];omega,div_rest (by omega)];omega
  constructor
  · rw [e3]
    generalize A / P=X at *
    generalize B / P=Y at *
    split <;> omega
  · clear e3
    generalize A / P=X at *
    generalize B / P=Y at *
    by_cases h1:A % P<B % P
    · rw [if_pos h1]
      by_cases h2:X % 256≤Y % 256
      · rw [if_pos (by have:=Nat.mul_le_mul_left P h2;omega)];omega
      · have h3:Y % 256+1≤X % 256:=by omega
        have:=Nat.mul_le_mul_left P h3
        rw [Nat.mul_add] at this
        rw [if_neg (by omega)];omega
    · rw [if_neg h1]
      by_cases h2:X % 256<Y % 256
      · have h3:X % 256+1≤Y % 256:=by omega
        have:=Nat.mul_le_mul_left P h3
        rw [Nat.mul_add] at this
        rw [if_pos (by omega)];omega
      · have h3:Y % 256≤X % 256:=by omega
        have:=Nat.mul_le_mul_left P h3
        rw [if_neg (by omega)];omega
theorem pow_lt {k:Nat} (h:k<160):2 ^ k<2 ^ 160:=Nat.pow_lt_pow_right (by decide) h
def powP (k:Nat):Plc:=BitVec.ofNat 160 (2 ^ k)
theorem powP_nat {k:Nat} (h:k<160):(powP k).toNat=2 ^ k:=by
  unfold powP;rw [BitVec.toNat_ofNat,Nat.mod_eq_of_lt (pow_lt h)]
theorem powP_byte {k i:Nat} (h:k<160) (hi:i<20):idB (powP k) i=if i=19-k / 8 then 2 ^ (k % 8) else 0:=by
  unfold idB
  rw [powP_nat h,show (256:Nat)=2 ^ 8 by decide,← Nat.pow_mul]
  have hk:=Nat.div_add_mod k 8
  split
  · rename_i e
    rw [show k=8 * (19-i)+k % 8 by omega,Nat.pow_add,Nat.mul_div_cancel_left _ (Nat.pow_pos (by decide)),show (8 * (19-i)+k % 8) % 8=k % 8 by omega]
    exact Nat.mod_eq_of_lt (Nat.pow_lt_pow_right (by decide) (by omega))
  · rename_i e
    rcases Nat.lt_or_ge (k / 8) (19-i) with h1|h1
    · rw [Nat.div_eq_of_lt (Nat.pow_lt_pow_right (by decide) (by omega))]
    · obtain ⟨d,hd⟩:∃ d,k=8 * (19-i)+8+d:=⟨k-8 * (19-i)-8,by omega⟩
      rw [hd,Nat.add_assoc,Nat.pow_add,Nat.mul_div_cancel_left _ (Nat.pow_pos (by decide)),Nat.pow_add]
      exact Nat.mul_mod_right _ _
theorem powV {k:Nat} (h:k<160) {v:Int} (hv:v=((2 ^ (k % 8):Nat):Int)):(idV 0).set (19-k / 8) (.int .u8 v)=idV (powP k):=by
  subst hv
  apply Vector.ext;intro i hi
  rw [Un _ hi,powP_byte h hi]
  by_cases e:i=19-k / 8
  · subst e;rw [Vector.getElem_set_self,if_pos rfl]
  · rw [Vector.getElem_set_ne _ _ (Ne.symm e),Un _ hi,if_neg e];simp [idB]
def Uo (a x b:Plc):Prop:=x≠a∧(a=b∨Uk (x-a) (b-a))
instance (a x b:Plc):Decidable (Uo a x b):=by unfold Uo;exact inferInstance
def HalfP (a x b:Plc):Prop:=x=b∨Uo a x b
instance (a x b:Plc):Decidable (HalfP a x b):=by unfold HalfP;exact inferInstance
theorem plc_nat {a b:Plc}:a=b↔a.toNat=b.toNat:=⟨fun h=>by rw [h],BitVec.eq_of_toNat_eq⟩
theorem open_arms (a x b:Plc):Uo a x b↔(if a=b then x≠a else if Uk a b then Uk a x∧Uk x b else Uk a x∨Uk x b):=by
  have ha:a.toNat<2 ^ 160:=a.isLt
  have hb:b.toNat<2 ^ 160:=b.isLt
  have hx:x.toNat<2 ^ 160:=x.isLt
  unfold Uo
  by_cases h1:a=b
  · rw [if_pos h1];simp [h1]
  · rw [if_neg h1]
    by_cases h2:Uk a b
    · rw [if_pos h2]
      unfold Uk at *
      rw [sub_toNat,sub_toNat]
      simp only [ne_eq,plc_nat] at *
      omega
    · rw [if_neg h2]
      unfold Uk at *
      rw [sub_toNat,sub_toNat]
      simp only [ne_eq,plc_nat] at *
      omega
theorem sum_at (a b:Plc) {m:Nat} (h:m<20):((Uf a b (20-(m+1)):Nat)+((idB a m:Nat)+(idB b m:Nat)):Int) % 256=(idB (a+b) m:Nat)∧((Uf a b (20-(m+1)):Nat)+((idB a m:Nat)+(idB b m:Nat)):Int) / 256=(Uf a b (20-m):Nat):=by
  have h1:=sum_step a b (k:=19-m) (by omega)
  rw [show 19-(19-m)=m by omega,show 19-m+1=20-m by omega] at h1
  rw [show 20-(m+1)=19-m by omega]
  omega
theorem diff_at (a b:Plc) {m:Nat} (h:m<20):(256+(idB a m:Nat)-(idB b m:Nat)-(Ui a b (20-(m+1)):Nat):Int) % 256=(idB (a-b) m:Nat)∧1-(256+(idB a m:Nat)-(idB b m:Nat)-(Ui a b (20-(m+1)):Nat):Int) / 256=(Ui a b (20-m):Nat):=by
  have h1:=diff_step a b (k:=19-m) (by omega)
  have h2:=borrowK_le a b (19-m)
  have h3:=Ue a m
  have h4:=Ue b m
  rw [show 19-(19-m)=m by omega,show 19-m+1=20-m by omega] at h1
  rw [show 20-(m+1)=19-m by omega]
  omega
theorem lastV_put (x:Plc) {m:Nat} (h:m<20) {v:Int} (hv:v=(idB x m:Nat)):(Uq x (20-(m+1))).set m (.int .u8 v)=Uq x (20-m):=by
  have:=lastV_step x (k:=19-m) (by omega) (v:=v) (by rw [show 19-(19-m)=m by omega];exact hv)
  simp only [show 19-(19-m)=m by omega,show 19-m+1=20-m by omega] at this
  simpa only [show 20-(m+1)=19-m by omega] using this
def powR (k:Int):Plc×Int:=if 0≤k∧k<160 then (powP k.toNat,0) else (0,1)
def ofIdI (r:Plc×Int):Value:=.tuple #[aggV [Yt r.1],.int .i64 r.2]
theorem powV0 {k:Nat} (h:k<160) {j:Nat} (hj:j=19-k / 8) {v:Int} (hv:v=((2 ^ (k % 8):Nat):Int)) (hp:j<20):(idV 0).set j (.int .u8 v) hp=idV (powP k):=by
  subst hj;exact powV h hv
theorem shl_one {k:Nat}:IntKind.u8.wrap (1 * 2 ^ (min ((k % 8:Nat):Int).toNat IntKind.u8.bits))=((2 ^ (k % 8):Nat):Int):=by
  have h:k % 8<8:=Nat.mod_lt _ (by decide)
  generalize k % 8=j at h
  have:j=0∨j=1∨j=2∨j=3∨j=4∨j=5∨j=6∨j=7:=by omega
  rcases this with rfl|rfl|rfl|rfl|rfl|rfl|rfl|rfl <;> decide
end Go.Esp
set_option maxRecDepth 8000
set_option maxHeartbeats 1000000
namespace Go.Proofs.YtajmnjefajknoaaGreat
open Go.Esp
theorem F.arr23:arOf Tryz.prog 23=some (20,5):=by kernel_rfl
theorem F.ext165:Ext Tryz.prog 165 Extern.BytealgCompare.compare:=fun args w=>by kernel_rfl
theorem F.lay23:lay Tryz.prog 23=some (true,20):=by kernel_rfl
theorem F.lay5:lay Tryz.prog 5=some (false,1):=by kernel_rfl
theorem F.ok150:okFn Tryz.prog 150=true:=by kernel_rfl
theorem F.zero23:WH Tryz.prog 23=some (aggV [Yt 0]):=by rw [Us];kernel_rfl
theorem bcmp_ok (M:Mem) (ba bb:Nat) (a b:Plc):Fo Tryz.prog 150 [.slice (some ⟨ba,0,none⟩) 20 20,.slice (some ⟨bb,0,none⟩) 20 20] M [(bb,rowO [Yt b] 23),(ba,rowO [Yt a] 23)] (fun M' v=>M'=M∧v=.int .i64 (cmpP a b)):=by
  refine VE Tryz.func150 rfl Tryz.ntmps150 rfl ?_;intro H
  refine ZK (Zm (l:=[0]) rfl ?_);refine ZB ?_;refine Zo (Zn (ZK (Zm (l:=[0,1,2,3]) rfl ?_)))
  iterate 2 refine Zx ?_
  refine X_ext rfl rfl F.ext165 rfl (fun w hw=>run_compare (hw.own _ _ (by repeat first|exact List.Mem.head _|refine List.Mem.tail _ ?_|refine List.mem_append_right _ ?_)) (hw.own _ _ (by repeat first|exact List.Mem.head _|refine List.Mem.tail _ ?_|refine List.mem_append_right _ ?_))) rfl ?_;refine ZB ?_;refine Zo (Zn (Y_pk [4] ?_));refine Yo ?_
  refine Yk (.inr rfl) (.tmp rfl .nil) (fun w hw=>?_)
  exact ⟨_,M,rfl,Mem.le.refl M,hw.c,rfl,rfl⟩
theorem Less_ok (M:Mem) (a:Plc) (b:Plc):Fs Tryz.prog 141 [aggV [Yt a],aggV [Yt b]] M (fun v=>v=Value.bool (decide (Uk a b))):=by
  refine Xv Tryz.func141 rfl Tryz.ntmps141 rfl ?_;intro H
  refine ZK (Zm (l:=[0,1,2]) rfl ?_)
  refine Xk ?_;intro b1
  refine Xk ?_;intro b2
  refine ZB ?_;refine Zo (Zn (Y_pk [4,3,2] ?_));refine ZK (YK (l:=[0,1,2,3,4]) #[0,0,3,7,15] _ rfl (by kernel_rfl) (by kernel_rfl) St.drawn (fun _ h=>h) ?_)
  iterate 2 refine X_slice_arr rfl rfl rfl F.arr23 rfl ?_
  refine X_fo rfl rfl F.ok150 rfl (bcmp_ok _ _ _ a b) (by repeat first|exact Rem.here _|exact Rem.two|apply Rem.skip|apply Rem.over) (YV rfl) ?_
  rintro _ M1 _ ⟨hM1,rfl⟩;subst M1
  refine YI ?_;refine ZB ?_;refine Zo (Zn (Y_pk [4] ?_));refine Yo ?_
  refine Yk (.inr rfl) (.tmp rfl .nil) (fun w hw=>?_)
  refine ⟨_,rfl,(hw.c),?_⟩
  clear hw
  exact congrArg Value.bool (decide_eq_decide.2 cmpP_neg)
theorem rLess_ok (M:Mem) (a:Plc) (b:Plc):Fs Tryz.prog 134 [aggV [Yt a],aggV [Yt b]] M (fun v=>v=Value.bool (decide (Uk a b))):=by
  refine Xv Tryz.func134 rfl Tryz.ntmps134 rfl ?_;intro H
  refine ZK (Zm (l:=[0,1,2]) rfl ?_)
  refine Xk ?_;intro b1
  refine Xk ?_;intro b2
  refine ZB ?_;refine Zo (Zn (Y_pk [4,3,2] ?_))
  iterate 2 refine ZK ?_
  refine Zm (l:=[0]) rfl ?_;refine ZB ?_;refine Zo (Zn (Xc (Y_pk [5,4,3,2] ?_)));refine WV (.succ .zero) (fun (k:Nat) z=>z=[(5,.int .i64 (k:Int))]∧k≤20∧(∀ j,j<k→idB a j=idB b j)) (fun k=>20-k) (0) (⟨rfl,by omega,by (intro j hj;omega)⟩) ?_
  rintro k _ ⟨rfl,hk,hI⟩
  iterate 2 refine ZK ?_
  refine Zm (l:=[0,1]) rfl ?_;refine Zx ?_;refine YI ?_;refine Zo (Zn ?_)
  refine YA rfl (fun hc3=>?_) (fun hc3=>?_)
  ·replace hc3:=dT hc3
   refine YG (Zn (ZK (Xc (ZK (YK (l:=[0,1,2,3,4,5,6]) #[0,1,3,0,8,24,63] _ rfl (by kernel_rfl) (by kernel_rfl) St.drawn (fun _ h=>h) ?_)))));refine Zx ?_;refine Wa rfl rfl rfl rfl F.arr23 (by rfl) (by omega) rfl ?_;refine X_load_cell rfl rfl rfl (by repeat first|exact List.Mem.head _|refine List.Mem.tail _ ?_|refine List.mem_append_right _ ?_) F.lay5 (by exact UK (by omega)) rfl ?_;refine Zx ?_;refine Wa rfl rfl rfl rfl F.arr23 (by rfl) (by omega) rfl ?_;refine X_load_cell rfl rfl rfl (by repeat first|exact List.Mem.head _|refine List.Mem.tail _ ?_|refine List.mem_append_right _ ?_) F.lay5 (by exact UK (by omega)) rfl ?_;refine YI ?_;refine Zo (Zn ?_)
   refine YA rfl (fun hc4=>?_) (fun hc4=>?_)
   ·replace hc4:=nT hc4
    refine ZK (YK (l:=[0,1,2,3,4,5,6,7]) #[0,1,3,0,8,24,63,127] _ rfl (by kernel_rfl) (by kernel_rfl) St.drawn (fun _ h=>h) ?_);refine Zx ?_;refine Wa rfl rfl rfl rfl F.arr23 (by rfl) (by omega) rfl ?_;refine X_load_cell rfl rfl rfl (by repeat first|exact List.Mem.head _|refine List.Mem.tail _ ?_|refine List.mem_append_right _ ?_) F.lay5 (by exact UK (by omega)) rfl ?_;refine Zx ?_;refine Wa rfl rfl rfl rfl F.arr23 (by rfl) (by omega) rfl ?_;refine X_load_cell rfl rfl rfl (by repeat first|exact List.Mem.head _|refine List.Mem.tail _ ?_|refine List.mem_append_right _ ?_) F.lay5 (by exact UK (by omega)) rfl ?_;refine YI ?_;refine ZB ?_;refine Zo (Zn (Yo (Xh ?_)))
    iterate 2 refine YS ?_
    refine Xh (YS ?_)
    refine Yk (.inr rfl) (.tmp rfl .nil) (fun w hw=>?_)
    refine ⟨_,rfl,(hw.c),?_⟩
    clear hw
    refine congrArg Value.bool ?_
    exact decide_eq_decide.2 ((Int.ofNat_lt).trans (less_at (by omega) hI (by omega)).symm)
   ·replace hc4:=nF hc4
    refine YG (XR (Zn (Zm (l:=[0,1,2]) rfl ?_)));refine Zx ?_;refine XE rfl rfl rfl rfl rfl (by exact Xe (by decide) (by omega)) rfl ?_;refine ZB ?_;refine Zo ?_;refine WO (a':=[(5,_)]) (k+1) (.cons (k:=5) rfl (.cons (k:=4) rfl (.cons (k:=3) rfl (.cons (k:=2) rfl (.nil))))) (fun w hw=>by first|exact hw|exact hw.c) ?_ ?_
    ·refine ⟨rfl,by omega,?_⟩
     intro j hj;rcases Nat.lt_or_ge j k with h9|h9;exact hI j h9;obtain rfl:j=k:=by omega
     omega
    ·omega
  ·replace hc3:=dF hc3
   refine XK ?_
   iterate 2 refine XH ?_
   refine Wh (Zn (Y_pk [4] ?_));refine ZK (Zm (l:=[0]) rfl ?_);refine ZB ?_;refine Zo (Zn (Yo ?_))
   refine Yk (.inr rfl) (.tmp rfl .nil) (fun w hw=>?_)
   refine ⟨_,rfl,(hw.c),?_⟩
   clear hw
   refine congrArg Value.bool ?_
   (have e:a=b:=plc_eq (fun j hj=>hI j (by omega));subst e;simp [Uk])
theorem Plus_ok (M:Mem) (a:Plc) (b:Plc):Fs Tryz.prog 86 [aggV [Yt a],aggV [Yt b]] M (fun v=>v= (aggV [Yt (a+b)])):=by
  refine Xv Tryz.func86 rfl Tryz.ntmps86 rfl ?_;intro H
  refine ZK (Zm (l:=[0,1,2]) rfl ?_)
  refine Xk ?_;intro b1
  refine Xk ?_;intro b2
  refine YW F.zero23 ?_;intro b3
  refine Zo (Zn (Y_pk [4,3,2] ?_));refine ZK (Zm (l:=[0]) rfl ?_)
  refine YW F.zero23 ?_;intro b4
  refine Zo (Zn (ZK (Zm (l:=[0]) rfl ?_)));refine ZB ?_;refine Zo (Zn ?_)
  iterate 2 refine ZK ?_
  refine Zm (l:=[0]) rfl ?_;refine ZB ?_;refine Zo (Zn (Xc (Y_pk [6,7,5,4,3,2] ?_)));refine Vm (Hin:=[(b4,rowO [Yt 0] 23)]) (.succ (.succ .zero)) (by repeat first|exact Rem.here _|exact Rem.two|apply Rem.skip|apply Rem.over) (fun (j:Nat) M1 h1 z=>M1=M∧z=[(6,.int .u64 ((Uf a b (20-j):Nat):Int)),(7,.int .i64 ((j:Int)-1))]∧j≤20∧h1=[(b4,rowO [.arr 20 (Uq (a+b) (20-j))] 23)]) (fun j=>j) (20) (⟨rfl,by simp only [Nat.sub_self];rw [carryK_zero];rfl,by omega,by simp only [Nat.sub_self];rw [lastV_none'];rfl⟩) ?_
  rintro j M1 h1 z hm1 ⟨hM1,rfl,hk,rfl⟩
  subst hM1
  rcases j with _|m
  ·rw [show (((0:Nat):Int)-1)=-1 from rfl,show Uq (a+b) (20-0)=idV (a+b) from lastV_all _]
   iterate 2 refine ZK ?_
   refine Zm (l:=[0,1]) rfl ?_;refine Zx ?_;refine YI ?_;refine Zo (Zn ?_)
   refine YA rfl (fun hc5=>?_) (fun hc5=>?_)
   ·replace hc5:=dT hc5
    (exfalso;omega)
   ·replace hc5:=dF hc5
    refine XK ?_
    iterate 2 refine XH ?_
    refine Wh (Zn (Y_pk [5,4] ?_));refine ZK (Zm (l:=[0,1]) rfl ?_);refine ZD F.lay23 ?_;refine Yh F.lay23 ?_;refine Zo (Zn (Y_pk [4] ?_));refine Yo ?_
    refine Yk (.inr rfl) (.cell rfl (by repeat first|exact List.Mem.head _|refine List.Mem.tail _ ?_|refine List.mem_append_right _ ?_) F.lay23 rfl rfl .nil) (fun w hw=>?_)
    refine ⟨_,rfl,(hw.c),?_⟩
    clear hw
    rfl
  ·rw [show (((m+1:Nat):Int)-1)=(m:Int) by omega]
   have ha:=Ue a m
   have hb:=Ue b m
   have hc:=carryK_le a b (20-(m+1))
   have hs:=sum_at a b (m:=m) (by omega)
   iterate 2 refine ZK ?_
   refine Zm (l:=[0,1]) rfl ?_;refine Zx ?_;refine YI ?_;refine Zo (Zn ?_)
   refine YA rfl (fun hc6=>?_) (fun hc6=>?_)
   ·replace hc6:=dT hc6
    refine YG (Zn (ZK (Xc (ZK (YK (l:=[0,1,2,3,4,5,6,7,8,9,10,11]) #[0,0,2,6,14,0,32,96,224,510,1023,2047] _ rfl (by kernel_rfl) (by kernel_rfl) St.drawn (fun _ h=>h) ?_)))))
    iterate 2 refine Zx ?_
    refine Wa rfl rfl rfl rfl F.arr23 (by rfl) (by omega) rfl ?_;refine X_load_cell rfl rfl rfl (by repeat first|exact List.Mem.head _|refine List.Mem.tail _ ?_|refine List.mem_append_right _ ?_) F.lay5 (by exact UK (by omega)) rfl ?_;refine Ug rfl rfl rfl Tryz.underlying5 Tryz.underlying129 (by exact wrap_u64_in (by decide) (by omega)) rfl ?_;refine Zx ?_;refine Wa rfl rfl rfl rfl F.arr23 (by rfl) (by omega) rfl ?_;refine X_load_cell rfl rfl rfl (by repeat first|exact List.Mem.head _|refine List.Mem.tail _ ?_|refine List.mem_append_right _ ?_) F.lay5 (by exact UK (by omega)) rfl ?_;refine Ug rfl rfl rfl Tryz.underlying5 Tryz.underlying129 (by exact wrap_u64_in (by decide) (by omega)) rfl ?_
    iterate 2 refine XE rfl rfl rfl rfl rfl (by exact wrap_u64_in (by decide) (by omega)) rfl ?_
    refine ZB ?_;refine Zo (Zn (ZK (Zm (l:=[0,1,2,3,4]) rfl ?_)))
    iterate 2 refine Zx ?_
    refine Ug rfl rfl rfl Tryz.underlying129 Tryz.underlying5 (by exact wrap_u8 _) rfl ?_;refine Wa rfl rfl rfl rfl F.arr23 (by rfl) (by omega) rfl ?_;refine X_store_cell rfl rfl rfl rfl rfl rfl (by repeat first|exact Upd.head|apply Upd.tail|apply Upd.over) F.lay5 (arr_len (by omega)) (arr_set (by omega)) ?_
    rw [lastV_put (a+b) (m:=m) (by omega) (by exact hs.1)]
    refine Zo (Zn (Zm (l:=[0,1,2]) rfl ?_));refine Zx ?_;refine X_shift rfl rfl rfl rfl (by decide) (shr_lit 8 (by decide)) rfl rfl ?_;refine ZB ?_;refine Zo (XR (Zn (Zm (l:=[0,1,2]) rfl ?_)));refine Zx ?_;refine XE rfl rfl rfl rfl rfl (by exact Xe (by decide) (by omega)) rfl ?_;refine ZB ?_;refine Zo ?_;refine XJ (a':=[(6,_),(7,_)]) (m) ([(b4,rowO [.arr 20 (Uq (a+b) (20-m))] 23)]) (.cons (k:=6) rfl (.cons (k:=7) rfl (.cons (k:=5) rfl (.cons (k:=4) rfl (.cons (k:=3) rfl (.cons (k:=2) rfl (.nil))))))) (by exact Mem.le.refl _) (fun w hw=>by first|exact hw|exact hw.c) ?_ ?_
    ·refine ⟨rfl,?_,by omega,rfl⟩
     exact congrArg (fun v=>[(6,Value.int .u64 v),(7,Value.int .i64 ((m:Int)-1))]) (by simpa using hs.2)
    ·omega
   ·replace hc6:=dF hc6
    (exfalso;omega)
theorem rPlus_ok (M:Mem) (a:Plc) (b:Plc):Fs Tryz.prog 97 [aggV [Yt a],aggV [Yt b]] M (fun v=>v= (aggV [Yt (a+b)])):=by
  refine Xv Tryz.func97 rfl Tryz.ntmps97 rfl ?_;intro H
  refine ZK (Zm (l:=[0,1,2]) rfl ?_)
  refine Xk ?_;intro b1
  refine Xk ?_;intro b2
  refine YW F.zero23 ?_;intro b3
  refine Zo (Zn (Y_pk [4,3,2] ?_));refine ZK (Zm (l:=[0]) rfl ?_)
  refine YW F.zero23 ?_;intro b4
  refine Zo (Zn (ZK (Zm (l:=[0]) rfl ?_)));refine ZB ?_;refine Zo (Zn ?_)
  iterate 2 refine ZK ?_
  refine Zm (l:=[0]) rfl ?_;refine ZB ?_;refine Zo (Zn (Xc (Y_pk [6,7,5,4,3,2] ?_)));refine Vm (Hin:=[(b4,rowO [Yt 0] 23)]) (.succ (.succ .zero)) (by repeat first|exact Rem.here _|exact Rem.two|apply Rem.skip|apply Rem.over) (fun (j:Nat) M1 h1 z=>M1=M∧z=[(6,.int .i64 ((Uf a b (20-j):Nat):Int)),(7,.int .i64 ((j:Int)-1))]∧j≤20∧h1=[(b4,rowO [.arr 20 (Uq (a+b) (20-j))] 23)]) (fun j=>j) (20) (⟨rfl,by simp only [Nat.sub_self];rw [carryK_zero];rfl,by omega,by simp only [Nat.sub_self];rw [lastV_none'];rfl⟩) ?_
  rintro j M1 h1 z hm1 ⟨hM1,rfl,hk,rfl⟩
  subst hM1
  rcases j with _|m
  ·rw [show (((0:Nat):Int)-1)=-1 from rfl,show Uq (a+b) (20-0)=idV (a+b) from lastV_all _]
   iterate 2 refine ZK ?_
   refine Zm (l:=[0,1]) rfl ?_;refine Zx ?_;refine YI ?_;refine Zo (Zn ?_)
   refine YA rfl (fun hc5=>?_) (fun hc5=>?_)
   ·replace hc5:=dT hc5
    (exfalso;omega)
   ·replace hc5:=dF hc5
    refine XK ?_
    iterate 2 refine XH ?_
    refine Wh (Zn (Y_pk [5,4] ?_));refine ZK (Zm (l:=[0,1]) rfl ?_);refine ZD F.lay23 ?_;refine Yh F.lay23 ?_;refine Zo (Zn (Y_pk [4] ?_));refine Yo ?_
    refine Yk (.inr rfl) (.cell rfl (by repeat first|exact List.Mem.head _|refine List.Mem.tail _ ?_|refine List.mem_append_right _ ?_) F.lay23 rfl rfl .nil) (fun w hw=>?_)
    refine ⟨_,rfl,(hw.c),?_⟩
    clear hw
    rfl
  ·rw [show (((m+1:Nat):Int)-1)=(m:Int) by omega]
   have ha:=Ue a m
   have hb:=Ue b m
   have hc:=carryK_le a b (20-(m+1))
   have hs:=sum_at a b (m:=m) (by omega)
   have hs1:(((idB a m:Nat):Int)+(idB b m:Nat)+(Uf a b (20-(m+1)):Nat)) % 256=(idB (a+b) m:Nat):=by omega
   have hs2:(((idB a m:Nat):Int)+(idB b m:Nat)+(Uf a b (20-(m+1)):Nat)) / 256=(Uf a b (20-m):Nat):=by omega
   iterate 2 refine ZK ?_
   refine Zm (l:=[0,1]) rfl ?_;refine Zx ?_;refine YI ?_;refine Zo (Zn ?_)
   refine YA rfl (fun hc6=>?_) (fun hc6=>?_)
   ·replace hc6:=dT hc6
    refine YG (Zn (ZK (Xc (ZK (YK (l:=[0,1,2,3,4,5,6,7,8,9,10,11]) #[0,1,3,7,0,16,48,112,255,0,1023,2047] _ rfl (by kernel_rfl) (by kernel_rfl) St.drawn (fun _ h=>h) ?_)))));refine Zx ?_;refine Wa rfl rfl rfl rfl F.arr23 (by rfl) (by omega) rfl ?_;refine X_load_cell rfl rfl rfl (by repeat first|exact List.Mem.head _|refine List.Mem.tail _ ?_|refine List.mem_append_right _ ?_) F.lay5 (by exact UK (by omega)) rfl ?_;refine Ug rfl rfl rfl Tryz.underlying5 Tryz.underlying3 (by exact Xe (by decide) (by omega)) rfl ?_;refine Zx ?_;refine Wa rfl rfl rfl rfl F.arr23 (by rfl) (by omega) rfl ?_;refine X_load_cell rfl rfl rfl (by repeat first|exact List.Mem.head _|refine List.Mem.tail _ ?_|refine List.mem_append_right _ ?_) F.lay5 (by exact UK (by omega)) rfl ?_
    refine Ug rfl rfl rfl Tryz.underlying5 Tryz.underlying3 (by exact Xe (by decide) (by omega)) rfl ?_;refine XE rfl rfl rfl rfl rfl (by exact Xe (by decide) (by omega)) rfl ?_;refine Zx ?_;refine XE rfl rfl rfl rfl rfl (by exact Xe (by decide) (by omega)) rfl ?_;refine ZB ?_;refine Zo (Zn (ZK (Zm (l:=[0,1,2,3,4,5]) rfl ?_)))
    iterate 2 refine Zx ?_
    refine X_rem rfl rfl rfl rfl (by decide) (by exact rem_nn (by omega)) rfl ?_;refine Ug rfl rfl rfl Tryz.underlying3 Tryz.underlying5 (by exact wrap_u8_in (by decide) (by omega)) rfl ?_;refine Wa rfl rfl rfl rfl F.arr23 (by rfl) (by omega) rfl ?_;refine X_store_cell rfl rfl rfl rfl rfl rfl (by repeat first|exact Upd.head|apply Upd.tail|apply Upd.over) F.lay5 (arr_len (by omega)) (arr_set (by omega)) ?_
    rw [lastV_put (a+b) (m:=m) (by omega) hs1]
    refine Zo (Zn (Zm (l:=[0,1,2]) rfl ?_));refine Zx ?_;refine X_quo rfl rfl rfl rfl (by decide) (by exact quo_in rfl (by omega) (by omega) (by omega)) rfl ?_;refine ZB ?_;refine Zo (XR (Zn (Zm (l:=[0,1,2]) rfl ?_)));refine Zx ?_;refine XE rfl rfl rfl rfl rfl (by exact Xe (by decide) (by omega)) rfl ?_;refine ZB ?_;refine Zo ?_;refine XJ (a':=[(6,_),(7,_)]) (m) ([(b4,rowO [.arr 20 (Uq (a+b) (20-m))] 23)]) (.cons (k:=6) rfl (.cons (k:=7) rfl (.cons (k:=5) rfl (.cons (k:=4) rfl (.cons (k:=3) rfl (.cons (k:=2) rfl (.nil))))))) (by exact Mem.le.refl _) (fun w hw=>by first|exact hw|exact hw.c) ?_ ?_
    ·refine ⟨rfl,?_,by omega,rfl⟩
     exact congrArg (fun v=>[(6,Value.int .i64 v),(7,Value.int .i64 ((m:Int)-1))]) hs2
    ·omega
   ·replace hc6:=dF hc6
    (exfalso;omega)
theorem rMinus_ok (M:Mem) (a:Plc) (b:Plc):Fs Tryz.prog 135 [aggV [Yt a],aggV [Yt b]] M (fun v=>v= (aggV [Yt (a-b)])):=by
  refine Xv Tryz.func135 rfl Tryz.ntmps135 rfl ?_;intro H
  refine ZK (Zm (l:=[0,1,2]) rfl ?_)
  refine Xk ?_;intro b1
  refine Xk ?_;intro b2
  refine YW F.zero23 ?_;intro b3
  refine Zo (Zn (Y_pk [4,3,2] ?_));refine ZK (Zm (l:=[0]) rfl ?_)
  refine YW F.zero23 ?_;intro b4
  refine Zo (Zn (ZK (Zm (l:=[0]) rfl ?_)));refine ZB ?_;refine Zo (Zn ?_)
  iterate 2 refine ZK ?_
  refine Zm (l:=[0]) rfl ?_;refine ZB ?_;refine Zo (Zn (Xc (Y_pk [6,7,5,4,3,2] ?_)));refine Vm (Hin:=[(b4,rowO [Yt 0] 23)]) (.succ (.succ .zero)) (by repeat first|exact Rem.here _|exact Rem.two|apply Rem.skip|apply Rem.over) (fun (j:Nat) M1 h1 z=>M1=M∧z=[(6,.int .i64 ((Ui a b (20-j):Nat):Int)),(7,.int .i64 ((j:Int)-1))]∧j≤20∧h1=[(b4,rowO [.arr 20 (Uq (a-b) (20-j))] 23)]) (fun j=>j) (20) (⟨rfl,by simp only [Nat.sub_self];rw [borrowK_zero];rfl,by omega,by simp only [Nat.sub_self];rw [lastV_none'];rfl⟩) ?_
  rintro j M1 h1 z hm1 ⟨hM1,rfl,hk,rfl⟩
  subst hM1
  rcases j with _|m
  ·rw [show (((0:Nat):Int)-1)=-1 from rfl,show Uq (a-b) (20-0)=idV (a-b) from lastV_all _]
   iterate 2 refine ZK ?_
   refine Zm (l:=[0,1]) rfl ?_;refine Zx ?_;refine YI ?_;refine Zo (Zn ?_)
   refine YA rfl (fun hc5=>?_) (fun hc5=>?_)
   ·replace hc5:=dT hc5
    (exfalso;omega)
   ·replace hc5:=dF hc5
    refine XK ?_
    iterate 2 refine XH ?_
    refine Wh (Zn (Y_pk [5,4] ?_));refine ZK (Zm (l:=[0,1]) rfl ?_);refine ZD F.lay23 ?_;refine Yh F.lay23 ?_;refine Zo (Zn (Y_pk [4] ?_));refine Yo ?_
    refine Yk (.inr rfl) (.cell rfl (by repeat first|exact List.Mem.head _|refine List.Mem.tail _ ?_|refine List.mem_append_right _ ?_) F.lay23 rfl rfl .nil) (fun w hw=>?_)
    refine ⟨_,rfl,(hw.c),?_⟩
    clear hw
    rfl
  ·rw [show (((m+1:Nat):Int)-1)=(m:Int) by omega]
   have ha:=Ue a m
   have hb:=Ue b m
   have hc:=borrowK_le a b (20-(m+1))
   have hs:=diff_at a b (m:=m) (by omega)
   iterate 2 refine ZK ?_
   refine Zm (l:=[0,1]) rfl ?_;refine Zx ?_;refine YI ?_;refine Zo (Zn ?_)
   refine YA rfl (fun hc6=>?_) (fun hc6=>?_)
   ·replace hc6:=dT hc6
    refine YG (Zn (ZK (Xc (ZK (YK (l:=[0,1,2,3,4,5,6,7,8,9,10,11,12]) #[0,1,3,7,15,0,32,96,224,511,0,2047,4095] _ rfl (by kernel_rfl) (by kernel_rfl) St.drawn (fun _ h=>h) ?_)))));refine Zx ?_;refine Wa rfl rfl rfl rfl F.arr23 (by rfl) (by omega) rfl ?_;refine X_load_cell rfl rfl rfl (by repeat first|exact List.Mem.head _|refine List.Mem.tail _ ?_|refine List.mem_append_right _ ?_) F.lay5 (by exact UK (by omega)) rfl ?_;refine Ug rfl rfl rfl Tryz.underlying5 Tryz.underlying3 (by exact Xe (by decide) (by omega)) rfl ?_;refine XE rfl rfl rfl rfl rfl (by exact Xe (by decide) (by omega)) rfl ?_;refine Zx ?_;refine Wa rfl rfl rfl rfl F.arr23 (by rfl) (by omega) rfl ?_;refine X_load_cell rfl rfl rfl (by repeat first|exact List.Mem.head _|refine List.Mem.tail _ ?_|refine List.mem_append_right _ ?_) F.lay5 (by exact UK (by omega)) rfl ?_
    refine Ug rfl rfl rfl Tryz.underlying5 Tryz.underlying3 (by exact Xe (by decide) (by omega)) rfl ?_;refine XE rfl rfl rfl rfl rfl (by exact Xe (by decide) (by omega)) rfl ?_;refine Zx ?_;refine XE rfl rfl rfl rfl rfl (by exact Xe (by decide) (by omega)) rfl ?_;refine ZB ?_;refine Zo (Zn (ZK (Zm (l:=[0,1,2,3,4,5]) rfl ?_)))
    iterate 2 refine Zx ?_
    refine X_rem rfl rfl rfl rfl (by decide) (by exact rem_nn (by omega)) rfl ?_;refine Ug rfl rfl rfl Tryz.underlying3 Tryz.underlying5 (by exact wrap_u8_in (by decide) (by omega)) rfl ?_;refine Wa rfl rfl rfl rfl F.arr23 (by rfl) (by omega) rfl ?_;refine X_store_cell rfl rfl rfl rfl rfl rfl (by repeat first|exact Upd.head|apply Upd.tail|apply Upd.over) F.lay5 (arr_len (by omega)) (arr_set (by omega)) ?_
    rw [lastV_put (a-b) (m:=m) (by omega) hs.1]
    refine Zo (Zn (Zm (l:=[0,1,2,3]) rfl ?_));refine Zx ?_;refine X_quo rfl rfl rfl rfl (by decide) (by exact quo_in rfl (by omega) (by omega) (by omega)) rfl ?_;refine XE rfl rfl rfl rfl rfl (by exact Xe (by decide) (by omega)) rfl ?_;refine ZB ?_;refine Zo (XR (Zn (Zm (l:=[0,1,2]) rfl ?_)));refine Zx ?_;refine XE rfl rfl rfl rfl rfl (by exact Xe (by decide) (by omega)) rfl ?_;refine ZB ?_;refine Zo ?_;refine XJ (a':=[(6,_),(7,_)]) (m) ([(b4,rowO [.arr 20 (Uq (a-b) (20-m))] 23)]) (.cons (k:=6) rfl (.cons (k:=7) rfl (.cons (k:=5) rfl (.cons (k:=4) rfl (.cons (k:=3) rfl (.cons (k:=2) rfl (.nil))))))) (by exact Mem.le.refl _) (fun w hw=>by first|exact hw|exact hw.c) ?_ ?_
    ·refine ⟨rfl,?_,by omega,rfl⟩
     exact congrArg (fun v=>[(6,Value.int .i64 v),(7,Value.int .i64 ((m:Int)-1))]) hs.2
    ·omega
   ·replace hc6:=dF hc6
    (exfalso;omega)
end Go.Proofs.YtajmnjefajknoaaGreat
namespace Go.Esp
def idxF {α:Type} (p:α→Bool) (l:List α):Int:=if l.any p then (l.findIdx p:Int) else -1
theorem idxF_at {α:Type} {p:α→Bool} {l:List α} {k:Nat} (hk:k<l.length) (h1:∀ j (h:j<k),p (l[j]'(by omega))=false) (h2:p l[k]=true):idxF p l=k:=by
  unfold idxF
  rw [if_pos (List.any_eq_true.2 ⟨_,List.getElem_mem hk,h2⟩)]
  congr 1
  exact (List.findIdx_eq hk).2 ⟨h2,fun j hj=>by simpa using h1 j hj⟩
theorem idxF_none {α:Type} {p:α→Bool} {l:List α} (h:∀ j (h:j<l.length),p l[j]=false):idxF p l=-1:=by
  unfold idxF
  rw [if_neg]
  intro ha
  obtain ⟨x,hx,hp⟩:=List.any_eq_true.1 ha
  obtain ⟨j,hj,rfl⟩:=List.getElem_of_mem hx
  rw [h j hj] at hp;cases hp
theorem idxF_nn {α:Type} {p:α→Bool} {l:List α}:decide (0≤idxF p l)=l.any p:=by
  unfold idxF
  by_cases h:l.any p=true
  · rw [if_pos h,h];simp
  · rw [if_neg h];simp at h;simp;exact h
def bsP {α:Type} (cmp:α→Int) (l:List α) (j:Nat):Bool:=match l[j]? with
  | some y=>decide (0≤cmp y)
  | none=>false
def bsAt {α:Type} (cmp:α→Int) (l:List α):Nat:=firstP (bsP cmp l) l.length
def bsIs {α:Type} (cmp:α→Int) (l:List α):Bool:=match l[bsAt cmp l]? with
  | some y=>decide (cmp y=0)
  | none=>false
end Go.Esp
namespace Go.Esp
def YX (a:Int):Prop:=0≤a∧a≤999
instance (a:Int):Decidable (YX a):=by unfold YX;exact inferInstance
def Xf:ZF:=⟨-1,0⟩
def Xn (s p:ZF):Prop:=YX p.addr∧p.addr≠s.addr∧p.id≠s.id
instance (s p:ZF):Decidable (Xn s p):=by unfold Xn;exact inferInstance
def Up (s p:ZF):Prop:=p=Xf∨Xn s p
instance (s p:ZF):Decidable (Up s p):=by unfold Up;exact inferInstance
def hasA (l:List ZF) (a:Int):Prop:=a∈l.map ZF.addr
instance (l:List ZF) (a:Int):Decidable (hasA l a):=by unfold hasA;exact inferInstance
structure Tb where
  self:ZF
  pred:ZF
  succ:List ZF
  fingers:List ZF
  deriving DecidableEq
def ZQ.tb (t:ZQ):Tb:=⟨t.self,t.pred,t.succ.l,t.fingers.l⟩
def UB (s:ZF) (l:List ZF):Prop:=(∀ p∈l,Xn s p)∧(l.map ZF.addr).Nodup
instance (s:ZF) (l:List ZF):Decidable (UB s l):=by unfold UB;exact inferInstance
def IsTb (t:Tb):Prop:=YX t.self.addr∧Up t.self t.pred∧t.succ.length≤8∧t.fingers.length=160∧UB t.self t.succ∧∀ p∈t.fingers,Up t.self p
instance (t:Tb):Decidable (IsTb t):=by unfold IsTb;exact inferInstance
def Tb.zero:Tb:=⟨⟨0,0⟩,⟨0,0⟩,[],[]⟩
def newT (self:ZF):Tb×Int:=if YX self.addr then (⟨self,Xf,[],List.replicate 160 Xf⟩,0) else (Tb.zero,1)
def Wi (t:Tb):ZF:=t.succ.headD t.self
def VP (t:Tb) (p:ZF):Prop:=Xn t.self p∧Uo t.self.id p.id (Wi t).id
instance (t:Tb) (p:ZF):Decidable (VP t p):=by unfold VP;exact inferInstance
def Ve (s:ZF) (r:Int):List ZF→List ZF→List ZF
  | acc,[]=>acc
  | acc,p::rest=>if ¬Xn s p∨(acc.length:Int)=r then acc else if hasA acc p.addr then Ve s r acc rest else Ve s r (acc++[p]) rest
def Vl (t:Tb) (first:ZF) (rest:List ZF) (r:Int):Tb×Int :=
  if IsTb t∧Xn t.self first∧1≤r∧r≤8 then ({ t with succ:=Ve t.self r [first] rest },0) else (Tb.zero,1)
def Vs (t:Tb) (p:ZF):Tb:=if IsTb t∧Xn t.self p∧(t.pred=Xf∨Uo t.pred.id p.id t.self.id) then { t with pred:=p } else t
def UJ (s p:ZF) (j:Nat):Bool:=decide (HalfP s.id (s.id+powP j) p.id)
def Vd (s p:ZF) (k:Nat):Nat→Nat→Nat
  | j,0=>j
  | j,n+1=>if k<j∧UJ s p j=false then j else Vd s p k (j+1) n
def VY (t:Tb) (p:ZF):ZF:=if p=t.self then Xf else p
def WT (t:Tb) (k:Int) (p:ZF):Tb×Int×Int :=
  if IsTb t∧(0≤k∧k<160)∧(p=t.self∨Xn t.self p) then
    let e:=Vd t.self p k.toNat k.toNat (160-k.toNat)
    ({ t with fingers:=t.fingers.take k.toNat++List.replicate (e-k.toNat) (VY t p)++t.fingers.drop e },if e=160 then 0 else e,0)
  else (Tb.zero,0,1)
def Wm (t:Tb) (a:Int):Tb :=
  ⟨t.self,if t.pred.addr=a then Xf else t.pred,t.succ.filter (fun p=>p.addr≠a),t.fingers.map (fun p=>if p.addr=a then Xf else p)⟩
def insP (p:ZF):List ZF→List ZF
  | []=>[p]
  | q::l=>if q.addr<p.addr then q::insP p l else p::q::l
def knownStep (s:ZF) (out:List ZF) (p:ZF):List ZF:=if p.addr<0∨p.addr=s.addr∨hasA out p.addr then out else insP p out
def knownT (t:Tb):List ZF:=(t.pred::(t.succ++t.fingers)).foldl (knownStep t.self) []
def Vn (s:ZF) (id:Plc) (avoid:List Int) (b:ZF×Bool) (p:ZF):ZF×Bool :=
  if p.addr∈avoid∨¬Uo s.id p.id id then b else if b.2=false∨Uo b.1.id p.id id then (p,true) else b
def Wj (t:Tb) (id:Plc) (avoid:List Int):ZF×Bool:=(knownT t).foldl (Vn t.self id avoid) (Xf,false)
def VL (t:Tb) (id:Plc):ZF×Bool:=(Wi t,decide (HalfP t.self.id id (Wi t).id))
theorem any_has {l:List ZF} {a:Int}:(l.any fun p=>decide (p.addr=a))=decide (hasA l a):=by
  rw [Bool.eq_iff_iff];simp [hasA,List.mem_map]
theorem hasA_at {l:List ZF} {a:Int} {k:Nat} (hk:k<l.length) (h:l[k].addr=a):hasA l a:=List.mem_map.2 ⟨_,List.getElem_mem hk,h⟩
theorem hasA_none {l:List ZF} {a:Int} (h:∀ j (h:j<l.length),¬l[j].addr=a):¬hasA l a:=by
  intro hm
  obtain ⟨p,hp,rfl⟩:=List.mem_map.1 hm
  obtain ⟨j,hj,rfl⟩:=List.getElem_of_mem hp
  exact h j hj rfl
theorem succOk_take {s:ZF} {l:List ZF} {k:Nat} (hk:k<l.length):UB s (l.take (k+1))↔UB s (l.take k)∧Xn s l[k]∧¬hasA (l.take k) l[k].addr:=by
  have e:l.take (k+1)=l.take k++[l[k]]:=by rw [List.take_add_one,List.getElem?_eq_getElem hk];rfl
  rw [e]
  unfold UB hasA
  simp only [List.mem_append,List.mem_singleton,List.map_append,List.map_cons,List.map_nil,List.nodup_append,List.nodup_cons,List.not_mem_nil,not_false_eq_true,List.nodup_nil,and_true,true_and]
  constructor
  · rintro ⟨h1,h2,h3⟩
    exact ⟨⟨fun p hp=>h1 p (.inl hp),h2⟩,h1 _ (.inr rfl),fun hm=>h3 _ hm _ rfl rfl⟩
  · rintro ⟨⟨h1,h2⟩,h3,h4⟩
    refine ⟨fun p hp=>?_,h2,fun a ha b hb=>?_⟩
    · rcases hp with hp|rfl
      · exact h1 p hp
      · exact h3
    · subst hb;intro e;subst e;exact h4 ha
theorem succOk_pre {s:ZF} {l:List ZF} (h:UB s l) (k:Nat):UB s (l.take k):=⟨fun p hp=>h.1 p (List.mem_of_mem_take hp),h.2.sublist ((List.take_sublist k l).map _)⟩
def UF (M:Mem) (v:Value) (T:Tb):Prop:=∃ t:ZQ,v=t.enc∧t.tb=T∧ZQ.ok M t
theorem UF.mono {M M':Mem} {v:Value} {T:Tb} (h:UF M v T) (hm:M.le M'):UF M' v T:=let ⟨t,h1,h2,h3⟩:=h;⟨t,h1,h2,h3.mono hm⟩
theorem Ws {M:Mem} {sa:Int} {si:Plc} {pa:Int} {pi:Plc} {s1 s2:Sl ZF} {v1 v2:Value} {T:Tb} (h1:v1=s1.val) (h2:v2=s2.val) (k1:SlK M ZF.segs 21 s1) (k2:SlK M ZF.segs 21 s2) (hT:(⟨⟨sa,si⟩,⟨pa,pi⟩,s1.l,s2.l⟩:Tb)=T) :
    UF M (aggV [.one (.int .i64 sa),Yt si,.one (.int .i64 pa),Yt pi,.one v1,.one v2]) T:=by
  subst h1 h2
  exact ⟨⟨⟨sa,si⟩,⟨pa,pi⟩,s1,s2⟩,rfl,hT,⟨k1,k2⟩⟩
theorem WL {M:Mem}:UF M (aggV [.one (.int .i64 0),Yt 0,.one (.int .i64 0),Yt 0,.one (.slice none 0 0),.one (.slice none 0 0)]) Tb.zero:=⟨ZQ.zero,rfl,rfl,ZQ.zero_ok M⟩
def TabE (M:Mem) (v:Value) (r:Tb×Int):Prop:=∃ u,v=.tuple #[u,.int .i64 r.2]∧UF M u r.1
theorem isTb_small {t:ZQ} (h:IsTb t.tb):t.succ.l.length≤40∧t.fingers.l.length≤200:=by
  obtain ⟨_,_,h1,h2,_⟩:=h
  simp only [ZQ.tb] at h1 h2
  omega
def kept {α:Type} (p:α→Bool) (l:List α):List α:=l.filter (fun x=>!p x)
theorem kept_none {α:Type} {p:α→Bool} {l:List α} (h:idxF p l=-1):kept p l=l:=by
  unfold idxF at h
  split at h
  · rename_i h1;omega
  · rename_i h1
    unfold kept
    rw [List.filter_eq_self]
    intro x hx
    simp at h1
    simp [h1 x hx]
theorem idxF_some {α:Type} {p:α→Bool} {l:List α} (h:idxF p l≠-1):∃ i,idxF p l=(i:Nat)∧∃ hi:i<l.length,kept p (l.take (i+1))=l.take i∧p l[i]=true:=by
  unfold idxF at h ⊢
  split
  · rename_i h1
    have hi:l.findIdx p<l.length:=List.findIdx_lt_length_of_exists (by simpa using h1)
    refine ⟨l.findIdx p,rfl,hi,?_,List.findIdx_getElem (w:=hi)⟩
    unfold kept
    rw [List.take_add_one,List.getElem?_eq_getElem hi,List.filter_append]
    have e1:(l.take (l.findIdx p)).filter (fun x=>!p x)=l.take (l.findIdx p):=by
      rw [List.filter_eq_self]
      intro x hx
      obtain ⟨j,hj,rfl⟩:=List.mem_take_iff_getElem.1 hx
      have:=List.not_of_lt_findIdx (p:=p) (xs:=l) (i:=j) (by omega)
      simp [this]
    have e2:p (l[l.findIdx p])=true:=List.findIdx_getElem (w:=hi)
    rw [e1];simp [e2]
  · rename_i h1;rw [if_neg h1] at h;exact (h rfl).elim
theorem filt_step {α:Type} {p:α→Bool} {l:List α} {j:Nat} (hj:j<l.length):kept p (l.take (j+1))=if p l[j] then kept p (l.take j) else kept p (l.take j)++[l[j]]:=by
  unfold kept
  rw [List.take_add_one,List.getElem?_eq_getElem hj,List.filter_append]
  cases h:p l[j] <;> simp [h]
theorem keep_put {α:Type} {w l:List α} {i j:Nat} {q:List α} (hw:w.length=l.length) (hij:i<j) (hj:j<l.length) (h1:w.take i=q) (h2:w.drop j=l.drop j):(w.set i l[j]).length=l.length∧(w.set i l[j]).take (i+1)=q++[l[j]]∧(w.set i l[j]).drop (j+1)=l.drop (j+1):=by
  refine ⟨by simpa using hw,?_,?_⟩
  · rw [List.take_add_one,List.getElem?_set_self (by omega),List.take_set_of_le (Nat.le_refl i),h1];rfl
  · rw [List.drop_set_of_lt (by omega)]
    have:=congrArg (List.drop 1) h2
    simpa [List.drop_drop] using this
theorem drop_at {α:Type} {w l:List α} {j:Nat} (hw:w.length=l.length) (hj:j<l.length) (h2:w.drop j=l.drop j):w[j]'(by omega)=l[j]:=by
  have e1:=List.drop_eq_getElem_cons (l:=w) (i:=j) (by omega)
  have e2:=List.drop_eq_getElem_cons (l:=l) (i:=j) hj
  rw [e1,e2] at h2
  exact (List.cons.inj h2).1
theorem kept_ne {l:List ZF} {a:Int}:kept (fun p=>decide (p.addr=a)) l=l.filter (fun p=>p.addr≠a):=by
  unfold kept;congr 1;funext p;simp
def Ux (a:Int) (p:ZF):ZF:=if p.addr=a then Xf else p
theorem turn_step {α:Type} {w l:List α} {f:α→α} {k:Nat} (hw:w.length=l.length) (hk:k<l.length) (h1:w.take k=(l.take k).map f) (h2:w.drop k=l.drop k) {x:α} (hx:x=f l[k]) :
    (w.set k x).length=l.length∧(w.set k x).take (k+1)=(l.take (k+1)).map f∧(w.set k x).drop (k+1)=l.drop (k+1):=by
  refine ⟨by simpa using hw,?_,?_⟩
  · rw [List.take_add_one,List.getElem?_set_self (by omega),List.take_set_of_le (Nat.le_refl k),h1,List.take_add_one,List.getElem?_eq_getElem hk,List.map_append,hx];rfl
  · rw [List.drop_set_of_lt (by omega)]
    have:=congrArg (List.drop 1) h2
    simpa [List.drop_drop] using this
theorem turn_stay {α:Type} {w l:List α} {f:α→α} {k:Nat} (hw:w.length=l.length) (hk:k<l.length) (h1:w.take k=(l.take k).map f) (h2:w.drop k=l.drop k) (hx:l[k]=f l[k]) :
    w.take (k+1)=(l.take (k+1)).map f∧w.drop (k+1)=l.drop (k+1):=by
  constructor
  · rw [List.take_add_one,List.getElem?_eq_getElem (by omega),drop_at hw hk h2,h1,List.take_add_one,List.getElem?_eq_getElem hk,List.map_append]
    simp [← hx]
  · have:=congrArg (List.drop 1) h2
    simpa [List.drop_drop] using this
def ofPB (r:ZF×Bool):Value:=.tuple #[r.1.enc,.bool r.2]
end Go.Esp
namespace Go.Proofs.YtajmnjefajknoaaGreat
open Go.Esp
theorem F.bld25:Bld Tryz.prog 25 [[.one (.int .i64 0)],[Yt 0]]:=by rw [Us];exact ⟨by kernel_rfl,by kernel_rfl⟩
theorem F.guard23:Tryz.prog.eqGuardType Tryz.prog.depth 23=false:=by kernel_rfl
theorem F.kinds23:VF Tryz.prog 20 23=some [.i .u8,.i .u8,.i .u8,.i .u8,.i .u8,.i .u8,.i .u8,.i .u8,.i .u8,.i .u8,.i .u8,.i .u8,.i .u8,.i .u8,.i .u8,.i .u8,.i .u8,.i .u8,.i .u8,.i .u8]:=by kernel_rfl
theorem F.lay25:lay Tryz.prog 25=some (true,21):=by kernel_rfl
theorem F.ok113:okFn Tryz.prog 113=true:=by kernel_rfl
theorem F.ok114:okFn Tryz.prog 114=true:=by kernel_rfl
theorem F.ok134:okFn Tryz.prog 134=true:=by kernel_rfl
theorem F.ok135:okFn Tryz.prog 135=true:=by kernel_rfl
theorem F.ok141:okFn Tryz.prog 141=true:=by kernel_rfl
theorem F.zero25:WH Tryz.prog 25=some (aggV [.one (.int .i64 0),Yt 0]):=by rw [Us];kernel_rfl
theorem Power_ok_in (M:Mem) (n:Nat) (h:n<160):Fs Tryz.prog 85 [.int .i64 (n:Int)] M (fun v=>v=.tuple #[aggV [Yt (powP n)],.int .i64 0]):=by
  have h8:((n:Nat):Int) % 8=((n % 8:Nat):Int):=(Int.natCast_emod _ _).symm
  have h9:(19:Int)-((n:Nat):Int) / 8=((19-n / 8:Nat):Int):=by omega
  refine Xv Tryz.func85 rfl Tryz.ntmps85 rfl ?_;intro H
  refine ZK (Zm (l:=[0,1]) rfl ?_)
  refine YW F.zero23 ?_;intro b1
  refine ZB ?_;refine Zo (Zn (ZK (Zm (l:=[0]) rfl ?_)))
  refine YW F.zero23 ?_;intro b2
  refine Zo (Zn ?_)
  iterate 2 refine ZK ?_
  refine Zm (l:=[0,1,2,3,4,5]) rfl ?_;refine Zx ?_;refine YI ?_;refine Zx ?_
  refine Yj 7 rfl (fun hc3=>?_) (fun hc3=>?_)
  ·replace hc3:=dT hc3
   (exfalso;omega)
  ·replace hc3:=dF hc3
   refine Zx ?_;refine YI ?_;refine ZO ?_;refine Zo (Zn (Y_pk [10,4,3,2,0] ?_))
   refine YA rfl (fun hc4=>?_) (fun hc4=>?_)
   ·replace hc4:=dT hc4
    (exfalso;omega)
   ·replace hc4:=dF hc4
    refine YG (Zn (Y_pk [4,3,2,0] ?_));refine ZK (Zm (l:=[0,1,2,3,4,5,6,7]) rfl ?_);refine Zx ?_;refine X_quo rfl rfl rfl rfl (by decide) (by exact quo_in rfl (by omega) (by omega) (by omega)) rfl ?_;refine XE rfl rfl rfl rfl rfl (by exact Xe (by decide) (by omega)) rfl ?_
    rw [h9]
    refine Zx ?_;refine X_rem rfl rfl rfl rfl (by decide) (by exact rem_nn (by omega)) rfl ?_
    rw [h8]
    refine X_shift rfl rfl rfl rfl (by omega) rfl rfl rfl ?_;refine Wa rfl rfl rfl rfl F.arr23 (by rfl) (by omega) rfl ?_
    have hl8:n / 8≤19:=by omega
    refine X_store_cell rfl rfl rfl rfl rfl rfl (by repeat first|exact Upd.head|apply Upd.tail|apply Upd.over) F.lay5 (arr_len (by omega)) (arr_set (by omega)) ?_
    rw [powV0 (k:=n) h rfl shl_one (by omega)]
    refine Zo (Zn (Y_pk [4,3,2] ?_));refine ZK (Zm (l:=[0,1,2]) rfl ?_);refine ZD F.lay23 ?_;refine Yh F.lay23 ?_;refine ZB ?_;refine Zo (Zn (Y_pk [3,2] ?_));refine Yo ?_
    refine Yk (.inr rfl) (.cell rfl (by repeat first|exact List.Mem.head _|refine List.Mem.tail _ ?_|refine List.mem_append_right _ ?_) F.lay23 rfl rfl (.tmp rfl .nil)) (fun w hw=>?_)
    refine ⟨_,rfl,(hw.c),?_⟩
    clear hw
    rfl
theorem rPower_ok_in (M:Mem) (n:Nat) (h:n<160):Fs Tryz.prog 96 [.int .i64 (n:Int)] M (fun v=>v=.tuple #[aggV [Yt (powP n)],.int .i64 0]):=by
  have h8:((n:Nat):Int) % 8=((n % 8:Nat):Int):=(Int.natCast_emod _ _).symm
  have h9:(19:Int)-((n:Nat):Int) / 8=((19-n / 8:Nat):Int):=by omega
  refine Xv Tryz.func96 rfl Tryz.ntmps96 rfl ?_;intro H
  refine ZK (Zm (l:=[0,1]) rfl ?_)
  refine YW F.zero23 ?_;intro b1
  refine ZB ?_;refine Zo (Zn (ZK (Zm (l:=[0]) rfl ?_)))
  refine YW F.zero23 ?_;intro b2
  refine Zo (Zn ?_)
  iterate 2 refine ZK ?_
  refine Zm (l:=[0,1,2,3,4,5]) rfl ?_;refine Zx ?_;refine YI ?_;refine Zx ?_
  refine Yj 9 rfl (fun hc3=>?_) (fun hc3=>?_)
  ·replace hc3:=dT hc3
   (exfalso;omega)
  ·replace hc3:=dF hc3
   refine Zx ?_;refine YI ?_;refine ZO ?_;refine Zo (Zn (Y_pk [12,4,3,2,0] ?_))
   refine YA rfl (fun hc4=>?_) (fun hc4=>?_)
   ·replace hc4:=dT hc4
    (exfalso;omega)
   ·replace hc4:=dF hc4
    refine YG (Zn (Y_pk [4,3,2,0] ?_));refine ZK (Zm (l:=[0]) rfl ?_);refine ZB ?_;refine Zo (Zn ?_)
    iterate 2 refine ZK ?_
    refine Zm (l:=[0]) rfl ?_;refine ZB ?_;refine Zo (Zn (Xc (Y_pk [5,6,4,3,2,0] ?_)));refine WV (.succ (.succ .zero)) (fun (k:Nat) z=>z=[(5,.int .i64 ((2 ^ k:Nat):Int)),(6,.int .i64 (k:Int))]∧k≤n % 8) (fun k=>n % 8-k) (0) (⟨rfl,by omega⟩) ?_
    rintro k _ ⟨rfl,hk⟩
    have hp2:2 ^ k≤2 ^ 7:=Nat.pow_le_pow_right (by decide) (by omega)
    generalize hq:2 ^ k=q at hp2 ⊢
    have hp3:q≤128:=hp2
    iterate 2 refine ZK ?_
    refine Zm (l:=[0,1,2,3]) rfl ?_
    iterate 2 refine Zx ?_
    refine X_rem rfl rfl rfl rfl (by decide) (by exact rem_nn (by omega)) rfl ?_
    rw [h8]
    refine YI ?_;refine Zo (Zn ?_)
    refine YA rfl (fun hc5=>?_) (fun hc5=>?_)
    ·replace hc5:=dT hc5
     refine YG (Zn (ZK (Xc (Zm (l:=[0,1,2]) rfl ?_))));refine Zx ?_;refine XE rfl rfl rfl rfl rfl (by exact Xe (by decide) (by omega)) rfl ?_;refine ZB ?_;refine Zo (XR (Zn (Zm (l:=[0,1,2]) rfl ?_)));refine Zx ?_;refine XE rfl rfl rfl rfl rfl (by exact Xe (by decide) (by omega)) rfl ?_;refine ZB ?_;refine Zo ?_;refine WO (a':=[(5,_),(6,_)]) (k+1) (.cons (k:=5) rfl (.cons (k:=6) rfl (.cons (k:=4) rfl (.cons (k:=3) rfl (.cons (k:=2) rfl (.cons (k:=0) rfl (.nil))))))) (fun w hw=>by first|exact hw|exact hw.c) ?_ ?_
     ·refine ⟨?_,by omega⟩
      rw [show ((2 ^ (k+1):Nat):Int)=2 * ((q:Nat):Int) by rw [Nat.pow_succ,hq];omega]
      rfl
     ·omega
    ·replace hc5:=dF hc5
     refine XK ?_
     iterate 2 refine XH ?_
     refine Wh (Zn (Y_pk [5,4,3,2,0] ?_));refine ZK (Zm (l:=[0,1,2,3,4,5,6]) rfl ?_);refine Zx ?_;refine X_quo rfl rfl rfl rfl (by decide) (by exact quo_in rfl (by omega) (by omega) (by omega)) rfl ?_;refine XE rfl rfl rfl rfl rfl (by exact Xe (by decide) (by omega)) rfl ?_
     rw [h9]
     refine Zx ?_;refine Ug rfl rfl rfl Tryz.underlying3 Tryz.underlying5 (by exact wrap_u8_in (by decide) (by omega)) rfl ?_;refine Wa rfl rfl rfl rfl F.arr23 (by rfl) (by omega) rfl ?_
     obtain rfl:k=n % 8:=by omega
     have hl8:n / 8≤19:=by omega
     refine X_store_cell rfl rfl rfl rfl rfl rfl (by repeat first|exact Upd.head|apply Upd.tail|apply Upd.over) F.lay5 (arr_len (by omega)) (arr_set (by omega)) ?_
     rw [powV0 (k:=n) h rfl (v:=(q:Int)) (by rw [hq]) (by omega)]
     refine Zo (Zn (Y_pk [4,3,2] ?_));refine ZK (Zm (l:=[0,1,2]) rfl ?_);refine ZD F.lay23 ?_;refine Yh F.lay23 ?_;refine ZB ?_;refine Zo (Zn (Y_pk [3,2] ?_));refine Yo ?_
     refine Yk (.inr rfl) (.cell rfl (by repeat first|exact List.Mem.head _|refine List.Mem.tail _ ?_|refine List.mem_append_right _ ?_) F.lay23 rfl rfl (.tmp rfl .nil)) (fun w hw=>?_)
     refine ⟨_,rfl,(hw.c),?_⟩
     clear hw
     rfl
theorem Open_ok (M:Mem) (a:Plc) (x:Plc) (b:Plc):Fs Tryz.prog 114 [aggV [Yt a],aggV [Yt x],aggV [Yt b]] M (fun v=>v=Value.bool (decide (Uo a x b))):=by
  refine Xv Tryz.func114 rfl Tryz.ntmps114 rfl ?_;intro H
  refine ZK (Zm (l:=[0,1,2,3]) rfl ?_)
  refine Xk ?_;intro b1
  refine Xk ?_;intro b2
  refine Xk ?_;intro b3
  refine ZB ?_;refine Zo (Zn (Y_pk [6,5,4,3] ?_));refine ZK (Xc (ZK (Zm (l:=[0,1,2,3]) rfl ?_)))
  iterate 2 refine ZD F.lay23 ?_
  refine WF (m:=20) rfl rfl rfl rfl rfl (by constructor) (by constructor) F.lay23 F.kinds23 rfl F.guard23 (WZ WE) (WZ WE) rfl rfl rfl ?_;intro c4 he5
  replace he5:c4=true↔Segs.cells _=Segs.cells _:=he5
  obtain rfl:=eqD he5 (Vj (x:=_) (y:=_));clear he5
  refine ZB ?_;refine Zo (Zn (Y_pk [7,6,5,4,3] ?_))
  refine YA rfl (fun hc6=>?_) (fun hc6=>?_)
  ·replace hc6:=dT hc6
   refine ZK (Zm (l:=[0,1,2,3]) rfl ?_)
   iterate 2 refine ZD F.lay23 ?_
   refine WF (m:=20) rfl rfl rfl rfl rfl (by constructor) (by constructor) F.lay23 F.kinds23 rfl F.guard23 (WZ WE) (WZ WE) rfl rfl rfl ?_;intro c7 he8
   replace he8:c7=true↔¬(Segs.cells _=Segs.cells _):=he8
   obtain rfl:=neD he8 (Vj (x:=_) (y:=_));clear he8
   refine ZB ?_;refine Zo (Zn (Y_pk [6,5,4,3] ?_));refine Yo (Xh (YS ?_))
   refine Yk (.inr rfl) (.tmp rfl .nil) (fun w hw=>?_)
   refine ⟨_,rfl,(hw.c),?_⟩
   clear hw
   refine congrArg Value.bool ?_
   simp_all [open_arms]
  ·replace hc6:=dF hc6
   refine ZK (Zm (l:=[0,1,2,3]) rfl ?_)
   iterate 2 refine ZD F.lay23 ?_
   refine X_fs rfl rfl F.ok141 rfl (Less_ok _ _ _) rfl ?_
   rintro _ rfl
   refine ZB ?_;refine Zo (Zn (Y_pk [14,6,5,4,3] ?_))
   refine YA rfl (fun hc9=>?_) (fun hc9=>?_)
   ·replace hc9:=dT hc9
    refine ZK (Zm (l:=[0,1,2,3,4,5,6,7,8]) rfl ?_)
    iterate 2 refine ZD F.lay23 ?_
    refine X_fs rfl rfl F.ok141 rfl (Less_ok _ _ _) rfl ?_
    rintro _ rfl
    refine Zx ?_
    refine Yj 21 rfl (fun hc10=>?_) (fun hc10=>?_)
    ·replace hc10:=dT hc10
     iterate 2 refine ZD F.lay23 ?_
     refine X_fs rfl rfl F.ok141 rfl (Less_ok _ _ _) rfl ?_
     rintro _ rfl
     refine ZO ?_;refine ZB ?_;refine Zo (Zn (Y_pk [6,5,4,3] ?_));refine Yo (Xh (YS ?_))
     refine Yk (.inr rfl) (.tmp rfl .nil) (fun w hw=>?_)
     refine ⟨_,rfl,(hw.c),?_⟩
     clear hw
     refine congrArg Value.bool ?_
     simp_all [open_arms]
    ·replace hc10:=dF hc10
     iterate 3 refine Ya ?_
     refine ZO ?_;refine ZB ?_;refine Zo (Zn (Y_pk [6,5,4,3] ?_));refine Yo (Xh (YS ?_))
     refine Yk (.inr rfl) (.tmp rfl .nil) (fun w hw=>?_)
     refine ⟨_,rfl,(hw.c),?_⟩
     clear hw
     refine congrArg Value.bool ?_
     simp_all [open_arms]
   ·replace hc9:=dF hc9
    refine YG (XR (Zn (Y_pk [6,5,4,3] ?_)));refine ZK (Zm (l:=[0,1,2,3,4,5,6,7,8]) rfl ?_)
    iterate 2 refine ZD F.lay23 ?_
    refine X_fs rfl rfl F.ok141 rfl (Less_ok _ _ _) rfl ?_
    rintro _ rfl
    refine Zx ?_
    refine Yj 29 rfl (fun hc11=>?_) (fun hc11=>?_)
    ·replace hc11:=dT hc11
     iterate 3 refine Ya ?_
     refine ZO ?_;refine ZB ?_;refine Zo (Zn (Y_pk [6] ?_));refine Yo ?_
     refine Yk (.inr rfl) (.tmp rfl .nil) (fun w hw=>?_)
     refine ⟨_,rfl,(hw.c),?_⟩
     clear hw
     refine congrArg Value.bool ?_
     simp_all [open_arms]
    ·replace hc11:=dF hc11
     iterate 2 refine ZD F.lay23 ?_
     refine X_fs rfl rfl F.ok141 rfl (Less_ok _ _ _) rfl ?_
     rintro _ rfl
     refine ZO ?_;refine ZB ?_;refine Zo (Zn (Y_pk [6] ?_));refine Yo ?_
     refine Yk (.inr rfl) (.tmp rfl .nil) (fun w hw=>?_)
     refine ⟨_,rfl,(hw.c),?_⟩
     clear hw
     refine congrArg Value.bool ?_
     simp_all [open_arms]
theorem rOpen_ok (M:Mem) (a:Plc) (x:Plc) (b:Plc):Fs Tryz.prog 113 [aggV [Yt a],aggV [Yt x],aggV [Yt b]] M (fun v=>v=Value.bool (decide (Uo a x b))):=by
  refine Xv Tryz.func113 rfl Tryz.ntmps113 rfl ?_;intro H
  refine ZK (Zm (l:=[0,1,2,3]) rfl ?_)
  refine Xk ?_;intro b1
  refine Xk ?_;intro b2
  refine Xk ?_;intro b3
  refine ZB ?_;refine Zo (Zn (Y_pk [6,5,4,3] ?_))
  iterate 2 refine ZK ?_
  refine Zm (l:=[0,1,2]) rfl ?_
  iterate 2 refine ZD F.lay23 ?_
  refine WF (m:=20) rfl rfl rfl rfl rfl (by constructor) (by constructor) F.lay23 F.kinds23 rfl F.guard23 (WZ WE) (WZ WE) rfl rfl rfl ?_;intro c4 he5
  replace he5:c4=true↔Segs.cells _=Segs.cells _:=he5
  obtain rfl:=eqD he5 (Vj (x:=_) (y:=_));clear he5
  refine Zo (Zn (Y_pk [9,6,5,4,3] ?_))
  refine YA rfl (fun hc6=>?_) (fun hc6=>?_)
  ·replace hc6:=dT hc6
   refine ZK (Zm (l:=[0,1,2,3]) rfl ?_)
   iterate 2 refine ZD F.lay23 ?_
   refine WF (m:=20) rfl rfl rfl rfl rfl (by constructor) (by constructor) F.lay23 F.kinds23 rfl F.guard23 (WZ WE) (WZ WE) rfl rfl rfl ?_;intro c7 he8
   replace he8:c7=true↔¬(Segs.cells _=Segs.cells _):=he8
   obtain rfl:=neD he8 (Vj (x:=_) (y:=_));clear he8
   refine ZB ?_;refine Zo (Zn (Y_pk [6,5,4,3] ?_));refine Yo (YS ?_)
   refine Yk (.inr rfl) (.tmp rfl .nil) (fun w hw=>?_)
   refine ⟨_,rfl,(hw.c),?_⟩
   clear hw
   refine congrArg Value.bool ?_
   simp_all [Uo]
  ·replace hc6:=dF hc6
   refine YG (Zn (Y_pk [6,5,4,3] ?_));refine ZK (YK (l:=[0,1,2,3,4,5,6,7,8,9,10,11,12]) #[0,0,3,7,15,15,63,15,15,511,1023,2047,4095] _ rfl (by kernel_rfl) (by kernel_rfl) St.drawn (fun _ h=>h) ?_)
   iterate 2 refine ZD F.lay23 ?_
   refine WF (m:=20) rfl rfl rfl rfl rfl (by constructor) (by constructor) F.lay23 F.kinds23 rfl F.guard23 (WZ WE) (WZ WE) rfl rfl rfl ?_;intro c9 he10
   replace he10:c9=true↔¬(Segs.cells _=Segs.cells _):=he10
   obtain rfl:=neD he10 (Vj (x:=_) (y:=_));clear he10
   refine Zx ?_
   refine Yj 16 rfl (fun hc11=>?_) (fun hc11=>?_)
   ·replace hc11:=nT hc11
    iterate 2 refine ZD F.lay23 ?_
    refine X_fs rfl rfl F.ok135 rfl (rMinus_ok _ _ _) rfl ?_
    rintro _ rfl
    iterate 2 refine ZD F.lay23 ?_
    refine X_fs rfl rfl F.ok135 rfl (rMinus_ok _ _ _) rfl ?_
    rintro _ rfl
    refine X_fs rfl rfl F.ok134 rfl (rLess_ok _ _ _) rfl ?_
    rintro _ rfl
    refine ZO ?_;refine ZB ?_;refine Zo (Zn (Y_pk [6] ?_));refine Yo ?_
    refine Yk (.inr rfl) (.tmp rfl .nil) (fun w hw=>?_)
    refine ⟨_,rfl,(hw.c),?_⟩
    clear hw
    refine congrArg Value.bool ?_
    simp_all [Uo]
   ·replace hc11:=nF hc11
    iterate 7 refine Ya ?_
    refine ZO ?_;refine ZB ?_;refine Zo (Zn (Y_pk [6] ?_));refine Yo ?_
    refine Yk (.inr rfl) (.tmp rfl .nil) (fun w hw=>?_)
    refine ⟨_,rfl,(hw.c),?_⟩
    clear hw
    refine congrArg Value.bool ?_
    simp_all [Uo]
theorem Half_ok (M:Mem) (a:Plc) (x:Plc) (b:Plc):Fs Tryz.prog 62 [aggV [Yt a],aggV [Yt x],aggV [Yt b]] M (fun v=>v=Value.bool (decide (HalfP a x b))):=by
  refine Xv Tryz.func62 rfl Tryz.ntmps62 rfl ?_;intro H
  refine ZK (Zm (l:=[0,1,2,3]) rfl ?_)
  refine Xk ?_;intro b1
  refine Xk ?_;intro b2
  refine Xk ?_;intro b3
  refine ZB ?_;refine Zo (Zn (Y_pk [6,5,4,3] ?_));refine ZK (Zm (l:=[0,1,2,3,4,5,6,7,8,9]) rfl ?_)
  iterate 2 refine ZD F.lay23 ?_
  refine WF (m:=20) rfl rfl rfl rfl rfl (by constructor) (by constructor) F.lay23 F.kinds23 rfl F.guard23 (WZ WE) (WZ WE) rfl rfl rfl ?_;intro c4 he5
  replace he5:c4=true↔Segs.cells _=Segs.cells _:=he5
  obtain rfl:=eqD he5 (Vj (x:=_) (y:=_));clear he5
  refine Zx ?_
  refine Yj 10 rfl (fun hc6=>?_) (fun hc6=>?_)
  ·replace hc6:=dT hc6
   iterate 4 refine Ya ?_
   refine ZO ?_;refine ZB ?_;refine Zo (Zn (Y_pk [6] ?_));refine Yo ?_
   refine Yk (.inr rfl) (.tmp rfl .nil) (fun w hw=>?_)
   refine ⟨_,rfl,(hw.c),?_⟩
   clear hw
   refine congrArg Value.bool ?_
   simp_all [HalfP]
  ·replace hc6:=dF hc6
   iterate 3 refine ZD F.lay23 ?_
   refine X_fs rfl rfl F.ok114 rfl (Open_ok _ _ _ _) rfl ?_
   rintro _ rfl
   refine ZO ?_;refine ZB ?_;refine Zo (Zn (Y_pk [6] ?_));refine Yo ?_
   refine Yk (.inr rfl) (.tmp rfl .nil) (fun w hw=>?_)
   refine ⟨_,rfl,(hw.c),?_⟩
   clear hw
   refine congrArg Value.bool ?_
   simp_all [HalfP]
theorem rHalf_ok (M:Mem) (a:Plc) (x:Plc) (b:Plc):Fs Tryz.prog 131 [aggV [Yt a],aggV [Yt x],aggV [Yt b]] M (fun v=>v=Value.bool (decide (HalfP a x b))):=by
  refine Xv Tryz.func131 rfl Tryz.ntmps131 rfl ?_;intro H
  refine ZK (Zm (l:=[0,1,2,3]) rfl ?_)
  refine Xk ?_;intro b1
  refine Xk ?_;intro b2
  refine Xk ?_;intro b3
  refine ZB ?_;refine Zo (Zn (Y_pk [6,5,4,3] ?_));refine ZK (Zm (l:=[0,1,2,3,4,5,6,7,8,9]) rfl ?_)
  iterate 2 refine ZD F.lay23 ?_
  refine WF (m:=20) rfl rfl rfl rfl rfl (by constructor) (by constructor) F.lay23 F.kinds23 rfl F.guard23 (WZ WE) (WZ WE) rfl rfl rfl ?_;intro c4 he5
  replace he5:c4=true↔Segs.cells _=Segs.cells _:=he5
  obtain rfl:=eqD he5 (Vj (x:=_) (y:=_));clear he5
  refine Zx ?_
  refine Yj 10 rfl (fun hc6=>?_) (fun hc6=>?_)
  ·replace hc6:=dT hc6
   iterate 4 refine Ya ?_
   refine ZO ?_;refine ZB ?_;refine Zo (Zn (Y_pk [6] ?_));refine Yo ?_
   refine Yk (.inr rfl) (.tmp rfl .nil) (fun w hw=>?_)
   refine ⟨_,rfl,(hw.c),?_⟩
   clear hw
   refine congrArg Value.bool ?_
   simp_all [HalfP]
  ·replace hc6:=dF hc6
   iterate 3 refine ZD F.lay23 ?_
   refine X_fs rfl rfl F.ok113 rfl (rOpen_ok _ _ _ _) rfl ?_
   rintro _ rfl
   refine ZO ?_;refine ZB ?_;refine Zo (Zn (Y_pk [6] ?_));refine Yo ?_
   refine Yk (.inr rfl) (.tmp rfl .nil) (fun w hw=>?_)
   refine ⟨_,rfl,(hw.c),?_⟩
   clear hw
   refine congrArg Value.bool ?_
   simp_all [HalfP]
theorem VG (M:Mem):Fs Tryz.prog 66 [] M (fun v=>v= (Xf.enc)):=by
  refine Xv Tryz.func66 rfl Tryz.ntmps66 rfl ?_;intro H
  refine ZK (Zm (l:=[0]) rfl ?_)
  refine YW F.zero25 ?_;intro b1
  refine Zo (Zn (ZK (Zm (l:=[0,1]) rfl ?_)));refine Xr rfl rfl F.bld25 (.cons rfl (by constructor) .nil) rfl rfl ?_;refine Yh F.lay25 ?_;refine Zo (Zn (Y_pk [0] ?_));refine Yo ?_
  refine Yk (.inr rfl) (.cell rfl (by repeat first|exact List.Mem.head _|refine List.Mem.tail _ ?_|refine List.mem_append_right _ ?_) F.lay25 rfl rfl .nil) (fun w hw=>?_)
  refine ⟨_,rfl,(hw.c),?_⟩
  clear hw
  rfl
theorem rNone_ok (M:Mem):Fs Tryz.prog 67 [] M (fun v=>v= (Xf.enc)):=by
  refine Xv Tryz.func67 rfl Tryz.ntmps67 rfl ?_;intro H
  refine ZK (Zm (l:=[0]) rfl ?_)
  refine YW F.zero25 ?_;intro b1
  refine Zo (Zn (ZK (Zm (l:=[0,1]) rfl ?_)));refine Xr rfl rfl F.bld25 (.cons rfl (by constructor) .nil) rfl rfl ?_;refine Yh F.lay25 ?_;refine Zo (Zn (Y_pk [0] ?_));refine Yo ?_
  refine Yk (.inr rfl) (.cell rfl (by repeat first|exact List.Mem.head _|refine List.Mem.tail _ ?_|refine List.mem_append_right _ ?_) F.lay25 rfl rfl .nil) (fun w hw=>?_)
  refine ⟨_,rfl,(hw.c),?_⟩
  clear hw
  rfl
end Go.Proofs.YtajmnjefajknoaaGreat
namespace Go.Proofs.YtajmnjefajknoaaGreat
open Go.Esp
theorem F.elem26:slOf Tryz.prog 26=some (25,21,32):=by kernel_rfl
theorem F.foff25_0:foff Tryz.prog 25 0=some 0:=by kernel_rfl
theorem F.foff25_1:foff Tryz.prog 25 1=some 1:=by kernel_rfl
theorem F.foff28_0:foff Tryz.prog 28 0=some 0:=by kernel_rfl
theorem F.guard25:Tryz.prog.eqGuardType Tryz.prog.depth 25=false:=by kernel_rfl
theorem F.kinds25:VF Tryz.prog 20 25=some [.i .i64,.i .u8,.i .u8,.i .u8,.i .u8,.i .u8,.i .u8,.i .u8,.i .u8,.i .u8,.i .u8,.i .u8,.i .u8,.i .u8,.i .u8,.i .u8,.i .u8,.i .u8,.i .u8,.i .u8,.i .u8]:=by kernel_rfl
theorem F.lay28:lay Tryz.prog 28=some (true,44):=by kernel_rfl
theorem F.lay3:lay Tryz.prog 3=some (false,1):=by kernel_rfl
theorem F.ok115:okFn Tryz.prog 115=true:=by kernel_rfl
theorem F.ok123:okFn Tryz.prog 123=true:=by kernel_rfl
theorem F.ok143:okFn Tryz.prog 143=true:=by kernel_rfl
theorem F.ok55:okFn Tryz.prog 55=true:=by kernel_rfl
theorem F.ok67:okFn Tryz.prog 67=true:=by kernel_rfl
theorem F.ok78:okFn Tryz.prog 78=true:=by kernel_rfl
theorem is_ok (M:Mem) (a:Int):Fs Tryz.prog 115 [.int .i64 a] M (fun v=>v=Value.bool (decide (YX a))):=by
  refine Xv Tryz.func115 rfl Tryz.ntmps115 rfl ?_;intro H
  refine ZK (Zm (l:=[0]) rfl ?_);refine ZB ?_;refine Zo (Zn (ZK (Zm (l:=[0,1,2,3,4,5,6]) rfl ?_)));refine Zx ?_;refine YI ?_;refine Zx ?_
  refine Yj 5 rfl (fun hc1=>?_) (fun hc1=>?_)
  ·replace hc1:=dT hc1
   refine Zx ?_;refine YI ?_;refine ZO ?_;refine ZB ?_;refine Zo (Zn (Y_pk [2] ?_));refine Yo ?_
   refine Yk (.inr rfl) (.tmp rfl .nil) (fun w hw=>?_)
   refine ⟨_,rfl,(hw.c),?_⟩
   clear hw
   refine congrArg Value.bool (a₁:=_) ?_
   grind [w64,YX]
  ·replace hc1:=dF hc1
   iterate 2 refine Ya ?_
   refine ZO ?_;refine ZB ?_;refine Zo (Zn (Y_pk [2] ?_));refine Yo ?_
   refine Yk (.inr rfl) (.tmp rfl .nil) (fun w hw=>?_)
   refine ⟨_,rfl,(hw.c),?_⟩
   clear hw
   refine congrArg Value.bool (a₁:=_) ?_
   grind [w64,YX]
theorem other_ok (M:Mem) (t:ZQ) (p:ZF):Fs Tryz.prog 118 [t.enc,p.enc] M (fun v=>v=Value.bool (decide (Xn t.self p))):=by
  obtain ⟨⟨Yd,Yi⟩,⟨Ym,Yy⟩,⟨Yq,Yp,ZU⟩,⟨Yg,Yf,ZE⟩⟩:=t
  obtain ⟨Xa,p_id⟩:=p
  refine Xv Tryz.func118 rfl Tryz.ntmps118 rfl ?_;intro H
  refine ZK (Zm (l:=[0,1,2]) rfl ?_)
  refine Xk ?_;intro b1
  refine Xk ?_;intro b2
  refine ZB ?_;refine Zo (Zn (Y_pk [4,3,2] ?_));refine ZK (Zm (l:=[0,1,2,3,4,5,6,7,8,9,10,11,12,13,14,15,16,17,18,19]) rfl ?_);refine Zk F.foff25_0 ?_;refine ZD F.lay3 ?_;refine X_fs rfl rfl F.ok115 rfl (is_ok _ _) rfl ?_
  rintro _ rfl
  refine Zx ?_
  refine Yj 8 rfl (fun hc3=>?_) (fun hc3=>?_)
  ·replace hc3:=dT hc3
   refine Zk F.foff25_0 ?_;refine ZD F.lay3 ?_;refine Zk F.foff28_0 ?_;refine Zk F.foff25_0 ?_;refine ZD F.lay3 ?_;refine YI ?_;refine ZO ?_;refine Zx ?_
   refine Yj 16 rfl (fun hc4=>?_) (fun hc4=>?_)
   ·replace hc4:=nT hc4
    refine Zk F.foff25_1 ?_;refine ZD F.lay23 ?_;refine Zk F.foff28_0 ?_;refine Zk F.foff25_1 ?_;refine ZD F.lay23 ?_
    refine WF (m:=20) rfl rfl rfl rfl rfl (by constructor) (by constructor) F.lay23 F.kinds23 rfl F.guard23 (WZ WE) (WZ WE) rfl rfl rfl ?_;intro c5 he6
    replace he6:c5=true↔¬(Segs.cells _=Segs.cells _):=he6
    obtain rfl:=neD he6 (Vj (x:=_) (y:=_));clear he6
    refine ZO ?_;refine ZB ?_;refine Zo (Zn (Y_pk [4] ?_));refine Yo ?_
    refine Yk (.inr rfl) (.tmp rfl .nil) (fun w hw=>?_)
    refine ⟨_,rfl,(hw.c),?_⟩
    clear hw
    refine congrArg Value.bool (a₁:=_) ?_
    grind [w64,Xn]
   ·replace hc4:=nF hc4
    iterate 6 refine Ya ?_
    refine ZO ?_;refine ZB ?_;refine Zo (Zn (Y_pk [4] ?_));refine Yo ?_
    refine Yk (.inr rfl) (.tmp rfl .nil) (fun w hw=>?_)
    refine ⟨_,rfl,(hw.c),?_⟩
    clear hw
    refine congrArg Value.bool (a₁:=_) ?_
    grind [w64,Xn]
  ·replace hc3:=dF hc3
   iterate 6 refine Ya ?_
   refine ZO ?_;refine Zx ?_
   iterate 6 refine Ya ?_
   refine ZO ?_;refine ZB ?_;refine Zo (Zn (Y_pk [4] ?_));refine Yo ?_
   refine Yk (.inr rfl) (.tmp rfl .nil) (fun w hw=>?_)
   refine ⟨_,rfl,(hw.c),?_⟩
   clear hw
   refine congrArg Value.bool (a₁:=_) ?_
   grind [w64,Xn]
theorem VI (M:Mem) (t:ZQ) (p:ZF):Fs Tryz.prog 55 [t.enc,p.enc] M (fun v=>v=Value.bool (decide (Xn t.self p))):=by
  obtain ⟨⟨Yd,Yi⟩,⟨Ym,Yy⟩,⟨Yq,Yp,ZU⟩,⟨Yg,Yf,ZE⟩⟩:=t
  obtain ⟨Xa,p_id⟩:=p
  refine Xv Tryz.func55 rfl Tryz.ntmps55 rfl ?_;intro H
  refine ZK (Zm (l:=[0,1,2]) rfl ?_)
  refine Xk ?_;intro b1
  refine Xk ?_;intro b2
  refine ZB ?_;refine Zo (Zn (Y_pk [4,3,2] ?_));refine ZK (Zm (l:=[0,1,2,3,4,5,6,7,8,9,10,11,12,13,14,15,16,17,18,19,20,21,22,23,24]) rfl ?_);refine Zk F.foff25_0 ?_;refine ZD F.lay3 ?_;refine YI ?_;refine Zx ?_
  refine Yj 8 rfl (fun hc3=>?_) (fun hc3=>?_)
  ·replace hc3:=dT hc3
   refine Zk F.foff25_0 ?_;refine ZD F.lay3 ?_;refine YI ?_;refine ZO ?_;refine Zx ?_
   refine Yj 13 rfl (fun hc4=>?_) (fun hc4=>?_)
   ·replace hc4:=dT hc4
    refine Zk F.foff25_0 ?_;refine ZD F.lay3 ?_;refine Zk F.foff28_0 ?_;refine Zk F.foff25_0 ?_;refine ZD F.lay3 ?_;refine YI ?_;refine ZO ?_;refine Zx ?_
    refine Yj 21 rfl (fun hc5=>?_) (fun hc5=>?_)
    ·replace hc5:=nT hc5
     refine Zk F.foff25_1 ?_;refine ZD F.lay23 ?_;refine Zk F.foff28_0 ?_;refine Zk F.foff25_1 ?_;refine ZD F.lay23 ?_
     refine WF (m:=20) rfl rfl rfl rfl rfl (by constructor) (by constructor) F.lay23 F.kinds23 rfl F.guard23 (WZ WE) (WZ WE) rfl rfl rfl ?_;intro c6 he7
     replace he7:c6=true↔¬(Segs.cells _=Segs.cells _):=he7
     obtain rfl:=neD he7 (Vj (x:=_) (y:=_));clear he7
     refine ZO ?_;refine ZB ?_;refine Zo (Zn (Y_pk [4] ?_));refine Yo ?_
     refine Yk (.inr rfl) (.tmp rfl .nil) (fun w hw=>?_)
     refine ⟨_,rfl,(hw.c),?_⟩
     clear hw
     refine congrArg Value.bool (a₁:=_) ?_
     grind [w64,Xn,YX]
    ·replace hc5:=nF hc5
     iterate 6 refine Ya ?_
     refine ZO ?_;refine ZB ?_;refine Zo (Zn (Y_pk [4] ?_));refine Yo ?_
     refine Yk (.inr rfl) (.tmp rfl .nil) (fun w hw=>?_)
     refine ⟨_,rfl,(hw.c),?_⟩
     clear hw
     refine congrArg Value.bool (a₁:=_) ?_
     grind [w64,Xn,YX]
   ·replace hc4:=dF hc4
    iterate 6 refine Ya ?_
    refine ZO ?_;refine Zx ?_
    iterate 6 refine Ya ?_
    refine ZO ?_;refine ZB ?_;refine Zo (Zn (Y_pk [4] ?_));refine Yo ?_
    refine Yk (.inr rfl) (.tmp rfl .nil) (fun w hw=>?_)
    refine ⟨_,rfl,(hw.c),?_⟩
    clear hw
    refine congrArg Value.bool (a₁:=_) ?_
    grind [w64,Xn,YX]
  ·replace hc3:=dF hc3
   iterate 3 refine Ya ?_
   refine ZO ?_;refine Zx ?_
   iterate 6 refine Ya ?_
   refine ZO ?_;refine Zx ?_
   iterate 6 refine Ya ?_
   refine ZO ?_;refine ZB ?_;refine Zo (Zn (Y_pk [4] ?_));refine Yo ?_
   refine Yk (.inr rfl) (.tmp rfl .nil) (fun w hw=>?_)
   refine ⟨_,rfl,(hw.c),?_⟩
   clear hw
   refine congrArg Value.bool (a₁:=_) ?_
   grind [w64,Xn,YX]
theorem rMaybe_ok (M:Mem) (t:ZQ) (p:ZF):Fs Tryz.prog 121 [t.enc,p.enc] M (fun v=>v=Value.bool (decide (Up t.self p))):=by
  obtain ⟨⟨Yd,Yi⟩,⟨Ym,Yy⟩,⟨Yq,Yp,ZU⟩,⟨Yg,Yf,ZE⟩⟩:=t
  obtain ⟨Xa,p_id⟩:=p
  refine Xv Tryz.func121 rfl Tryz.ntmps121 rfl ?_;intro H
  refine ZK (Zm (l:=[0,1,2]) rfl ?_)
  refine Xk ?_;intro b1
  refine Xk ?_;intro b2
  refine ZB ?_;refine Zo (Zn (Y_pk [4,3,2] ?_));refine ZK (YK (l:=[0,1,2,3,4,5,6,7,8]) #[0,0,3,7,15,15,63,127,255] _ rfl (by kernel_rfl) (by kernel_rfl) St.drawn (fun _ h=>h) ?_);refine ZD F.lay25 ?_;refine X_fs rfl rfl F.ok67 rfl (rNone_ok _) rfl ?_
  rintro _ rfl
  refine VA 6 rfl (show _=aggV [.one (.int .i64 (-1)),Yt 0] from rfl) ?_
  refine WF (m:=20) rfl rfl rfl rfl rfl (by constructor) (by constructor) F.lay25 F.kinds25 rfl F.guard25 (by exact XL (⟨_,_⟩)) (by exact XL (⟨_,_⟩)) rfl rfl rfl ?_;intro c3 he4
  replace he4:c3=true↔Segs.cells _=Segs.cells _:=he4
  obtain rfl:=eqD he4 (ZF.inj (x:=⟨_,_⟩) (y:=⟨_,_⟩));clear he4
  refine Zx ?_
  refine Yj 8 rfl (fun hc5=>?_) (fun hc5=>?_)
  ·replace hc5:=dT hc5
   iterate 3 refine Ya ?_
   refine ZO ?_;refine ZB ?_;refine Zo (Zn (Y_pk [4] ?_));refine Yo ?_
   refine Yk (.inr rfl) (.tmp rfl .nil) (fun w hw=>?_)
   refine ⟨_,rfl,(hw.c),?_⟩
   clear hw
   refine congrArg Value.bool (a₁:=_) ?_
   grind [w64,Up,Xf]
  ·replace hc5:=dF hc5
   refine ZD F.lay28 ?_;refine ZD F.lay25 ?_;refine X_fs rfl rfl F.ok55 rfl (VI _ ⟨⟨_,_⟩,⟨_,_⟩,⟨_,_,_⟩,⟨_,_,_⟩⟩ ⟨_,_⟩) rfl ?_
   rintro _ rfl
   refine ZO ?_;refine ZB ?_;refine Zo (Zn (Y_pk [4] ?_));refine Yo ?_
   refine Yk (.inr rfl) (.tmp rfl .nil) (fun w hw=>?_)
   refine ⟨_,rfl,(hw.c),?_⟩
   clear hw
   refine congrArg Value.bool (a₁:=_) ?_
   grind [w64,Up,Xf]
theorem IndexFP_rd (M:Mem) (Hin:Hp) (l:Sl ZF) (g:FuncId) (caps:List Value) (p:ZF→Bool) (hl:RdS M Hin l.a (l.l.map ZF.segs) 21) (bl:l.l.length≤9223372036854775807) (hok:okFn Tryz.prog g=true) (hc:∀ x∈l.l,Fo Tryz.prog g ([x.enc]++caps) M Hin (fun M' v=>M'=M∧v=.bool (p x))):Fo Tryz.prog 123 [l.val,.func (.func g) #[] caps.toArray] M Hin (fun M' v=>M'=M∧v=.int .i64 (idxF p l.l)):=by
  have nl:(l.l.map ZF.segs).length=l.l.length:=List.length_map ..
  refine VE Tryz.func123 rfl Tryz.ntmps123 rfl ?_;intro H
  have hrd:=hl.app H
  refine ZK (Zm (l:=[0]) rfl ?_);refine ZB ?_;refine Zo (Zn ?_)
  iterate 2 refine ZK ?_
  refine Zm (l:=[0,1,2]) rfl ?_;refine Zx ?_;refine YY F.elem26 ?_;refine Zx ?_;refine Zo (Zn (Y_pk [8,7,4,0,1] ?_));refine Xc (Y_pk [8,7,4,0,1] ?_);refine WV (.succ .zero) (fun (k:Nat) z=>z=[(8,.int .i64 (k:Int))]∧k≤l.l.length∧(∀ j (h:j<k) (h2:j<l.l.length),p l.l[j]=false)) (fun k=>l.l.length-k) (0) (⟨rfl,by omega,by (intro j hj;omega)⟩) ?_
  rintro k _ ⟨rfl,hk,hI⟩
  refine ZK (Zm (l:=[0]) rfl ?_);refine YI ?_;refine Zo (Zn (ZK ?_))
  refine YA rfl (fun hc1=>?_) (fun hc1=>?_)
  ·skip
   replace hc1:=dT hc1
   refine YG (Zn (ZK (Xc (ZK (Zm (l:=[0,1]) rfl ?_)))));refine Zx ?_;refine ZB ?_;refine Zo (Zn (ZK (Zm (l:=[0,1,2,3,4,5]) rfl ?_)))
   iterate 3 refine Zx ?_
   refine YR rfl rfl rfl rfl F.elem26 (by rfl) (by omega) (by exact RdS.plain (by assumption) (by (simp;omega))) rfl ?_;refine X_load_rd rfl rfl rfl (by assumption) (by exact XP (by omega)) F.lay25 rfl rfl rfl ?_;refine X_foV rfl rfl rfl hok rfl rfl (hc _ (List.getElem_mem (n:=k) (by omega))) (Rem.here _) (YV rfl) ?_
   rintro _ M1 _ ⟨hM1,rfl⟩;subst M1
   refine Zo (Zn ?_)
   refine YA rfl (fun hc2=>?_) (fun hc2=>?_)
   ·skip
    have hP:=hc2
    refine ZK (Zm (l:=[0,1]) rfl ?_);refine Zx ?_;refine ZB ?_;refine Zo (Zn (Yo (Xh ?_)))
    iterate 2 refine YS ?_
    refine Xh (YS ?_)
    refine Yk (.inr rfl) (.tmp rfl .nil) (fun w hw=>?_)
    refine ⟨_,M,rfl,Mem.le.refl M,hw.c,rfl,?_⟩
    refine congrArg (Value.int .i64) ?_
    exact (idxF_at (by omega) (fun j hj=>hI j hj _) hP).symm
   ·skip
    have hP:=hc2
    refine YG (XR (Zn (Zm (l:=[0,1]) rfl ?_)));refine XE rfl rfl rfl rfl rfl (by exact Xe (by decide) (by omega)) rfl ?_;refine Zx ?_;refine Zo ?_;refine WO (a':=[(8,_)]) (k+1) (.cons (k:=8) rfl (.cons (k:=7) rfl (.cons (k:=4) rfl (.cons (k:=0) rfl (.cons (k:=1) rfl (.nil)))))) (fun w hw=>by first|exact hw|exact hw.c) ?_ ?_
    ·refine ⟨rfl,by omega,?_⟩
     (intro j hj hj2;rcases Nat.lt_or_ge j k with h9|h9;exact hI j h9 hj2;obtain rfl:j=k:=(by omega);simp_all)
    ·omega
  ·skip
   replace hc1:=dF hc1
   refine XK ?_
   iterate 2 refine XH ?_
   refine Wh (Zn (Y_pk [4] ?_));refine ZK (Zm (l:=[0]) rfl ?_);refine ZB ?_;refine Zo (Zn (Yo ?_))
   refine Yk (.inr rfl) (.tmp rfl .nil) (fun w hw=>?_)
   refine ⟨_,M,rfl,Mem.le.refl M,hw.c,rfl,?_⟩
   refine congrArg (Value.int .i64) ?_
   exact (idxF_none (fun j hj=>hI j (by omega) hj)).symm
theorem ContainsFP_rd (M:Mem) (Hin:Hp) (l:Sl ZF) (g:FuncId) (caps:List Value) (p:ZF→Bool) (hl:RdS M Hin l.a (l.l.map ZF.segs) 21) (bl:l.l.length≤9223372036854775807) (hok:okFn Tryz.prog g=true) (hc:∀ x∈l.l,Fo Tryz.prog g ([x.enc]++caps) M Hin (fun M' v=>M'=M∧v=.bool (p x))):Fo Tryz.prog 78 [l.val,.func (.func g) #[] caps.toArray] M Hin (fun M' v=>M'=M∧v=.bool (l.l.any p)):=by
  refine VE Tryz.func78 rfl Tryz.ntmps78 rfl ?_;intro H
  refine ZK (Zm (l:=[0]) rfl ?_);refine ZB ?_;refine Zo (Zn (ZK (Zm (l:=[0,1,2,3,4]) rfl ?_)))
  iterate 2 refine Zx ?_
  refine X_fo rfl rfl F.ok123 rfl (IndexFP_rd _ Hin ⟨_,_,_⟩ g caps p hl bl hok hc) (by repeat first|exact Rem.here _|exact Rem.two|apply Rem.skip|apply Rem.over) (YV rfl) ?_
  rintro _ M1 _ ⟨hM1,rfl⟩;subst M1
  refine YI ?_;refine ZB ?_;refine Zo (Zn (Y_pk [4] ?_));refine Yo ?_
  refine Yk (.inr rfl) (.tmp rfl .nil) (fun w hw=>?_)
  exact ⟨_,M,rfl,Mem.le.refl M,hw.c,rfl,congrArg Value.bool idxF_nn⟩
theorem has1_ok (M:Mem) (b:Nat) (a:Int) (p:ZF):Fo Tryz.prog 143 ([p.enc]++[.pointer (some ⟨b,0,none⟩)]) M [(b,rowO [.one (.int .i64 a)] 3)] (fun M' v=>M'=M∧v=.bool (decide (p.addr=a))):=by
  obtain ⟨Xa,p_id⟩:=p
  refine VE Tryz.func143 rfl Tryz.ntmps143 rfl ?_;intro H
  refine ZK (Zm (l:=[0,1]) rfl ?_)
  refine Xk ?_;intro b1
  refine ZB ?_;refine Zo (Zn (Y_pk [3,2,1] ?_));refine ZK (Zm (l:=[0,1,2,3,4]) rfl ?_);refine Zk F.foff25_0 ?_
  iterate 2 refine ZD F.lay3 ?_
  refine YI ?_;refine ZB ?_;refine Zo (Zn (Y_pk [3] ?_));refine Yo ?_
  refine Yk (.inr rfl) (.tmp rfl .nil) (fun w hw=>?_)
  refine ⟨_,M,rfl,Mem.le.refl M,hw.c,rfl,?_⟩
  clear hw
  rfl
theorem has_rd (M:Mem) (Hin:Hp) (l:Sl ZF) (a:Int) (hl:RdS M Hin l.a (l.l.map ZF.segs) 21) (bl:l.l.length≤9223372036854775807):Fo Tryz.prog 119 [l.val,.int .i64 a] M Hin (fun M' v=>M'=M∧v=.bool (decide (hasA l.l a))):=by
  refine VE Tryz.func119 rfl Tryz.ntmps119 rfl ?_;intro H
  refine ZK (Zm (l:=[0,1]) rfl ?_)
  refine Xk ?_;intro b1
  refine ZB ?_;refine Zo (Zn (Y_pk [4,3,0] ?_));refine ZK (Zm (l:=[0,1,2,3]) rfl ?_);refine Zx ?_;refine X_makeFunc rfl rfl rfl rfl rfl ?_;refine X_fo rfl rfl F.ok78 rfl (ContainsFP_rd _ ((b1,_)::Hin) l 143 [_] (fun p=>decide (p.addr=a)) (hl.cnt (by intro zz;first|exact Nat.le_refl _|(simp only [cnt_app,cnt_cons,cnt_nil,cat,List.append_eq,List.append_assoc,List.cons_append,List.nil_append,List.append_nil];omega)|(simp only [cnt_app,cnt_cons,cnt_nil,cat,List.append_eq,List.append_assoc,List.cons_append,List.nil_append,List.append_nil,ZF.segs,ZQ.segs,ZR.segs,ZP.segs,Yr.segs,ZW.segs,YQ.segs,Yc.segs];omega))) bl F.ok143 (fun x hx=>(has1_ok M b1 a x).frame Hin)) (by repeat first|exact Rem.here _|exact Rem.two|apply Rem.skip|apply Rem.over) (YV rfl) ?_
  rintro _ M1 _ ⟨hM1,rfl⟩;subst M1
  refine ZB ?_;refine Zo (Zn (Y_pk [4] ?_));refine Yo ?_
  refine Yk (.inr rfl) (.tmp rfl .nil) (fun w hw=>?_)
  refine ⟨_,M,rfl,Mem.le.refl M,hw.c,rfl,?_⟩
  clear hw
  exact congrArg Value.bool any_has
theorem has_ok (M:Mem) (l:Sl ZF) (a:Int) (hl:SlK M ZF.segs 21 l):Fs Tryz.prog 119 [l.val,.int .i64 a] M (fun v=>v=.bool (decide (hasA l.l a))) :=
  fs_of_fo (has_rd M [] l a (hl.h1.rd []) hl.h2)
theorem rhas_rd (M:Mem) (Hin:Hp) (l:Sl ZF) (a:Int) (hl:RdS M Hin l.a (l.l.map ZF.segs) 21) (bl:l.l.length≤9223372036854775807):Fo Tryz.prog 122 [l.val,.int .i64 a] M Hin (fun M' v=>M'=M∧v=.bool (decide (hasA l.l a))):=by
  obtain ⟨l_a,l_c,l_l⟩:=l
  simp only at hl bl
  have n_l:(l_l.map ZF.segs).length=l_l.length:=List.length_map ..
  refine VE Tryz.func122 rfl Tryz.ntmps122 rfl ?_;intro H
  have hrd:=hl.app H
  refine ZK (Zm (l:=[0]) rfl ?_);refine ZB ?_;refine Zo (Zn ?_)
  iterate 2 refine ZK ?_
  refine Zm (l:=[0]) rfl ?_;refine ZB ?_;refine Zo (Zn (Xc (Y_pk [5,4,0,1] ?_)));refine WV (.succ .zero) (fun (k:Nat) z=>z=[(5,.int .i64 (k:Int))]∧k≤l_l.length∧(∀ j (h:j<k) (h2:j<l_l.length),¬l_l[j].addr=a)) (fun k=>l_l.length-k) (0) (⟨rfl,by omega,by (intro j hj;omega)⟩) ?_
  rintro k _ ⟨rfl,hk,hI⟩
  iterate 2 refine ZK ?_
  refine Zm (l:=[0,1,2,3]) rfl ?_
  iterate 2 refine Zx ?_
  refine YY F.elem26 ?_;refine YI ?_;refine Zo (Zn ?_)
  refine YA rfl (fun hc1=>?_) (fun hc1=>?_)
  ·replace hc1:=dT hc1
   refine YG (Zn (ZK (Xc (ZK (Zm (l:=[0,1,2,3,4,5,6]) rfl ?_)))))
   iterate 2 refine Zx ?_
   refine YR rfl rfl rfl rfl F.elem26 (by rfl) (by omega) (by exact RdS.plain (by assumption) (by (simp;omega))) rfl ?_;refine XC rfl rfl rfl (by exact RdS.plain (by assumption) (by (simp;omega))) F.foff25_0 rfl ?_;refine X_load_rd rfl rfl rfl (by assumption) (by exact XP (by omega)) F.lay3 rfl rfl rfl ?_;refine Zx ?_;refine YI ?_;refine Zo (Zn ?_)
   refine YA rfl (fun hc2=>?_) (fun hc2=>?_)
   ·replace hc2:=dT hc2
    simp only [List.get_eq_getElem] at hc2
    refine ZK (Zm (l:=[0]) rfl ?_);refine ZB ?_;refine Zo (Zn (Yo (Xh ?_)))
    iterate 2 refine YS ?_
    refine Xh (YS ?_)
    refine Yk (.inr rfl) (.tmp rfl .nil) (fun w hw=>?_)
    refine ⟨_,M,rfl,Mem.le.refl M,hw.c,rfl,?_⟩
    clear hw
    refine congrArg Value.bool ?_
    exact (decide_eq_true (hasA_at (l:=l_l) (k:=k) (by omega) (by assumption))).symm
   ·replace hc2:=dF hc2
    simp only [List.get_eq_getElem] at hc2
    refine YG (XR (Zn (Zm (l:=[0,1,2]) rfl ?_)));refine Zx ?_;refine XE rfl rfl rfl rfl rfl (by exact Xe (by decide) (by omega)) rfl ?_;refine ZB ?_;refine Zo ?_;refine WO (a':=[(5,_)]) (k+1) (.cons (k:=5) rfl (.cons (k:=4) rfl (.cons (k:=0) rfl (.cons (k:=1) rfl (.nil))))) (fun w hw=>by first|exact hw|exact hw.c) ?_ ?_
    ·refine ⟨rfl,by omega,?_⟩
     (intro j hj hj2;rcases Nat.lt_or_ge j k with h9|h9;exact hI j h9 hj2;obtain rfl:j=k:=(by omega);assumption)
    ·omega
  ·replace hc1:=dF hc1
   refine XK ?_
   iterate 2 refine XH ?_
   refine Wh (Zn (Y_pk [4] ?_));refine ZK (Zm (l:=[0]) rfl ?_);refine ZB ?_;refine Zo (Zn (Yo ?_))
   refine Yk (.inr rfl) (.tmp rfl .nil) (fun w hw=>?_)
   refine ⟨_,M,rfl,Mem.le.refl M,hw.c,rfl,?_⟩
   clear hw
   refine congrArg Value.bool ?_
   exact (decide_eq_false (hasA_none (l:=l_l) (fun j hj=>hI j (by omega) hj))).symm
theorem rhas_ok (M:Mem) (l:Sl ZF) (a:Int) (hl:SlK M ZF.segs 21 l):Fs Tryz.prog 122 [l.val,.int .i64 a] M (fun v=>v=.bool (decide (hasA l.l a))) :=
  fs_of_fo (rhas_rd M [] l a (hl.h1.rd []) hl.h2)
end Go.Proofs.YtajmnjefajknoaaGreat
namespace Go.Esp
theorem rowsCells_len {sz:Nat} {rows:List Segs} (h:lens sz rows):(YH rows).length=rows.length * sz:=XI h
theorem lens.take {sz:Nat} {rows:List Segs} (h:lens sz rows) (k:Nat):lens sz (rows.take k):=fun r hr=>h r (List.mem_of_mem_take hr)
theorem lens.drop {sz:Nat} {rows:List Segs} (h:lens sz rows) (k:Nat):lens sz (rows.drop k):=fun r hr=>h r (List.mem_of_mem_drop hr)
theorem rowsCells_take {sz:Nat} {rows:List Segs} (h:lens sz rows) {k:Nat} (hk:k≤rows.length):YH (rows.take k)=(YH rows).take (k * sz):=by
  have e:YH rows=YH (rows.take k)++YH (rows.drop k):=by rw [← Wk,List.take_append_drop]
  have hl:(YH (rows.take k)).length=k * sz:=by rw [XI (h.take k)];simp [hk]
  rw [e,← hl,List.take_left]
theorem rowsCells_drop {sz:Nat} {rows:List Segs} (h:lens sz rows) {k:Nat} (hk:k≤rows.length):YH (rows.drop k)=(YH rows).drop (k * sz):=by
  have e:YH rows=YH (rows.take k)++YH (rows.drop k):=by rw [← Wk,List.take_append_drop]
  have hl:(YH (rows.take k)).length=k * sz:=by rw [XI (h.take k)];simp [hk]
  rw [e,← hl,List.drop_left]
theorem SlM.take {M:Mem} {a:Option Addr} {rows:List Segs} {sz:Nat} (h:SlM M a rows sz) {k:Nat} (hk:k≤rows.length):SlM M a (rows.take k) sz:=by
  refine ⟨h.lens.take k,fun hn=>?_⟩
  obtain ⟨b,off,c,T,fz,h1,h2,h3⟩:=h.there (fun e=>hn (by rw [e];simp))
  refine ⟨b,off,c,T,fz,h1,h2,?_⟩
  rw [rowsCells_take h.lens hk,← h3,List.take_take,List.length_take,Nat.min_eq_left hk]
  congr 1
  have:=Nat.mul_le_mul_right sz hk
  omega
def shiftA (a:Option Addr) (c k sz:Nat):Option Addr:=if c=k then a else a.map (·.add (k * sz))
theorem SlM.drop {M:Mem} {a:Option Addr} {rows:List Segs} {sz c:Nat} (h:SlM M a rows sz) {k:Nat} (hk:k≤rows.length) (hc:rows.length≤c):SlM M (shiftA a c k sz) (rows.drop k) sz:=by
  refine ⟨h.lens.drop k,fun hn=>?_⟩
  obtain ⟨b,off,x,T,fz,h1,h2,h3⟩:=h.there (fun e=>hn (by rw [e];simp))
  have hlt:k<rows.length:=by
    rcases Nat.lt_or_ge k rows.length with h'|h'
    · exact h'
    · exact (hn (List.drop_eq_nil_of_le h')).elim
  refine ⟨b,off+k * sz,x,T,fz,?_,h2,?_⟩
  · unfold shiftA
    rw [if_neg (by omega),h1];simp [Addr.add_lit]
  · rw [rowsCells_drop h.lens hk,← h3,List.drop_take,List.drop_drop,List.length_drop,Nat.sub_mul]
theorem Vv {r:Segs} (h:flat r):∀ u∈YH [r],u.oneCell'=true:=fun u hu=>by
  simp only [YH,List.append_nil] at hu
  exact h u hu
theorem Addr.add_zero' (a:Addr):a.add 0=a:=by unfold Addr.add;simp
theorem pieceV_take {α:Type} {a:Option Addr} {sz c k:Nat} {l:List α} (hk:k≤l.length):VC a sz 0 k c=Sl.val ⟨a,c,l.take k⟩:=by
  unfold VC
  simp only [Nat.zero_mul,Nat.sub_zero,Sl.val,List.length_take,Nat.min_eq_left hk]
  congr 1
  split
  · rfl
  · cases a with
    | none=>rfl
    | some x=>simp [Addr.add_zero']
theorem pieceV_drop {α:Type} {a:Option Addr} {sz c k:Nat} {l:List α}:VC a sz k l.length c=Sl.val ⟨shiftA a c k sz,c-k,l.drop k⟩:=by
  unfold VC shiftA
  simp only [Sl.val,List.length_drop]
theorem SlK.take {α:Type} {M:Mem} {f:α→Segs} {sz:Nat} {a:Option Addr} {c:Nat} {l:List α} (h:SlK M f sz ⟨a,c,l⟩) (k:Nat) (hk:k≤l.length):SlK M f sz ⟨a,c,l.take k⟩:=by
  have h2:=h.h2;have h3:=h.h3
  simp only at h2 h3
  refine ⟨?_,?_,?_⟩
  · simp only [List.map_take];exact h.h1.take (by simpa using hk)
  · simp only [List.length_take];omega
  · simp only [List.length_take];omega
theorem SlK.drop {α:Type} {M:Mem} {f:α→Segs} {sz:Nat} {a:Option Addr} {c:Nat} {l:List α} (h:SlK M f sz ⟨a,c,l⟩) (k:Nat) (hk:k≤l.length):SlK M f sz ⟨shiftA a c k sz,c-k,l.drop k⟩:=by
  have h2:=h.h2;have h3:=h.h3
  simp only at h2 h3
  refine ⟨?_,?_,?_⟩
  · simp only [List.map_drop];exact h.h1.drop (by simpa using hk) (by simpa using h3)
  · simp only [List.length_drop];omega
  · simp only [List.length_drop];omega
theorem OSl.caps {T sz l c:Nat} {a:Option Addr} {hs:Hp} {rows:List Segs} (h:OSl T sz (.slice a l c) hs rows):rows.length≤c∧c≤maxLen∧l=rows.length:=by
  generalize hv:Value.slice a l c=v at h
  cases h with
  | nil=>cases hv;exact ⟨Nat.le_refl _,Nat.zero_le _,rfl⟩
  | own b c' _ cur g1 g2 g3 g4 g5=>cases hv;exact ⟨g2,g3,rfl⟩
theorem OSl.noneAll {α:Type} {T sz c:Nat} {f:α→Segs} {l:List α} {hs:Hp} (h:OSl T sz (.slice none l.length c) hs (l.map f)):l=[]∧c=0∧hs=[]:=by
  generalize hv:Value.slice none l.length c=v at h
  generalize hr:l.map f=r at h
  cases h with
  | nil=>simp only [Value.slice.injEq] at hv;exact ⟨List.map_eq_nil_iff.1 hr,hv.2.2,rfl⟩
  | own=>simp at hv
theorem OSl.someAll {T sz l c:Nat} {ad:Addr} {hs:Hp} {rows:List Segs} (h:OSl T sz (.slice (some ad) l c) hs rows):∃ b,ad=⟨b,0,none⟩:=by
  generalize hv:Value.slice (some ad) l c=v at h
  cases h with
  | nil=>simp at hv
  | own b=>simp only [Value.slice.injEq,Option.some.injEq] at hv;exact ⟨b,hv.1⟩
theorem OSl.freezeK {α:Type} {T sz:Nat} {v:Value} {hs:Hp} {f:α→Segs} {l:List α} {M:Mem} {H:Hp} (ho:OSl T sz v hs (l.map f)) {w:World} (hw:St M (hs++H) w):∃ (M':Mem) (s:Sl α),M.le M'∧St M' H w∧v=s.val∧s.l=l∧SlK M' f sz s:=by
  obtain ⟨M',a,c,h1,h2,h3,h4⟩:=ho.freeze hw
  rw [h3] at ho
  obtain ⟨g1,g2,_⟩:=ho.caps
  simp only [List.length_map] at g1
  exact ⟨M',⟨a,c,l⟩,h1,h2,by rw [h3];simp [Sl.val],rfl,h4,by simp only;omega,g1⟩
end Go.Esp
namespace Go.Proofs.YtajmnjefajknoaaGreat
open Go.Esp
theorem F.fld25_1:fld Tryz.prog 25 1=some (1,23):=by kernel_rfl
theorem F.foff28_2:foff Tryz.prog 28 2=some 42:=by kernel_rfl
theorem F.lay26:lay Tryz.prog 26=some (false,1):=by kernel_rfl
theorem F.ok118:okFn Tryz.prog 118=true:=by kernel_rfl
theorem F.ok41:okFn Tryz.prog 41=true:=by kernel_rfl
theorem F.ok68:okFn Tryz.prog 68=true:=by kernel_rfl
theorem First_nil (M:Mem) (t:ZQ) (ht0:ZQ.ok M t) (h:t.succ.l=[]):Fs Tryz.prog 41 [t.enc] M (fun v=>v= ((Wi t.tb).enc)):=by
  obtain ⟨⟨Yd,Yi⟩,⟨Ym,Yy⟩,⟨Yq,Yp,ZU⟩,⟨Yg,Yf,ZE⟩⟩:=t
  have YT:SlK M ZF.segs 21 ⟨Yq,Yp,ZU⟩:=ht0.h0
  have WA:SlM M Yq (ZU.map ZF.segs) 21:=YT.h1
  have WI:(ZU.map ZF.segs).length=ZU.length:=List.length_map ..
  have WJ:ZU.length≤9223372036854775807:=YT.h2
  have WK:ZU.length≤Yp:=YT.h3
  have Yu:SlK M ZF.segs 21 ⟨Yg,Yf,ZE⟩:=ht0.h1
  have XQ:SlM M Yg (ZE.map ZF.segs) 21:=Yu.h1
  have Wc:(ZE.map ZF.segs).length=ZE.length:=List.length_map ..
  have XZ:ZE.length≤9223372036854775807:=Yu.h2
  have Wd:ZE.length≤Yf:=Yu.h3
  simp only at h
  subst h
  refine Xv Tryz.func41 rfl Tryz.ntmps41 rfl ?_;intro H
  refine ZK (Zm (l:=[0,1]) rfl ?_)
  refine Xk ?_;intro b1
  refine YW F.zero25 ?_;intro b2
  refine Zo (Zn (Y_pk [2,1] ?_))
  iterate 2 refine ZK ?_
  refine Zm (l:=[0,1,2,3]) rfl ?_;refine Zk F.foff28_2 ?_;refine ZD F.lay26 ?_;refine YY F.elem26 ?_;refine Zx ?_;refine Zo (Zn (Y_pk [8,7,6,2,1] ?_));refine Xc (Y_pk [8,7,6,2,1] ?_);refine WV (.zero) (fun (k:Nat) z=>z=[]∧k=0) (fun k=>1) (0) (⟨rfl,rfl⟩) ?_
  rintro k _ ⟨rfl,rfl⟩
  refine ZK (Zm (l:=[0]) rfl ?_);refine YI ?_;refine Zo (Zn (ZK ?_))
  refine YA rfl (fun hc3=>?_) (fun hc3=>?_)
  ·replace hc3:=dT hc3
   (exfalso;simp [eqX] at hc3;done)
  ·replace hc3:=dF hc3
   refine XK ?_
   iterate 2 refine XH ?_
   refine Wh (Zn (Y_pk [2,1] ?_));refine ZK (Zm (l:=[0,1,2]) rfl ?_);refine Zk F.foff28_0 ?_;refine ZD F.lay25 ?_;refine Yh F.lay25 ?_;refine Zo (Zn (Y_pk [2] ?_));refine Yo ?_
   refine Yk (.inr rfl) (.cell rfl (by repeat first|exact List.Mem.head _|refine List.Mem.tail _ ?_|refine List.mem_append_right _ ?_) F.lay25 rfl rfl .nil) (fun w hw=>?_)
   refine ⟨_,rfl,(hw.c),?_⟩
   clear hw
   rfl
theorem First_cons (M:Mem) (t:ZQ) (ht0:ZQ.ok M t) (p:ZF) (r:List ZF) (h:t.succ.l=p::r):Fs Tryz.prog 41 [t.enc] M (fun v=>v= ((Wi t.tb).enc)):=by
  obtain ⟨⟨Yd,Yi⟩,⟨Ym,Yy⟩,⟨Yq,Yp,ZU⟩,⟨Yg,Yf,ZE⟩⟩:=t
  have YT:SlK M ZF.segs 21 ⟨Yq,Yp,ZU⟩:=ht0.h0
  have WA:SlM M Yq (ZU.map ZF.segs) 21:=YT.h1
  have WI:(ZU.map ZF.segs).length=ZU.length:=List.length_map ..
  have WJ:ZU.length≤9223372036854775807:=YT.h2
  have WK:ZU.length≤Yp:=YT.h3
  have Yu:SlK M ZF.segs 21 ⟨Yg,Yf,ZE⟩:=ht0.h1
  have XQ:SlM M Yg (ZE.map ZF.segs) 21:=Yu.h1
  have Wc:(ZE.map ZF.segs).length=ZE.length:=List.length_map ..
  have XZ:ZE.length≤9223372036854775807:=Yu.h2
  have Wd:ZE.length≤Yf:=Yu.h3
  obtain ⟨p0,i0⟩:=p
  simp only at h
  subst h
  refine Xv Tryz.func41 rfl Tryz.ntmps41 rfl ?_;intro H
  refine ZK (Zm (l:=[0,1]) rfl ?_)
  refine Xk ?_;intro b1
  refine YW F.zero25 ?_;intro b2
  refine Zo (Zn (Y_pk [2,1] ?_))
  iterate 2 refine ZK ?_
  refine Zm (l:=[0,1,2,3]) rfl ?_;refine Zk F.foff28_2 ?_;refine ZD F.lay26 ?_;refine YY F.elem26 ?_;refine Zx ?_;refine Zo (Zn (Y_pk [8,7,6,2,1] ?_));refine Xc (Y_pk [8,7,6,2,1] ?_);refine WV (.zero) (fun (k:Nat) z=>z=[]∧k=0) (fun k=>1) (0) (⟨rfl,rfl⟩) ?_
  rintro k _ ⟨rfl,rfl⟩
  refine ZK (Zm (l:=[0]) rfl ?_);refine YI ?_;refine Zo (Zn (ZK ?_))
  refine YA rfl (fun hc3=>?_) (fun hc3=>?_)
  ·replace hc3:=dT hc3
   refine YG (Zn (ZK (Xc (ZK (Zm (l:=[0,1,2,3]) rfl ?_)))));refine YR rfl rfl rfl rfl F.elem26 (by rfl) (by (simp;done)) (by exact SlM.plain (by assumption) (by (simp;done))) rfl ?_;refine Xm rfl rfl rfl (by assumption) (by exact rfl) F.lay25 rfl rfl rfl ?_
   refine YW F.zero25 ?_;intro b4
   refine Yh F.lay25 ?_;refine Zo (Zn (ZK (Zm (l:=[0,1]) rfl ?_)));refine ZD F.lay25 ?_;refine Yh F.lay25 ?_;refine Zo (Zn (Yo (Xh ?_)))
   iterate 2 refine YS ?_
   refine Xh (YS ?_)
   refine Yk (.inr rfl) (.cell rfl (by repeat first|exact List.Mem.head _|refine List.Mem.tail _ ?_|refine List.mem_append_right _ ?_) F.lay25 rfl rfl .nil) (fun w hw=>?_)
   refine ⟨_,rfl,(hw.c),?_⟩
   clear hw
   rfl
  ·replace hc3:=dF hc3
   (exfalso;simp [eqX] at hc3;done)
theorem First_ok (M:Mem) (t:ZQ) (ht0:ZQ.ok M t):Fs Tryz.prog 41 [t.enc] M (fun v=>v=(Wi t.tb).enc):=by
  rcases hs:t.succ.l with _|⟨p,r⟩
  ·exact First_nil M t ht0 hs
  ·exact First_cons M t ht0 p r hs
theorem rFirst_nil (M:Mem) (t:ZQ) (ht0:ZQ.ok M t) (h:t.succ.l=[]):Fs Tryz.prog 68 [t.enc] M (fun v=>v= ((Wi t.tb).enc)):=by
  obtain ⟨⟨Yd,Yi⟩,⟨Ym,Yy⟩,⟨Yq,Yp,ZU⟩,⟨Yg,Yf,ZE⟩⟩:=t
  have YT:SlK M ZF.segs 21 ⟨Yq,Yp,ZU⟩:=ht0.h0
  have WA:SlM M Yq (ZU.map ZF.segs) 21:=YT.h1
  have WI:(ZU.map ZF.segs).length=ZU.length:=List.length_map ..
  have WJ:ZU.length≤9223372036854775807:=YT.h2
  have WK:ZU.length≤Yp:=YT.h3
  have Yu:SlK M ZF.segs 21 ⟨Yg,Yf,ZE⟩:=ht0.h1
  have XQ:SlM M Yg (ZE.map ZF.segs) 21:=Yu.h1
  have Wc:(ZE.map ZF.segs).length=ZE.length:=List.length_map ..
  have XZ:ZE.length≤9223372036854775807:=Yu.h2
  have Wd:ZE.length≤Yf:=Yu.h3
  simp only at h
  subst h
  refine Xv Tryz.func68 rfl Tryz.ntmps68 rfl ?_;intro H
  refine ZK (Zm (l:=[0,1]) rfl ?_)
  refine Xk ?_;intro b1
  refine YW F.zero25 ?_;intro b2
  refine Zo (Zn (Y_pk [2,1] ?_))
  iterate 2 refine ZK ?_
  refine Zm (l:=[0,1,2,3]) rfl ?_;refine Zk F.foff28_2 ?_;refine ZD F.lay26 ?_;refine YY F.elem26 ?_;refine YI ?_;refine Zo (Zn (Y_pk [6,2,1] ?_))
  refine YA rfl (fun hc3=>?_) (fun hc3=>?_)
  ·replace hc3:=dT hc3
   refine ZK (Zm (l:=[0,1,2]) rfl ?_);refine Zk F.foff28_0 ?_;refine ZD F.lay25 ?_;refine Yh F.lay25 ?_;refine Zo (Zn (Y_pk [2,1] ?_));refine Yo (YS ?_)
   refine Yk (.inr rfl) (.cell rfl (by repeat first|exact List.Mem.head _|refine List.Mem.tail _ ?_|refine List.mem_append_right _ ?_) F.lay25 rfl rfl .nil) (fun w hw=>?_)
   refine ⟨_,rfl,(hw.c),?_⟩
   clear hw
   rfl
  ·replace hc3:=dF hc3
   (exfalso;simp [eqX] at hc3;done)
theorem rFirst_cons (M:Mem) (t:ZQ) (ht0:ZQ.ok M t) (p:ZF) (r:List ZF) (h:t.succ.l=p::r):Fs Tryz.prog 68 [t.enc] M (fun v=>v= ((Wi t.tb).enc)):=by
  obtain ⟨⟨Yd,Yi⟩,⟨Ym,Yy⟩,⟨Yq,Yp,ZU⟩,⟨Yg,Yf,ZE⟩⟩:=t
  have YT:SlK M ZF.segs 21 ⟨Yq,Yp,ZU⟩:=ht0.h0
  have WA:SlM M Yq (ZU.map ZF.segs) 21:=YT.h1
  have WI:(ZU.map ZF.segs).length=ZU.length:=List.length_map ..
  have WJ:ZU.length≤9223372036854775807:=YT.h2
  have WK:ZU.length≤Yp:=YT.h3
  have Yu:SlK M ZF.segs 21 ⟨Yg,Yf,ZE⟩:=ht0.h1
  have XQ:SlM M Yg (ZE.map ZF.segs) 21:=Yu.h1
  have Wc:(ZE.map ZF.segs).length=ZE.length:=List.length_map ..
  have XZ:ZE.length≤9223372036854775807:=Yu.h2
  have Wd:ZE.length≤Yf:=Yu.h3
  obtain ⟨p0,i0⟩:=p
  simp only at h
  subst h
  refine Xv Tryz.func68 rfl Tryz.ntmps68 rfl ?_;intro H
  refine ZK (Zm (l:=[0,1]) rfl ?_)
  refine Xk ?_;intro b1
  refine YW F.zero25 ?_;intro b2
  refine Zo (Zn (Y_pk [2,1] ?_))
  iterate 2 refine ZK ?_
  refine Zm (l:=[0,1,2,3]) rfl ?_;refine Zk F.foff28_2 ?_;refine ZD F.lay26 ?_;refine YY F.elem26 ?_;refine YI ?_;refine Zo (Zn (Y_pk [6,2,1] ?_))
  refine YA rfl (fun hc3=>?_) (fun hc3=>?_)
  ·replace hc3:=dT hc3
   refine ZK (Zm (l:=[0,1,2]) rfl ?_);refine Zk F.foff28_0 ?_;refine ZD F.lay25 ?_;refine Yh F.lay25 ?_;refine Zo (Zn (Y_pk [2,1] ?_));refine Yo (YS ?_)
   refine Yk (.inr rfl) (.cell rfl (by repeat first|exact List.Mem.head _|refine List.Mem.tail _ ?_|refine List.mem_append_right _ ?_) F.lay25 rfl rfl .nil) (fun w hw=>?_)
   refine ⟨_,rfl,(hw.c),?_⟩
   clear hw
   (exfalso;simp only [List.length_cons] at *;omega)
  ·replace hc3:=dF hc3
   refine YG (Zn (Y_pk [2,1] ?_));refine ZK (Zm (l:=[0,1,2,3,4]) rfl ?_);refine Zk F.foff28_2 ?_;refine ZD F.lay26 ?_;refine YR rfl rfl rfl rfl F.elem26 (by rfl) (by (simp;done)) (by exact SlM.plain (by assumption) (by (simp;done))) rfl ?_;refine Xm rfl rfl rfl (by assumption) (by exact rfl) F.lay25 rfl rfl rfl ?_;refine Yh F.lay25 ?_;refine Zo (Zn (Y_pk [2] ?_));refine Yo ?_
   refine Yk (.inr rfl) (.cell rfl (by repeat first|exact List.Mem.head _|refine List.Mem.tail _ ?_|refine List.mem_append_right _ ?_) F.lay25 rfl rfl .nil) (fun w hw=>?_)
   refine ⟨_,rfl,(hw.c),?_⟩
   clear hw
   rfl
theorem rFirst_ok (M:Mem) (t:ZQ) (ht0:ZQ.ok M t):Fs Tryz.prog 68 [t.enc] M (fun v=>v=(Wi t.tb).enc):=by
  rcases hs:t.succ.l with _|⟨p,r⟩
  ·exact rFirst_nil M t ht0 hs
  ·exact rFirst_cons M t ht0 p r hs
theorem Closer_ok (M:Mem) (t:ZQ) (p:ZF) (ht0:ZQ.ok M t):Fs Tryz.prog 104 [t.enc,p.enc] M (fun v=>v=Value.bool (decide (VP t.tb p))):=by
  obtain ⟨⟨Yd,Yi⟩,⟨Ym,Yy⟩,⟨Yq,Yp,ZU⟩,⟨Yg,Yf,ZE⟩⟩:=t
  obtain ⟨Xa,p_id⟩:=p
  have YT:SlK M ZF.segs 21 ⟨Yq,Yp,ZU⟩:=ht0.h0
  have WA:SlM M Yq (ZU.map ZF.segs) 21:=YT.h1
  have WI:(ZU.map ZF.segs).length=ZU.length:=List.length_map ..
  have WJ:ZU.length≤9223372036854775807:=YT.h2
  have WK:ZU.length≤Yp:=YT.h3
  have Yu:SlK M ZF.segs 21 ⟨Yg,Yf,ZE⟩:=ht0.h1
  have XQ:SlM M Yg (ZE.map ZF.segs) 21:=Yu.h1
  have Wc:(ZE.map ZF.segs).length=ZE.length:=List.length_map ..
  have XZ:ZE.length≤9223372036854775807:=Yu.h2
  have Wd:ZE.length≤Yf:=Yu.h3
  refine Xv Tryz.func104 rfl Tryz.ntmps104 rfl ?_;intro H
  refine ZK (Zm (l:=[0,1,2]) rfl ?_)
  refine Xk ?_;intro b1
  refine Xk ?_;intro b2
  refine ZB ?_;refine Zo (Zn (Y_pk [4,3,2] ?_));refine ZK (YK (l:=[0,1,2,3,4,5,6,7,8,9,10,11,12,13,14]) #[0,0,3,7,15,31,63,15,143,15,527,1551,4095,8191,16383] _ rfl (by kernel_rfl) (by kernel_rfl) St.drawn (fun _ h=>h) ?_);refine ZD F.lay28 ?_;refine ZD F.lay25 ?_;refine X_fs rfl rfl F.ok118 rfl (other_ok _ ⟨⟨_,_⟩,⟨_,_⟩,⟨_,_,_⟩,⟨_,_,_⟩⟩ ⟨_,_⟩) rfl ?_
  rintro _ rfl
  refine Zx ?_
  refine Yj 8 rfl (fun hc3=>?_) (fun hc3=>?_)
  ·replace hc3:=dT hc3
   simp only [ZF.eta,ZQ.eta,ZR.eta,ZP.eta,Yr.eta,ZW.eta,YQ.eta,Yc.eta] at hc3
   refine Zk F.foff28_0 ?_;refine Zk F.foff25_1 ?_;refine ZD F.lay23 ?_;refine Zk F.foff25_1 ?_;refine ZD F.lay23 ?_;refine ZD F.lay28 ?_;refine X_fs rfl rfl F.ok41 rfl (First_ok _ ⟨⟨_,_⟩,⟨_,_⟩,⟨_,_,_⟩,⟨_,_,_⟩⟩ (by assumption)) rfl ?_
   rintro _ rfl
   refine Y_field F.fld25_1 F.lay23 ?_;refine X_fs rfl rfl F.ok114 rfl (Open_ok _ _ _ _) rfl ?_
   rintro _ rfl
   refine ZO ?_;refine ZB ?_;refine Zo (Zn (Y_pk [4] ?_));refine Yo ?_
   refine Yk (.inr rfl) (.tmp rfl .nil) (fun w hw=>?_)
   refine ⟨_,rfl,(hw.c),?_⟩
   clear hw
   refine congrArg Value.bool ?_
   (simp_all [VP,ZQ.tb];rfl)
  ·replace hc3:=dF hc3
   simp only [ZF.eta,ZQ.eta,ZR.eta,ZP.eta,Yr.eta,ZW.eta,YQ.eta,Yc.eta] at hc3
   iterate 9 refine Ya ?_
   refine ZO ?_;refine ZB ?_;refine Zo (Zn (Y_pk [4] ?_));refine Yo ?_
   refine Yk (.inr rfl) (.tmp rfl .nil) (fun w hw=>?_)
   refine ⟨_,rfl,(hw.c),?_⟩
   clear hw
   refine congrArg Value.bool ?_
   (simp_all [VP,ZQ.tb];done)
theorem rCloser_ok (M:Mem) (t:ZQ) (p:ZF) (ht0:ZQ.ok M t):Fs Tryz.prog 112 [t.enc,p.enc] M (fun v=>v=Value.bool (decide (VP t.tb p))):=by
  obtain ⟨⟨Yd,Yi⟩,⟨Ym,Yy⟩,⟨Yq,Yp,ZU⟩,⟨Yg,Yf,ZE⟩⟩:=t
  obtain ⟨Xa,p_id⟩:=p
  have YT:SlK M ZF.segs 21 ⟨Yq,Yp,ZU⟩:=ht0.h0
  have WA:SlM M Yq (ZU.map ZF.segs) 21:=YT.h1
  have WI:(ZU.map ZF.segs).length=ZU.length:=List.length_map ..
  have WJ:ZU.length≤9223372036854775807:=YT.h2
  have WK:ZU.length≤Yp:=YT.h3
  have Yu:SlK M ZF.segs 21 ⟨Yg,Yf,ZE⟩:=ht0.h1
  have XQ:SlM M Yg (ZE.map ZF.segs) 21:=Yu.h1
  have Wc:(ZE.map ZF.segs).length=ZE.length:=List.length_map ..
  have XZ:ZE.length≤9223372036854775807:=Yu.h2
  have Wd:ZE.length≤Yf:=Yu.h3
  refine Xv Tryz.func112 rfl Tryz.ntmps112 rfl ?_;intro H
  refine ZK (Zm (l:=[0,1,2]) rfl ?_)
  refine Xk ?_;intro b1
  refine Xk ?_;intro b2
  refine ZB ?_;refine Zo (Zn (Y_pk [4,3,2] ?_));refine ZK (YK (l:=[0,1,2,3,4,5,6,7,8,9,10,11,12,13,14]) #[0,0,3,7,15,31,63,15,143,15,527,1551,4095,8191,16383] _ rfl (by kernel_rfl) (by kernel_rfl) St.drawn (fun _ h=>h) ?_);refine ZD F.lay28 ?_;refine ZD F.lay25 ?_;refine X_fs rfl rfl F.ok55 rfl (VI _ ⟨⟨_,_⟩,⟨_,_⟩,⟨_,_,_⟩,⟨_,_,_⟩⟩ ⟨_,_⟩) rfl ?_
  rintro _ rfl
  refine Zx ?_
  refine Yj 8 rfl (fun hc3=>?_) (fun hc3=>?_)
  ·replace hc3:=dT hc3
   simp only [ZF.eta,ZQ.eta,ZR.eta,ZP.eta,Yr.eta,ZW.eta,YQ.eta,Yc.eta] at hc3
   refine Zk F.foff28_0 ?_;refine Zk F.foff25_1 ?_;refine ZD F.lay23 ?_;refine Zk F.foff25_1 ?_;refine ZD F.lay23 ?_;refine ZD F.lay28 ?_;refine X_fs rfl rfl F.ok68 rfl (rFirst_ok _ ⟨⟨_,_⟩,⟨_,_⟩,⟨_,_,_⟩,⟨_,_,_⟩⟩ (by assumption)) rfl ?_
   rintro _ rfl
   refine Y_field F.fld25_1 F.lay23 ?_;refine X_fs rfl rfl F.ok113 rfl (rOpen_ok _ _ _ _) rfl ?_
   rintro _ rfl
   refine ZO ?_;refine ZB ?_;refine Zo (Zn (Y_pk [4] ?_));refine Yo ?_
   refine Yk (.inr rfl) (.tmp rfl .nil) (fun w hw=>?_)
   refine ⟨_,rfl,(hw.c),?_⟩
   clear hw
   refine congrArg Value.bool ?_
   (simp_all [VP,ZQ.tb];rfl)
  ·replace hc3:=dF hc3
   simp only [ZF.eta,ZQ.eta,ZR.eta,ZP.eta,Yr.eta,ZW.eta,YQ.eta,Yc.eta] at hc3
   iterate 9 refine Ya ?_
   refine ZO ?_;refine ZB ?_;refine Zo (Zn (Y_pk [4] ?_));refine Yo ?_
   refine Yk (.inr rfl) (.tmp rfl .nil) (fun w hw=>?_)
   refine ⟨_,rfl,(hw.c),?_⟩
   clear hw
   refine congrArg Value.bool ?_
   (simp_all [VP,ZQ.tb];done)
end Go.Proofs.YtajmnjefajknoaaGreat
namespace Go.Proofs.YtajmnjefajknoaaGreat
open Go.Esp
theorem F.foff28_1:foff Tryz.prog 28 1=some 21:=by kernel_rfl
theorem F.foff28_3:foff Tryz.prog 28 3=some 43:=by kernel_rfl
theorem F.ok117:okFn Tryz.prog 117=true:=by kernel_rfl
theorem F.ok119:okFn Tryz.prog 119=true:=by kernel_rfl
theorem F.ok121:okFn Tryz.prog 121=true:=by kernel_rfl
theorem F.ok122:okFn Tryz.prog 122=true:=by kernel_rfl
theorem F.ok66:okFn Tryz.prog 66=true:=by kernel_rfl
theorem odd_ok (M:Mem) (b:Nat) (t:ZQ) (ht:ZQ.ok M t) (p:ZF):Fo Tryz.prog 117 ([p.enc]++[.pointer (some ⟨b,0,none⟩)]) M [(b,rowO t.segs 28)] (fun M' v=>M'=M∧v=.bool (decide (¬Up t.self p))):=by
  obtain ⟨Xa,p_id⟩:=p
  obtain ⟨⟨Yd,Yi⟩,⟨Ym,Yy⟩,⟨Yq,Yp,ZU⟩,⟨Yg,Yf,ZE⟩⟩:=t
  refine VE Tryz.func117 rfl Tryz.ntmps117 rfl ?_;intro H
  refine ZK (Zm (l:=[0,1]) rfl ?_)
  refine Xk ?_;intro b1
  refine ZB ?_;refine Zo (Zn (Y_pk [3,2,1] ?_));refine ZK (YK (l:=[0,1,2,3,4,5,6,7,8,9]) #[0,0,3,7,15,15,63,127,255,511] _ rfl (by kernel_rfl) (by kernel_rfl) St.drawn (fun _ h=>h) ?_);refine ZD F.lay25 ?_;refine X_fs rfl rfl F.ok66 rfl (VG _) rfl ?_
  rintro _ rfl
  refine VA 5 rfl (show _=aggV [.one (.int .i64 (-1)),Yt 0] from rfl) ?_
  refine WF (m:=20) rfl rfl rfl rfl rfl (by constructor) (by constructor) F.lay25 F.kinds25 rfl F.guard25 (by exact XL (⟨_,_⟩)) (by exact XL (⟨_,_⟩)) rfl rfl rfl ?_;intro c2 he3
  replace he3:c2=true↔¬(Segs.cells _=Segs.cells _):=he3
  obtain rfl:=neD he3 (ZF.inj (x:=⟨_,_⟩) (y:=⟨_,_⟩));clear he3
  refine Zx ?_
  refine Yj 7 rfl (fun hc4=>?_) (fun hc4=>?_)
  ·replace hc4:=nT hc4
   refine ZD F.lay28 ?_;refine ZD F.lay25 ?_;refine X_fs rfl rfl F.ok118 rfl (other_ok _ ⟨⟨_,_⟩,⟨_,_⟩,⟨_,_,_⟩,⟨_,_,_⟩⟩ ⟨_,_⟩) rfl ?_
   rintro _ rfl
   refine Xj ?_;refine ZO ?_;refine ZB ?_;refine Zo (Zn (Y_pk [3] ?_));refine Yo ?_
   refine Yk (.inr rfl) (.tmp rfl .nil) (fun w hw=>?_)
   refine ⟨_,M,rfl,Mem.le.refl M,hw.c,rfl,?_⟩
   clear hw
   (refine congrArg Value.bool ?_;simp_all [Up,Xf];done)
  ·replace hc4:=nF hc4
   iterate 4 refine Ya ?_
   refine ZO ?_;refine ZB ?_;refine Zo (Zn (Y_pk [3] ?_));refine Yo ?_
   refine Yk (.inr rfl) (.tmp rfl .nil) (fun w hw=>?_)
   refine ⟨_,M,rfl,Mem.le.refl M,hw.c,rfl,?_⟩
   clear hw
   (refine congrArg Value.bool ?_;simp_all [Up,Xf];done)
theorem IsT_ok (M:Mem) (t:ZQ) (ht0:ZQ.ok M t):Fs Tryz.prog 70 [t.enc] M (fun v=>v=Value.bool (decide (IsTb t.tb))):=by
  obtain ⟨⟨Yd,Yi⟩,⟨Ym,Yy⟩,⟨Yq,Yp,ZU⟩,⟨Yg,Yf,ZE⟩⟩:=t
  have YT:SlK M ZF.segs 21 ⟨Yq,Yp,ZU⟩:=ht0.h0
  have WA:SlM M Yq (ZU.map ZF.segs) 21:=YT.h1
  have WI:(ZU.map ZF.segs).length=ZU.length:=List.length_map ..
  have WJ:ZU.length≤9223372036854775807:=YT.h2
  have WK:ZU.length≤Yp:=YT.h3
  have Yu:SlK M ZF.segs 21 ⟨Yg,Yf,ZE⟩:=ht0.h1
  have XQ:SlM M Yg (ZE.map ZF.segs) 21:=Yu.h1
  have Wc:(ZE.map ZF.segs).length=ZE.length:=List.length_map ..
  have XZ:ZE.length≤9223372036854775807:=Yu.h2
  have Wd:ZE.length≤Yf:=Yu.h3
  refine Xv Tryz.func70 rfl Tryz.ntmps70 rfl ?_;intro H
  refine ZK (Zm (l:=[0,1]) rfl ?_)
  refine Xk ?_;intro b1
  refine ZB ?_;refine Zo (Zn (Y_pk [2,1] ?_));refine ZK (Zm (l:=[0,1]) rfl ?_);refine X_makeFunc rfl rfl rfl rfl rfl ?_;refine ZB ?_;refine Zo (Zn (Y_pk [3,2,1] ?_))
  iterate 2 refine ZK ?_
  refine Zm (l:=[0,1,2,3,4,5,6,7,8,9,10,11,12,13,14,15,16,17,18,19,20,21,22,23,24,25,26,27,28]) rfl ?_;refine Zk F.foff28_0 ?_;refine Zk F.foff25_0 ?_;refine ZD F.lay3 ?_;refine X_fs rfl rfl F.ok115 rfl (is_ok _ _) rfl ?_
  rintro _ rfl
  refine Xj ?_;refine Zx ?_
  refine Yj 12 rfl (fun hc2=>?_) (fun hc2=>?_)
  ·replace hc2:=nT hc2
   iterate 4 refine Ya ?_
   refine ZO ?_;refine Zx ?_
   iterate 4 refine Ya ?_
   refine ZO ?_;refine Zx ?_
   iterate 4 refine Ya ?_
   refine ZO ?_;refine Zx ?_
   iterate 4 refine Ya ?_
   refine ZO ?_;refine Zo (Zn (Y_pk [35,2,1] ?_));refine Xi rfl ?_;refine ZK (Zm (l:=[0]) rfl ?_);refine ZB ?_;refine Zo (Zn (Y_pk [2,1] ?_));refine Yo (YS ?_)
   refine Yk (.inr rfl) (.tmp rfl .nil) (fun w hw=>?_)
   refine ⟨_,rfl,(hw.c),?_⟩
   clear hw
   refine congrArg Value.bool ?_
   (simp_all [IsTb,ZQ.tb];done)
  ·replace hc2:=nF hc2
   refine Zx ?_;refine Zk F.foff28_1 ?_;refine ZD F.lay25 ?_;refine X_foV rfl rfl rfl F.ok117 rfl rfl (odd_ok M _ ⟨⟨Yd,Yi⟩,⟨Ym,Yy⟩,⟨Yq,Yp,ZU⟩,⟨Yg,Yf,ZE⟩⟩ ht0 ⟨Ym,Yy⟩) (by repeat first|exact Rem.here _|exact Rem.two|apply Rem.skip|apply Rem.over) (YV rfl) ?_
   rintro _ M1 _ ⟨hM1,rfl⟩;subst M1
   refine ZO ?_;refine Zx ?_
   refine Yj 18 rfl (fun hc3=>?_) (fun hc3=>?_)
   ·replace hc3:=dT hc3
    simp only [ZF.eta,ZQ.eta,ZR.eta,ZP.eta,Yr.eta,ZW.eta,YQ.eta,Yc.eta] at hc3
    iterate 4 refine Ya ?_
    refine ZO ?_;refine Zx ?_
    iterate 4 refine Ya ?_
    refine ZO ?_;refine Zx ?_
    iterate 4 refine Ya ?_
    refine ZO ?_;refine Zo (Zn (Y_pk [35,2,1] ?_));refine Xi rfl ?_;refine ZK (Zm (l:=[0]) rfl ?_);refine ZB ?_;refine Zo (Zn (Y_pk [2,1] ?_));refine Yo (YS ?_)
    refine Yk (.inr rfl) (.tmp rfl .nil) (fun w hw=>?_)
    refine ⟨_,rfl,(hw.c),?_⟩
    clear hw
    refine congrArg Value.bool ?_
    (simp_all [IsTb,ZQ.tb];done)
   ·replace hc3:=dF hc3
    simp only [ZF.eta,ZQ.eta,ZR.eta,ZP.eta,Yr.eta,ZW.eta,YQ.eta,Yc.eta] at hc3
    refine Zk F.foff28_2 ?_;refine ZD F.lay26 ?_;refine YY F.elem26 ?_;refine YI ?_;refine ZO ?_;refine Zx ?_
    refine Yj 24 rfl (fun hc4=>?_) (fun hc4=>?_)
    ·replace hc4:=dT hc4
     iterate 4 refine Ya ?_
     refine ZO ?_;refine Zx ?_
     iterate 4 refine Ya ?_
     refine ZO ?_;refine Zo (Zn (Y_pk [35,2,1] ?_));refine Xi rfl ?_;refine ZK (Zm (l:=[0]) rfl ?_);refine ZB ?_;refine Zo (Zn (Y_pk [2,1] ?_));refine Yo (YS ?_)
     refine Yk (.inr rfl) (.tmp rfl .nil) (fun w hw=>?_)
     refine ⟨_,rfl,(hw.c),?_⟩
     clear hw
     refine congrArg Value.bool ?_
     (simp_all [IsTb,ZQ.tb];omega)
    ·replace hc4:=dF hc4
     refine Zk F.foff28_3 ?_;refine ZD F.lay26 ?_;refine YY F.elem26 ?_;refine YI ?_;refine ZO ?_;refine Zx ?_
     refine Yj 30 rfl (fun hc5=>?_) (fun hc5=>?_)
     ·replace hc5:=nT hc5
      iterate 4 refine Ya ?_
      refine ZO ?_;refine Zo (Zn (Y_pk [35,2,1] ?_));refine Xi rfl ?_;refine ZK (Zm (l:=[0]) rfl ?_);refine ZB ?_;refine Zo (Zn (Y_pk [2,1] ?_));refine Yo (YS ?_)
      refine Yk (.inr rfl) (.tmp rfl .nil) (fun w hw=>?_)
      refine ⟨_,rfl,(hw.c),?_⟩
      clear hw
      refine congrArg Value.bool ?_
      (simp_all [IsTb,ZQ.tb];omega)
     ·replace hc5:=nF hc5
      refine Zk F.foff28_3 ?_;refine ZD F.lay26 ?_;refine Zx ?_;refine X_fo rfl rfl F.ok78 rfl (ContainsFP_rd _ [(b1,_)] ⟨_,_,_⟩ 117 [_] (fun p=>decide (¬Up ⟨Yd,Yi⟩ p)) (XQ.rd _) XZ F.ok117 (fun x hx=>odd_ok M _ ⟨⟨Yd,Yi⟩,⟨Ym,Yy⟩,⟨Yq,Yp,ZU⟩,⟨Yg,Yf,ZE⟩⟩ ht0 x)) (by repeat first|exact Rem.here _|exact Rem.two|apply Rem.skip|apply Rem.over) (YV rfl) ?_
      rintro _ M1 _ ⟨hM1,rfl⟩;subst M1
      refine ZO ?_;refine Zo (Zn (Y_pk [35,2,1] ?_))
      refine YA rfl (fun hc6=>?_) (fun hc6=>?_)
      ·skip
       simp only [ZF.eta,ZQ.eta,ZR.eta,ZP.eta,Yr.eta,ZW.eta,YQ.eta,Yc.eta] at hc6
       refine ZK (Zm (l:=[0]) rfl ?_);refine ZB ?_;refine Zo (Zn (Y_pk [2,1] ?_));refine Yo (YS ?_)
       refine Yk (.inr rfl) (.tmp rfl .nil) (fun w hw=>?_)
       refine ⟨_,rfl,(hw.c),?_⟩
       clear hw
       refine congrArg Value.bool ?_
       (simp_all [IsTb,ZQ.tb];done)
      ·skip
       simp only [ZF.eta,ZQ.eta,ZR.eta,ZP.eta,Yr.eta,ZW.eta,YQ.eta,Yc.eta] at hc6
       refine YG (Zn (Y_pk [2,1] ?_))
       iterate 2 refine ZK ?_
       refine Zm (l:=[0,1,2,3]) rfl ?_;refine Zk F.foff28_2 ?_;refine ZD F.lay26 ?_;refine YY F.elem26 ?_;refine Zx ?_;refine Zo (Zn (Y_pk [39,38,37,2,1] ?_));refine Xc (Y_pk [39,38,37,2,1] ?_);refine WV (.succ .zero) (fun (k:Nat) z=>z=[(39,.int .i64 (k:Int))]∧k≤ZU.length∧(UB ⟨Yd,Yi⟩ (ZU.take k))) (fun k=>ZU.length-k) (0) (⟨rfl,by omega,by (refine ⟨fun p hp=>?_,?_⟩;simp at hp;simp)⟩) ?_
       rintro k _ ⟨rfl,hk,hI⟩
       have k_tk:=YT.take k hk
       have hlk:(ZU.take k).length=k:=by rw [List.length_take];omega
       refine ZK (Zm (l:=[0]) rfl ?_);refine YI ?_;refine Zo (Zn (ZK ?_))
       refine YA rfl (fun hc7=>?_) (fun hc7=>?_)
       ·replace hc7:=dT hc7
        refine YG (Zn (ZK (Xc (ZK (Zm (l:=[0,1,2,3,4,5]) rfl ?_)))));refine Zx ?_;refine YR rfl rfl rfl rfl F.elem26 (by rfl) (by omega) (by exact SlM.plain (by assumption) (by (simp;omega))) rfl ?_;refine Xm rfl rfl rfl (by assumption) (by exact XP (by omega)) F.lay25 rfl rfl rfl ?_
        refine YW F.zero25 ?_;intro b8
        refine ZB ?_;refine Yh F.lay25 ?_;refine Zo (Zn (ZK (YK (l:=[0,1,2,3,4,5,6,7,8,9,10,11,12]) #[0,0,3,7,15,31,63,31,255,31,543,2047,4095] _ rfl (by kernel_rfl) (by kernel_rfl) St.drawn (fun _ h=>h) ?_)));refine ZD F.lay28 ?_;refine ZD F.lay25 ?_;refine X_fs rfl rfl F.ok118 rfl (other_ok _ ⟨⟨_,_⟩,⟨_,_⟩,⟨_,_,_⟩,⟨_,_,_⟩⟩ ⟨_,_⟩) rfl ?_
        rintro _ rfl
        refine Xj ?_;refine Zx ?_
        refine Yj 48 rfl (fun hc9=>?_) (fun hc9=>?_)
        ·replace hc9:=nT hc9
         simp only [ZF.eta,ZQ.eta,ZR.eta,ZP.eta,Yr.eta,ZW.eta,YQ.eta,Yc.eta] at hc9
         simp only [List.get_eq_getElem] at hc9
         iterate 7 refine Ya ?_
         refine ZO ?_;refine Zo (Zn (Xi rfl ?_));refine ZK (Zm (l:=[0]) rfl ?_);refine ZB ?_;refine Zo (Zn (Yo (Xh ?_)))
         iterate 2 refine YS ?_
         refine Xh (YS ?_)
         refine Yk (.inr rfl) (.tmp rfl .nil) (fun w hw=>?_)
         refine ⟨_,rfl,(hw.c),?_⟩
         clear hw
         refine congrArg Value.bool ?_
         (have hd:=succOk_take (s:=⟨Yd,Yi⟩) (l:=ZU) (k:=k) (by omega);have hp:=succOk_pre (s:=⟨Yd,Yi⟩) (l:=ZU);grind [IsTb,ZQ.tb])
        ·replace hc9:=nF hc9
         simp only [ZF.eta,ZQ.eta,ZR.eta,ZP.eta,Yr.eta,ZW.eta,YQ.eta,Yc.eta] at hc9
         simp only [List.get_eq_getElem] at hc9
         refine Zk F.foff28_2 ?_;refine ZD F.lay26 ?_;refine Zx ?_;refine WY rfl rfl rfl .none (.some (k:=k) rfl rfl) .none F.elem26 (by simp only [Option.getD_none];omega) (by simp only [Option.getD_some,Option.getD_none];omega) (by simp only [Option.getD_some,Option.getD_none];omega) (by simp) (pieceV_take (l:=ZU) (k:=k) (by omega)) rfl ?_;refine Zk F.foff25_0 ?_;refine ZD F.lay3 ?_;refine X_fs rfl rfl F.ok119 rfl (has_ok _ ⟨_,_,_⟩ _ (by assumption)) rfl ?_
         rintro _ rfl
         refine ZO ?_;refine Zo (Zn ?_)
         refine YA rfl (fun hc10=>?_) (fun hc10=>?_)
         ·replace hc10:=dT hc10
          simp only [ZF.eta,ZQ.eta,ZR.eta,ZP.eta,Yr.eta,ZW.eta,YQ.eta,Yc.eta] at hc10
          simp only [List.get_eq_getElem] at hc10
          refine ZK (Zm (l:=[0]) rfl ?_);refine ZB ?_;refine Zo (Zn (Yo (Xh ?_)))
          iterate 2 refine YS ?_
          refine Xh (YS ?_)
          refine Yk (.inr rfl) (.tmp rfl .nil) (fun w hw=>?_)
          refine ⟨_,rfl,(hw.c),?_⟩
          clear hw
          refine congrArg Value.bool ?_
          (have hd:=succOk_take (s:=⟨Yd,Yi⟩) (l:=ZU) (k:=k) (by omega);have hp:=succOk_pre (s:=⟨Yd,Yi⟩) (l:=ZU);grind [IsTb,ZQ.tb])
         ·replace hc10:=dF hc10
          simp only [ZF.eta,ZQ.eta,ZR.eta,ZP.eta,Yr.eta,ZW.eta,YQ.eta,Yc.eta] at hc10
          simp only [List.get_eq_getElem] at hc10
          refine YG (XR (Zn (Zm (l:=[0,1]) rfl ?_)));refine XE rfl rfl rfl rfl rfl (by exact Xe (by decide) (by omega)) rfl ?_;refine Zx ?_;refine Zo ?_;refine WO (a':=[(39,_)]) (k+1) (.cons (k:=39) rfl (.cons (k:=38) rfl (.cons (k:=37) rfl (.cons (k:=2) rfl (.cons (k:=1) rfl (.nil)))))) (fun w hw=>by first|exact hw|exact hw.c) ?_ ?_
          ·refine ⟨rfl,by omega,?_⟩
           rw [succOk_take (by omega)];simp_all
          ·omega
       ·replace hc7:=dF hc7
        refine XK ?_
        iterate 2 refine XH ?_
        refine Wh (Zn (Y_pk [2] ?_));refine ZK (Zm (l:=[0]) rfl ?_);refine ZB ?_;refine Zo (Zn (Yo ?_))
        refine Yk (.inr rfl) (.tmp rfl .nil) (fun w hw=>?_)
        refine ⟨_,rfl,(hw.c),?_⟩
        clear hw
        refine congrArg Value.bool ?_
        (have hk9:k=ZU.length:=(by omega);subst hk9;rw [List.take_length] at hI;simp_all [IsTb,ZQ.tb];omega)
theorem rIsT_ok (M:Mem) (t:ZQ) (ht0:ZQ.ok M t):Fs Tryz.prog 73 [t.enc] M (fun v=>v=Value.bool (decide (IsTb t.tb))):=by
  obtain ⟨⟨Yd,Yi⟩,⟨Ym,Yy⟩,⟨Yq,Yp,ZU⟩,⟨Yg,Yf,ZE⟩⟩:=t
  have YT:SlK M ZF.segs 21 ⟨Yq,Yp,ZU⟩:=ht0.h0
  have WA:SlM M Yq (ZU.map ZF.segs) 21:=YT.h1
  have WI:(ZU.map ZF.segs).length=ZU.length:=List.length_map ..
  have WJ:ZU.length≤9223372036854775807:=YT.h2
  have WK:ZU.length≤Yp:=YT.h3
  have Yu:SlK M ZF.segs 21 ⟨Yg,Yf,ZE⟩:=ht0.h1
  have XQ:SlM M Yg (ZE.map ZF.segs) 21:=Yu.h1
  have Wc:(ZE.map ZF.segs).length=ZE.length:=List.length_map ..
  have XZ:ZE.length≤9223372036854775807:=Yu.h2
  have Wd:ZE.length≤Yf:=Yu.h3
  refine Xv Tryz.func73 rfl Tryz.ntmps73 rfl ?_;intro H
  refine ZK (Zm (l:=[0,1]) rfl ?_)
  refine Xk ?_;intro b1
  refine ZB ?_;refine Zo (Zn (Y_pk [2,1] ?_))
  iterate 2 refine ZK ?_
  refine Zm (l:=[0,1,2,3,4,5,6,7,8,9,10,11,12,13,14,15,16,17,18,19,20,21,22,23,24,25,26,27,28]) rfl ?_;refine Zk F.foff28_0 ?_;refine Zk F.foff25_0 ?_;refine ZD F.lay3 ?_;refine YI ?_;refine Zx ?_
  refine Yj 9 rfl (fun hc2=>?_) (fun hc2=>?_)
  ·replace hc2:=dT hc2
   iterate 4 refine Ya ?_
   refine ZO ?_;refine Zx ?_
   iterate 5 refine Ya ?_
   refine ZO ?_;refine Zx ?_
   iterate 4 refine Ya ?_
   refine ZO ?_;refine Zx ?_
   iterate 4 refine Ya ?_
   refine ZO ?_;refine Zo (Zn (Y_pk [33,2,1] ?_));refine Xi rfl ?_;refine ZK (Zm (l:=[0]) rfl ?_);refine ZB ?_;refine Zo (Zn (Y_pk [2,1] ?_));refine Yo (YS ?_)
   refine Yk (.inr rfl) (.tmp rfl .nil) (fun w hw=>?_)
   refine ⟨_,rfl,(hw.c),?_⟩
   clear hw
   refine congrArg Value.bool ?_
   (refine (decide_eq_false (fun h=>?_)).symm;obtain ⟨⟨g1,g2⟩,g3,g4,g5,g6,g7⟩:=h;simp only [ZQ.tb] at *;first|omega|contradiction)
  ·replace hc2:=dF hc2
   refine Zk F.foff28_0 ?_;refine Zk F.foff25_0 ?_;refine ZD F.lay3 ?_;refine YI ?_;refine ZO ?_;refine Zx ?_
   refine Yj 15 rfl (fun hc3=>?_) (fun hc3=>?_)
   ·replace hc3:=dT hc3
    iterate 5 refine Ya ?_
    refine ZO ?_;refine Zx ?_
    iterate 4 refine Ya ?_
    refine ZO ?_;refine Zx ?_
    iterate 4 refine Ya ?_
    refine ZO ?_;refine Zo (Zn (Y_pk [33,2,1] ?_));refine Xi rfl ?_;refine ZK (Zm (l:=[0]) rfl ?_);refine ZB ?_;refine Zo (Zn (Y_pk [2,1] ?_));refine Yo (YS ?_)
    refine Yk (.inr rfl) (.tmp rfl .nil) (fun w hw=>?_)
    refine ⟨_,rfl,(hw.c),?_⟩
    clear hw
    refine congrArg Value.bool ?_
    (refine (decide_eq_false (fun h=>?_)).symm;obtain ⟨⟨g1,g2⟩,g3,g4,g5,g6,g7⟩:=h;simp only [ZQ.tb] at *;first|omega|contradiction)
   ·replace hc3:=dF hc3
    refine ZD F.lay28 ?_;refine Zk F.foff28_1 ?_;refine ZD F.lay25 ?_;refine X_fs rfl rfl F.ok121 rfl (rMaybe_ok _ ⟨⟨_,_⟩,⟨_,_⟩,⟨_,_,_⟩,⟨_,_,_⟩⟩ ⟨_,_⟩) rfl ?_
    rintro _ rfl
    refine Xj ?_;refine ZO ?_;refine Zx ?_
    refine Yj 22 rfl (fun hc4=>?_) (fun hc4=>?_)
    ·replace hc4:=nT hc4
     simp only [ZF.eta,ZQ.eta,ZR.eta,ZP.eta,Yr.eta,ZW.eta,YQ.eta,Yc.eta] at hc4
     iterate 4 refine Ya ?_
     refine ZO ?_;refine Zx ?_
     iterate 4 refine Ya ?_
     refine ZO ?_;refine Zo (Zn (Y_pk [33,2,1] ?_));refine Xi rfl ?_;refine ZK (Zm (l:=[0]) rfl ?_);refine ZB ?_;refine Zo (Zn (Y_pk [2,1] ?_));refine Yo (YS ?_)
     refine Yk (.inr rfl) (.tmp rfl .nil) (fun w hw=>?_)
     refine ⟨_,rfl,(hw.c),?_⟩
     clear hw
     refine congrArg Value.bool ?_
     (simp_all [IsTb,ZQ.tb];done)
    ·replace hc4:=nF hc4
     simp only [ZF.eta,ZQ.eta,ZR.eta,ZP.eta,Yr.eta,ZW.eta,YQ.eta,Yc.eta] at hc4
     refine Zk F.foff28_2 ?_;refine ZD F.lay26 ?_;refine YY F.elem26 ?_;refine YI ?_;refine ZO ?_;refine Zx ?_
     refine Yj 28 rfl (fun hc5=>?_) (fun hc5=>?_)
     ·replace hc5:=dT hc5
      iterate 4 refine Ya ?_
      refine ZO ?_;refine Zo (Zn (Y_pk [33,2,1] ?_));refine Xi rfl ?_;refine ZK (Zm (l:=[0]) rfl ?_);refine ZB ?_;refine Zo (Zn (Y_pk [2,1] ?_));refine Yo (YS ?_)
      refine Yk (.inr rfl) (.tmp rfl .nil) (fun w hw=>?_)
      refine ⟨_,rfl,(hw.c),?_⟩
      clear hw
      refine congrArg Value.bool ?_
      (simp_all [IsTb,ZQ.tb];omega)
     ·replace hc5:=dF hc5
      refine Zk F.foff28_3 ?_;refine ZD F.lay26 ?_;refine YY F.elem26 ?_;refine YI ?_;refine ZO ?_;refine Zo (Zn (Y_pk [33,2,1] ?_))
      refine YA rfl (fun hc6=>?_) (fun hc6=>?_)
      ·replace hc6:=nT hc6
       refine ZK (Zm (l:=[0]) rfl ?_);refine ZB ?_;refine Zo (Zn (Y_pk [2,1] ?_));refine Yo (YS ?_)
       refine Yk (.inr rfl) (.tmp rfl .nil) (fun w hw=>?_)
       refine ⟨_,rfl,(hw.c),?_⟩
       clear hw
       refine congrArg Value.bool ?_
       (simp_all [IsTb,ZQ.tb];omega)
      ·replace hc6:=nF hc6
       refine YG (Zn (Y_pk [2,1] ?_))
       iterate 2 refine ZK ?_
       refine Zm (l:=[0]) rfl ?_;refine ZB ?_;refine Zo (Zn (Xc (Y_pk [3,2,1] ?_)));refine WV (.succ .zero) (fun (k:Nat) z=>z=[(3,.int .i64 (k:Int))]∧k≤ZU.length∧(UB ⟨Yd,Yi⟩ (ZU.take k))) (fun k=>ZU.length-k) (0) (⟨rfl,by omega,by (refine ⟨fun p hp=>?_,?_⟩;simp at hp;simp)⟩) ?_
       rintro k _ ⟨rfl,hk,hI⟩
       have k_tk:=YT.take k hk
       have hlk:(ZU.take k).length=k:=by rw [List.length_take];omega
       iterate 2 refine ZK ?_
       refine Zm (l:=[0,1,2,3,4]) rfl ?_;refine Zx ?_;refine Zk F.foff28_2 ?_;refine ZD F.lay26 ?_;refine YY F.elem26 ?_;refine YI ?_;refine Zo (Zn ?_)
       refine YA rfl (fun hc7=>?_) (fun hc7=>?_)
       ·replace hc7:=dT hc7
        refine YG (Zn (ZK (Xc (ZK (YK (l:=[0,1,2,3,4,5,6,7,8,9,10,11,12,13,14,15,16,17,18,19,20]) #[0,0,2,0,14,30,63,127,255,511,1023,511,4095,511,8703,511,57855,123391,254463,524287,1048575] _ rfl (by kernel_rfl) (by kernel_rfl) St.drawn (fun _ h=>h) ?_)))));refine ZD F.lay28 ?_;refine Zk F.foff28_2 ?_;refine ZD F.lay26 ?_;refine Zx ?_;refine YR rfl rfl rfl rfl F.elem26 (by rfl) (by omega) (by exact SlM.plain (by assumption) (by (simp;omega))) rfl ?_;refine Xm rfl rfl rfl (by assumption) (by exact XP (by omega)) F.lay25 rfl rfl rfl ?_;refine X_fs rfl rfl F.ok55 rfl (VI _ ⟨⟨_,_⟩,⟨_,_⟩,⟨_,_,_⟩,⟨_,_,_⟩⟩ ⟨_,_⟩) rfl ?_
        rintro _ rfl
        refine Xj ?_;refine Zx ?_
        refine Yj 49 rfl (fun hc8=>?_) (fun hc8=>?_)
        ·replace hc8:=nT hc8
         simp only [ZF.eta,ZQ.eta,ZR.eta,ZP.eta,Yr.eta,ZW.eta,YQ.eta,Yc.eta] at hc8
         simp only [List.get_eq_getElem] at hc8
         iterate 11 refine Ya ?_
         refine ZO ?_;refine Zo (Zn (Xi rfl ?_));refine ZK (Zm (l:=[0]) rfl ?_);refine ZB ?_;refine Zo (Zn (Yo (Xh ?_)))
         iterate 2 refine YS ?_
         refine Xh (YS ?_)
         refine Yk (.inr rfl) (.tmp rfl .nil) (fun w hw=>?_)
         refine ⟨_,rfl,(hw.c),?_⟩
         clear hw
         refine congrArg Value.bool ?_
         (have hd:=succOk_take (s:=⟨Yd,Yi⟩) (l:=ZU) (k:=k) (by omega);have hp:=succOk_pre (s:=⟨Yd,Yi⟩) (l:=ZU);grind [IsTb,ZQ.tb])
        ·replace hc8:=nF hc8
         simp only [ZF.eta,ZQ.eta,ZR.eta,ZP.eta,Yr.eta,ZW.eta,YQ.eta,Yc.eta] at hc8
         simp only [List.get_eq_getElem] at hc8
         refine Zk F.foff28_2 ?_;refine ZD F.lay26 ?_;refine Zx ?_;refine WY rfl rfl rfl .none (.some (k:=k) rfl rfl) .none F.elem26 (by simp only [Option.getD_none];omega) (by simp only [Option.getD_some,Option.getD_none];omega) (by simp only [Option.getD_some,Option.getD_none];omega) (by simp) (pieceV_take (l:=ZU) (k:=k) (by omega)) rfl ?_;refine Zk F.foff28_2 ?_;refine ZD F.lay26 ?_;refine Zx ?_;refine YR rfl rfl rfl rfl F.elem26 (by rfl) (by omega) (by exact SlM.plain (by assumption) (by (simp;omega))) rfl ?_;refine XC rfl rfl rfl (by exact SlM.plain (by assumption) (by (simp;omega))) F.foff25_0 rfl ?_;refine Xm rfl rfl rfl (by assumption) (by exact XP (by omega)) F.lay3 rfl rfl rfl ?_;refine X_fs rfl rfl F.ok122 rfl (rhas_ok _ ⟨_,_,_⟩ _ (by assumption)) rfl ?_
         rintro _ rfl
         refine ZO ?_;refine Zo (Zn ?_)
         refine YA rfl (fun hc9=>?_) (fun hc9=>?_)
         ·replace hc9:=dT hc9
          simp only [ZF.eta,ZQ.eta,ZR.eta,ZP.eta,Yr.eta,ZW.eta,YQ.eta,Yc.eta] at hc9
          simp only [List.get_eq_getElem] at hc9
          refine ZK (Zm (l:=[0]) rfl ?_);refine ZB ?_;refine Zo (Zn (Yo (Xh ?_)))
          iterate 2 refine YS ?_
          refine Xh (YS ?_)
          refine Yk (.inr rfl) (.tmp rfl .nil) (fun w hw=>?_)
          refine ⟨_,rfl,(hw.c),?_⟩
          clear hw
          refine congrArg Value.bool ?_
          (have hd:=succOk_take (s:=⟨Yd,Yi⟩) (l:=ZU) (k:=k) (by omega);have hp:=succOk_pre (s:=⟨Yd,Yi⟩) (l:=ZU);grind [IsTb,ZQ.tb])
         ·replace hc9:=dF hc9
          simp only [ZF.eta,ZQ.eta,ZR.eta,ZP.eta,Yr.eta,ZW.eta,YQ.eta,Yc.eta] at hc9
          simp only [List.get_eq_getElem] at hc9
          refine YG (XR (Zn (Zm (l:=[0,1,2]) rfl ?_)));refine Zx ?_;refine XE rfl rfl rfl rfl rfl (by exact Xe (by decide) (by omega)) rfl ?_;refine ZB ?_;refine Zo ?_;refine WO (a':=[(3,_)]) (k+1) (.cons (k:=3) rfl (.cons (k:=2) rfl (.cons (k:=1) rfl (.nil)))) (fun w hw=>by first|exact hw|exact hw.c) ?_ ?_
          ·refine ⟨rfl,by omega,?_⟩
           rw [succOk_take (by omega)];simp_all
          ·omega
       ·replace hc7:=dF hc7
        refine XK ?_
        iterate 2 refine XH ?_
        refine Wh (Zn (Y_pk [2,1] ?_))
        iterate 2 refine ZK ?_
        refine Zm (l:=[0]) rfl ?_;refine ZB ?_;refine Zo (Zn (Xc (Y_pk [4,2,1] ?_)));refine WV (.succ .zero) (fun (k:Nat) z=>z=[(4,.int .i64 (k:Int))]∧k≤ZE.length∧(UB ⟨Yd,Yi⟩ ZU∧∀ j (h:j<k) (h2:j<ZE.length),Up ⟨Yd,Yi⟩ ZE[j])) (fun k=>ZE.length-k) (0) (⟨rfl,by omega,by (refine ⟨by (have hk9:k=ZU.length:=(by omega));subst hk9;rw [List.take_length] at hI;exact hI,fun j hj=>by omega⟩)⟩) ?_
        rintro k2 _ ⟨rfl,hk2,hJ⟩
        iterate 2 refine ZK ?_
        refine Zm (l:=[0,1,2,3,4]) rfl ?_;refine Zx ?_;refine Zk F.foff28_3 ?_;refine ZD F.lay26 ?_;refine YY F.elem26 ?_;refine YI ?_;refine Zo (Zn ?_)
        refine YA rfl (fun hc10=>?_) (fun hc10=>?_)
        ·replace hc10:=dT hc10
         refine YG (Zn (ZK (Xc (ZK (YK (l:=[0,1,2,3,4,5,6,7]) #[0,0,2,0,14,30,63,127] _ rfl (by kernel_rfl) (by kernel_rfl) St.drawn (fun _ h=>h) ?_)))));refine ZD F.lay28 ?_;refine Zk F.foff28_3 ?_;refine ZD F.lay26 ?_;refine Zx ?_;refine YR rfl rfl rfl rfl F.elem26 (by rfl) (by omega) (by exact SlM.plain (by assumption) (by (simp;omega))) rfl ?_;refine Xm rfl rfl rfl (by assumption) (by exact XP (by omega)) F.lay25 rfl rfl rfl ?_;refine X_fs rfl rfl F.ok121 rfl (rMaybe_ok _ ⟨⟨_,_⟩,⟨_,_⟩,⟨_,_,_⟩,⟨_,_,_⟩⟩ ⟨_,_⟩) rfl ?_
         rintro _ rfl
         refine Xj ?_;refine Zo (Zn ?_)
         refine YA rfl (fun hc11=>?_) (fun hc11=>?_)
         ·replace hc11:=nT hc11
          simp only [ZF.eta,ZQ.eta,ZR.eta,ZP.eta,Yr.eta,ZW.eta,YQ.eta,Yc.eta] at hc11
          simp only [List.get_eq_getElem] at hc11
          refine ZK (Zm (l:=[0]) rfl ?_);refine ZB ?_;refine Zo (Zn (Yo (Xh ?_)))
          iterate 2 refine YS ?_
          refine Xh (YS ?_)
          refine Yk (.inr rfl) (.tmp rfl .nil) (fun w hw=>?_)
          refine ⟨_,rfl,(hw.c),?_⟩
          clear hw
          refine congrArg Value.bool ?_
          (have h9:¬∀ p∈ZE,Up ⟨Yd,Yi⟩ p:=(fun h=>absurd (h _ (List.getElem_mem (n:=k2) (by omega))) (by assumption));exact (decide_eq_false (fun h=>h9 h.2.2.2.2.2)).symm)
         ·replace hc11:=nF hc11
          simp only [ZF.eta,ZQ.eta,ZR.eta,ZP.eta,Yr.eta,ZW.eta,YQ.eta,Yc.eta] at hc11
          simp only [List.get_eq_getElem] at hc11
          refine YG (XR (Zn (Zm (l:=[0,1,2]) rfl ?_)));refine Zx ?_;refine XE rfl rfl rfl rfl rfl (by exact Xe (by decide) (by omega)) rfl ?_;refine ZB ?_;refine Zo ?_;refine WO (a':=[(4,_)]) (k2+1) (.cons (k:=4) rfl (.cons (k:=2) rfl (.cons (k:=1) rfl (.nil)))) (fun w hw=>by first|exact hw|exact hw.c) ?_ ?_
          ·refine ⟨rfl,by omega,?_⟩
           refine ⟨hJ.1,fun j hj hj2=>?_⟩;rcases Nat.lt_or_ge j k2 with h9|h9;exact hJ.2 j h9 hj2;obtain rfl:j=k2:=(by omega);assumption
          ·omega
        ·replace hc10:=dF hc10
         refine XK ?_
         iterate 2 refine XH ?_
         refine Wh (Zn (Y_pk [2] ?_));refine ZK (Zm (l:=[0]) rfl ?_);refine ZB ?_;refine Zo (Zn (Yo ?_))
         refine Yk (.inr rfl) (.tmp rfl .nil) (fun w hw=>?_)
         refine ⟨_,rfl,(hw.c),?_⟩
         clear hw
         refine congrArg Value.bool ?_
         (have h9:∀ p∈ZE,Up ⟨Yd,Yi⟩ p:=(fun p hp=>by obtain ⟨j,hj,rfl⟩:=List.getElem_of_mem hp;exact hJ.2 j (by omega) hj);exact (decide_eq_true (show IsTb _ from ⟨⟨by show 0≤Yd;omega,by show Yd≤999;omega⟩,by assumption,by show ZU.length≤8;omega,by show ZE.length=160;omega,hJ.1,h9⟩)).symm)
end Go.Proofs.YtajmnjefajknoaaGreat
namespace Go.Esp
section
variable {P:Program} {n:Sh} {ops:Array Oper} {Q:Exit→Act→World→Prop} {rest:List Nat} {M M':Mem} {H H' H0:Hp} {e:Env} {J S:World→Prop} {A:As} {i:Nat}
  {dst:Option Tmp} {d:Tmp} {op:Op} {ty:TypeId} {pos:String} {af:Array Edge} {gd:Option (Nat×Bool)}
theorem rows_one {α:Type} {f:α→Segs} (hf:∀ x,flat (f x)):∀ (l:List α),∀ u∈YH (l.map f),u.oneCell'=true
  | [],u,hu=>by cases hu
  | x::l,u,hu=>by
    rcases List.mem_append.1 (show u∈Segs.cells (f x)++YH (l.map f) from hu) with hu|hu
    · exact hf x u hu
    · exact rows_one hf l u hu
theorem SlM.none_nil {α:Type} {f:α→Segs} {sz:Nat} {l:List α} (h:SlM M Option.none (l.map f) sz):l=[]:=by
  cases l with
  | nil=>rfl
  | cons x l=>obtain ⟨b,off,c,T,fz,h1,_⟩:=h.there (by simp);cases h1
theorem SlM.src {ad:Addr} {rows:List Segs} {sz l c:Nat} (h:SlM M (some ad) rows sz) (h1:∀ u∈YH rows,u.oneCell'=true) (hl:l=rows.length):Src M H sz (.slice (some ad) l c) rows:=by
  subst hl
  refine ⟨h.lens,h1,ad,c,rfl,fun w hw j u hu=>?_⟩
  obtain ⟨b,off,x,T,fz,e1,h2,h3⟩:=h.there (fun e=>by rw [e] at hu;simp [YH] at hu)
  cases e1
  rw [Addr.add_lit,cell_of_row (hw.mem _ _ h2)]
  rw [← h3,List.getElem?_take,List.getElem?_drop] at hu
  split at hu
  · simpa using hu
  · cases hu
theorem X_append_none {t E sz by_:Nat} {x y:Operand} {a:Option Addr} {l c c':Nat} {ats:Array TypeId} (hi:ops[i]?=some ⟨some d,.call ⟨.builtin .append,#[x,y],ats⟩,ty,pos,af,gd⟩) (hg:want ops e gd=some true)
    (hx:ev e x=some (.slice a l c)) (hy:ev e y=some (.slice Option.none 0 c')) (hat:ats=#[t,t]) (ht:slOf P t=some (E,sz,by_)) (hlc:l≤c) (hd:Nat.ble (d+1) n.sz=true)
    (hk:XD P n ops Q rest (St M H) ⟨M,H⟩ ((d,.slice a l c)::e)) (hnw:n.wrs.contains i=false:=by rfl):XD P n ops Q (i::rest) J ⟨M,H⟩ e:=by
  subst hat
  refine X_mut hi rfl hg (fun a' w ha hw=>?_) hnw
  obtain ⟨it,hu,hit,rfl,rfl⟩:=Vb ht
  have hr:(Builtin.append_ #[t,t] ty #[.slice a l c,.slice Option.none 0 c']).run P w=.ok (.slice a l c) w:=by
    cases a <;> simp [Builtin.append_,run_underlying hu,sizeOf,typeInfo,hit,Builtin.lenOf,Builtin.firstCells,hlc,storeCells]
  unfold Oper.does
  have:(execOp a'.eval ⟨some d,.call ⟨.builtin .append,#[x,y],#[t,t]⟩,ty,pos,af,gd⟩).run P w=.ok (.value (.slice a l c)) w:=by
    simp only [execOp,resolve,pure_bind,invoke]
    have:#[x,y].map a'.eval=#[.slice a l c,.slice Option.none 0 c']:=by simp [ha.ev hx,ha.ev hy]
    rw [this]
    exact Vf hr
  rw [this]
  exact ⟨⟨M,H⟩,_,hw,ha.put hd _,hk⟩
theorem made_cells {z:Array Value} {zr:Segs} (hz:z.toList=Segs.cells zr) (hp:0<z.size):∀ (n:Nat),(madeCells z (n * z.size)).toList=YH (List.replicate n zr)
  | 0=>by simp [madeCells,YH]
  | n+1=>by
    have ih:=made_cells hz hp n
    rw [List.replicate_succ',Wk,← ih]
    simp only [madeCells,Array.toList_map,Array.toList_range,YH,List.append_nil,Nat.add_mul,Nat.one_mul] at *
    rw [List.range_add,List.map_append]
    congr 1
    rw [← hz,List.map_map]
    apply List.ext_getElem
    · simp
    · intro j h1 h2
      simp only [List.length_map,List.length_range] at h1
      simp only [List.getElem_map,List.getElem_range,Function.comp,Nat.mul_add_mod_self_right]
      rw [Nat.mod_eq_of_lt h1,getElem!_pos z j h1]
      simp
theorem X_makeSliceO {t E sz by_ k:Nat} {z:Value} {zr:Segs} {x y:Operand} (hi:ops[i]?=some ⟨some d,.makeSlice t x y,ty,pos,af,gd⟩) (hg:want ops e gd=some true)
    (hx:ev e x=some (.int .i64 (k:Int))) (hy:ev e y=some (.int .i64 (k:Int))) (ht:slOf P t=some (E,sz,by_)) (hz:WH P E=some z) (hzr:z.cells.toList=Segs.cells zr) (hzs:z.cells.size=sz) (hsz:Nat.ble 1 sz=true)
    (hk9:k * sz≤16777216) (hkb:by_ * k≤281474976710656) (hd:Nat.ble (d+1) n.sz=true)
    (hk:∀ (b:Nat) hs',OSl E sz (.slice (some ⟨b,0,Option.none⟩) k k) hs' (List.replicate k zr)→XD P n ops Q rest J ⟨M,hs'++H⟩ ((d,.slice (some ⟨b,0,Option.none⟩) k k)::e)):XD P n ops Q (i::rest) J ⟨M,H⟩ e:=by
  obtain ⟨it,hu,hit,rfl,rfl⟩:=Vb ht
  have hz':it.zero=some z:=by simpa [WH,hit] using hz
  have hpos:1≤it.size:=Nat.le_of_ble_eq_true hsz
  have hkl:k≤k * it.size:=Nat.le_mul_of_pos_right k hpos
  have hb9:(it.bytes:Int) * (k:Int)≤281474976710656:=by
    have h9:((it.bytes * k:Nat):Int)≤281474976710656:=by omega
    simpa using h9
  have hlen:Segs.len zr=it.size:=by rw [← hzs,← Segs.cells_length,← hzr];simp
  have ho:∀ b,OSl E it.size (.slice (some ⟨b,0,Option.none⟩) k k) [(b,.cells (madeCells z.cells (k * it.size)) E (0,0))] (List.replicate k zr):=fun b=>by
    have hll:lens it.size (List.replicate k zr):=fun r hr=>by rw [List.eq_of_mem_replicate hr];exact hlen
    have hm:=made_cells hzr (by omega) k
    rw [hzs] at hm
    have:=OSl.own (T:=E) (sz:=it.size) b k (List.replicate k zr) (madeCells z.cells (k * it.size)) hll (by simp) (by simp only [maxLen];omega) (by simp [madeCells]) (by
      rw [hm,← XI hll];exact List.take_length)
    simpa using this
  refine X_newV (x:=.cells (madeCells z.cells (k * it.size)) E (0,0)) (g:=fun b=>.slice (some ⟨b,0,Option.none⟩) k k) hi rfl hg (fun a ha w=>?_) (e':=fun b=>(d,.slice (some ⟨b,0,Option.none⟩) k k)::e) (fun a b ha=>ha.put hd _) (fun b=>hk b _ (ho b))
  have hr:=run_makeSlice (P:=P) (w:=w) t E it z hu hit hz' .i64 .i64 (k:Int) (k:Int) (by omega) (by omega) (by simpa using hk9) hb9 (by omega)
  simp only [Int.toNat_natCast] at hr
  simp only [execOp,ha.ev hx,ha.ev hy]
  exact Vf hr
theorem rowSplice {T sz b c k:Nat} {rows news:List Segs} {cur:Array Value} (h1:lens sz rows) (h2:lens sz news) (h3:rows.length≤c) (h4:c≤maxLen) (h5:cur.size=c * sz) (h6:cur.toList.take (rows.length * sz)=YH rows) (hk:k+news.length≤rows.length) :
    OSl T sz (.slice (some ⟨b,0,Option.none⟩) rows.length c) [(b,.cells (cur.toList.take (k * sz)++YH news++cur.toList.drop (k * sz+(YH news).length)).toArray T (0,0))] (rows.take k++news++rows.drop (k+news.length)):=by
  have hnl:(YH news).length=news.length * sz:=XI h2
  have hle:k * sz+news.length * sz≤rows.length * sz:=by rw [← Nat.add_mul];exact Nat.mul_le_mul_right _ hk
  have hrc:rows.length * sz≤c * sz:=Nat.mul_le_mul_right _ h3
  have hlen:(rows.take k++news++rows.drop (k+news.length)).length=rows.length:=by simp;omega
  have hll:lens sz (rows.take k++news++rows.drop (k+news.length)):=((h1.take k).append h2).append (h1.drop _)
  have:=OSl.own (T:=T) (sz:=sz) b c (rows.take k++news++rows.drop (k+news.length)) (cur.toList.take (k * sz)++YH news++cur.toList.drop (k * sz+(YH news).length)).toArray hll (by omega) h4 (by
    simp only [List.size_toArray,List.length_append,List.length_take,List.length_drop,Array.length_toList];omega) (by
    rw [hlen]
    simp only [List.toList_toArray]
    rw [Wk,Wk,rowsCells_take h1 (by omega),rowsCells_drop h1 hk,← h6,hnl,List.take_take,Nat.min_eq_left (by omega),List.drop_take]
    rw [List.take_append,List.take_of_length_le (by simp only [List.length_append,List.length_take,Array.length_toList];omega)]
    congr 1
    simp only [List.length_append,List.length_take,Array.length_toList,hnl]
    rw [Nat.min_eq_left (by omega),Nat.add_mul])
  rw [hlen] at this
  exact this
theorem Ua {t:TypeId} {x y:Operand} {b j sz c m l:Nat} {agg:Bool} {T:TypeId} {q:Segs} {v:Value} {hs:Hp} {rows:List Segs} (hi:ops[i]?=some ⟨Option.none,.store t x y,ty,pos,af,gd⟩) (hg:want ops e gd=some true)
    (hx:ev e x=some (eptr (some ⟨b,0,Option.none⟩) j sz 0)) (hy:ev e y=some v) (hp:VN v q) (hq:flat q) (hl:lay P t=some (agg,m)) (hn:Segs.len q=m) (hms:m=sz) (ho:OSl T sz (.slice (some ⟨b,0,Option.none⟩) l c) hs rows) (hH:Rem hs H H0) (hj:j<rows.length)
    (hk:∀ hs',OSl T sz (.slice (some ⟨b,0,Option.none⟩) rows.length c) hs' (rows.set j q)→XD P n ops Q rest (St M (hs'++H0)) ⟨M,hs'++H0⟩ e) (hnw:n.wrs.contains i=false:=by rfl):XD P n ops Q (i::rest) J ⟨M,H⟩ e:=by
  subst hms
  refine X_mut hi rfl hg (fun a w ha hw=>?_) hnw
  obtain ⟨dd,it,hd,hit,hsz,hag⟩:=lay_spec hl
  obtain ⟨cur,rfl,rfl,hlr,hcap,hcm,hcs,htake⟩:=ho.inv
  have hst:=hw.perm hH.perm
  have hb:=hst.own b _ (List.mem_append_left _ (.head _))
  have hq1:lens m [q]:=fun r hr=>by rw [List.mem_singleton.1 hr];exact hn
  have hjl:j * m+m≤rows.length * m:=by have:=Nat.mul_le_mul_right m (show j+1≤rows.length from hj);rwa [Nat.add_mul,Nat.one_mul] at this
  have hrc:rows.length * m≤c * m:=Nat.mul_le_mul_right _ hcap
  have hql:(Segs.cells q).length=m:=by rw [Segs.cells_length,hn]
  have h2:=run_storeCells_at P b (j * m) T (Segs.cells q) 0 cur w hb (by omega) hq
  have ho':=rowSplice (T:=T) (b:=b) (k:=j) hlr hq1 hcap hcm hcs htake (by simp;omega)
  have er:rows.take j++[q]++rows.drop (j+[q].length)=rows.set j q:=by
    rw [List.set_eq_take_append_cons_drop,if_pos hj];simp
  rw [er] at ho'
  simp only [YH,List.append_nil] at ho'
  have hr:(Instr.storeAt t (.pointer (some ⟨b,0+(j * m+0),Option.none⟩)) v).run P w=.ok () (w.setRow b (cur.toList.take (j * m)++Segs.cells q++cur.toList.drop (j * m+(Segs.cells q).length)).toArray):=by
    unfold Instr.storeAt
    rw [Sem.run_bind]
    show (Result.ok _ w).andThen _=_
    rw [Result.andThen_ok]
    unfold storeVar
    rw [Sem.run_bind,run_sizeOf' hit,Result.andThen_ok]
    have hs:v.cells.size=it.size:=by rw [hp.cells,hsz];simp [Segs.cells_length,hn]
    simp only [hs,ne_eq,not_true_eq_false,if_false]
    rw [hp.cells,Nat.zero_add,Nat.add_zero]
    simpa using h2
  unfold Oper.does
  rw [eptr_some] at hx
  have:(execOp a.eval ⟨Option.none,.store t x y,ty,pos,af,gd⟩).run P w=.ok .skip (w.setRow b (cur.toList.take (j * m)++Segs.cells q++cur.toList.drop (j * m+(Segs.cells q).length)).toArray):=by
    simp only [execOp,ha.ev hx,ha.ev hy]
    rw [Xd hr];rfl
  rw [this]
  refine ⟨⟨M,_⟩,e,?_,ha,hk _ ho'⟩
  exact hst.upd .head (setRow_heap w b cur _ T _ hb) (fun c hc x hx=>by rw [setRow_other w b c _ hc];exact hx) (VR.refl _)
theorem X_copyO {t t' E sz by_:Nat} {x y:Operand} {u:Value} {b k l' c' m c l off:Nat} {hs:Hp} {rows news:List Segs} {ats:Array TypeId} (hi:ops[i]?=some ⟨some d,.call ⟨.builtin .copy,#[x,y],ats⟩,ty,pos,af,gd⟩) (hg:want ops e gd=some true)
    (hx:ev e x=some (.slice (some ⟨b,off,Option.none⟩) l' c')) (hy:ev e y=some u) (hat:ats=#[t,t']) (ht:slOf P t=some (E,sz,by_)) (hoff:off=k * sz) (hkl:k+l'≤rows.length) (ho:OSl E sz (.slice (some ⟨b,0,Option.none⟩) l c) hs rows) (hH:Rem hs H H0)
    (hsrc:Src M H sz u news) (hm:m=min news.length l') (hd:Nat.ble (d+1) n.sz=true)
    (hk:∀ hs',OSl E sz (.slice (some ⟨b,0,Option.none⟩) rows.length c) hs' (rows.take k++news.take m++rows.drop (k+m))→XD P n ops Q rest (St M (hs'++H0)) ⟨M,hs'++H0⟩ ((d,.int .i64 (m:Int))::e)) (hnw:n.wrs.contains i=false:=by rfl):XD P n ops Q (i::rest) J ⟨M,H⟩ e:=by
  subst hat hoff
  refine X_mut hi rfl hg (fun a w ha hw=>?_) hnw
  obtain ⟨it,hu,hit,rfl,rfl⟩:=Vb ht
  obtain ⟨hln,h1,ad,c2,rfl,hsr⟩:=hsrc
  obtain ⟨cur,rfl,rfl,hlr,hcap,hcm,hcs,htake⟩:=ho.inv
  have hst:=hw.perm hH.perm
  have hb:=hst.own b _ (List.mem_append_left _ (.head _))
  have hml:(news.take m).length=m:=by simp;omega
  have hmn:lens it.size (news.take m):=hln.take m
  have hcl:(YH (news.take m)).length=m * it.size:=by rw [XI hmn,hml]
  have hle:k * it.size+m * it.size≤rows.length * it.size:=by rw [← Nat.add_mul];exact Nat.mul_le_mul_right _ (by omega)
  have hrc:rows.length * it.size≤c * it.size:=Nat.mul_le_mul_right _ hcap
  have hone:∀ v∈YH (news.take m),v.oneCell'=true:=fun v hv=>h1 v (by rw [rowsCells_take hln (by omega)] at hv;exact List.mem_of_mem_take hv)
  have hload:=run_loadCells_list (P:=P) w ad (YH (news.take m)) (fun j v hj=>hsr w hw j v (by
    rw [rowsCells_take hln (by omega),List.getElem?_take] at hj
    split at hj
    · exact hj
    · cases hj))
  have hstore:=run_storeCells_at P b (k * it.size) E (YH (news.take m)) 0 cur w hb (by omega) hone
  have ho':=rowSplice (T:=E) (b:=b) (k:=k) (news:=news.take m) hlr hmn hcap hcm hcs htake (by omega)
  rw [hml] at ho'
  rw [hcl] at hload
  have hr:(Builtin.copy_ #[t,t'] ty #[.slice (some ⟨b,k * it.size,Option.none⟩) l' c',.slice (some ad) news.length c2]).run P w=.ok (goInt m) (w.setRow b (cur.toList.take (k * it.size)++YH (news.take m)++cur.toList.drop (k * it.size+(YH (news.take m)).length)).toArray):=by
    have e9:Nat.min news.length l'=m:=hm.symm
    simp [Builtin.copy_,run_underlying hu,Builtin.lenOf,Builtin.firstCells,sizeOf,typeInfo,hit,e9,hload]
    have h5:=hstore
    simp only [Nat.add_zero,List.append_assoc] at h5
    rw [h5];rfl
  unfold Oper.does
  have:(execOp a.eval ⟨some d,.call ⟨.builtin .copy,#[x,y],#[t,t']⟩,ty,pos,af,gd⟩).run P w=.ok (.value (.int .i64 (m:Int))) (w.setRow b (cur.toList.take (k * it.size)++YH (news.take m)++cur.toList.drop (k * it.size+(YH (news.take m)).length)).toArray):=by
    simp only [execOp,resolve]
    simp only [invoke,builtin]
    have e1:#[x,y].map a.eval=#[.slice (some ⟨b,k * it.size,Option.none⟩) l' c',.slice (some ad) news.length c2]:=by simp [ha.ev hx,ha.ev hy]
    rw [e1]
    rw [Sem.run_bind]
    show (Result.ok _ w).andThen _=_
    rw [Result.andThen_ok]
    exact Vf hr
  rw [this]
  refine ⟨⟨M,_⟩,_,?_,ha.put hd _,hk _ ho'⟩
  exact hst.upd .head (setRow_heap w b cur _ E _ hb) (fun c hc x hx=>by rw [setRow_other w b c _ hc];exact hx) (VR.refl _)
theorem XD_perm (hp:H.Perm H') (h:XD P n ops Q rest (St M H') ⟨M,H'⟩ e):XD P n ops Q rest (St M H) ⟨M,H⟩ e:=by
  have e1:St M H=St M H':=funext fun w=>propext ⟨fun h=>h.perm0 hp,fun h=>h.perm0 hp.symm⟩
  intro hSJ a ha
  have:=h (fun u hu=>hu) a ha
  rw [e1]
  exact WD.perm (A:=⟨M,H'⟩) (A':=⟨M,H⟩) rfl hp.symm this
theorem Vy {α:Type} {f:α→Segs} {xs:List α} {t E sz by_ m c':Nat} {z:Value} {x y:Operand} {v:Value} {a:Option Addr} {hs:Hp} {rows:List Segs} {ats:Array TypeId} (hi:ops[i]?=some ⟨some d,.call ⟨.builtin .append,#[x,y],ats⟩,ty,pos,af,gd⟩) (hg:want ops e gd=some true)
    (hx:ev e x=some v) (hy:ev e y=some (.slice a xs.length c')) (hat:ats=#[t,t]) (ht:slOf P t=some (E,sz,by_)) (hz:WH P E=some z) (hzs:z.cells.size=sz) (hsz:Nat.ble 1 sz=true) (ho:OSl E sz v hs rows) (hH:Rem hs H H0)
    (hsrc:SlM M a (xs.map f) sz) (hf:∀ x,flat (f x)) (hm:rows.length+xs.length≤m) (hbm:Nat.ble (m * (by_+1)) 140737488355328=true) (hd:Nat.ble (d+1) n.sz=true)
    (hk:∀ v' hs',OSl E sz v' hs' (rows++xs.map f)→XD P n ops Q rest (St M (hs'++H0)) ⟨M,hs'++H0⟩ ((d,v')::e)) (hnw:n.wrs.contains i=false:=by rfl):XD P n ops Q (i::rest) J ⟨M,H⟩ e:=by
  cases a with
  | some ad=>exact Vh hi hg hx hy hat ht hz hzs hsz ho hH (SlM.src hsrc (rows_one hf _) (List.length_map ..).symm) (by simpa using hm) hbm hd hk hnw
  | none =>
    have hl:=hsrc.none_nil
    subst hl
    obtain ⟨a1,c1,rfl⟩:=ho.val
    obtain ⟨g1,_,_⟩:=ho.caps
    have hk':=hk _ _ (by simpa using ho)
    exact X_append_none hi hg hx hy hat ht g1 hd (XD_perm hH.perm hk') hnw
theorem OSl.valAt {T sz n:Nat} {v:Value} {hs:Hp} {rows:List Segs} (h:OSl T sz v hs rows) (hn:rows.length=n):∃ a c,v=.slice a n c:=by
  obtain ⟨a,c,h1⟩:=h.val
  exact ⟨a,c,by rw [h1,hn]⟩
theorem OSl.aZ {T sz l l' c:Nat} {a:Option Addr} {hs:Hp} {rows:List Segs} (h:OSl T sz (.slice a l c) hs rows) (hl:l'=rows.length):OSl T sz (.slice a l' c) hs rows:=by
  obtain ⟨_,_,e⟩:=h.caps
  rw [hl,← e];exact h
theorem OSl.srcAll {T sz b l c:Nat} {hs:Hp} {rows:List Segs} (h:OSl T sz (.slice (some ⟨b,0,Option.none⟩) l c) hs rows) (hH:Rem hs H H0) (h1:∀ u∈YH rows,u.oneCell'=true):Src M H sz (.slice (some ⟨b,0,Option.none⟩) l c) rows:=by
  obtain ⟨_,_,e⟩:=h.caps
  subst e
  have:=OSl.src (M:=M) (k:=0) (c':=c) h hH h1
  simpa using this
theorem rep_one {N:Segs} (h:flat N):∀ (k:Nat),∀ u∈YH (List.replicate k N),u.oneCell'=true
  | 0,u,hu=>by cases hu
  | k+1,u,hu=>by
    rcases List.mem_append.1 (show u∈Segs.cells N++YH (List.replicate k N) from hu) with hu|hu
    · exact h u hu
    · exact rep_one h k u hu
theorem rep_first {N Z:Segs} {n:Nat} (h:1≤n):(List.replicate n Z).take 0++[N].take (min [N].length n)++(List.replicate n Z).drop (0+min [N].length n)=List.replicate 1 N++List.replicate (n-1) Z:=by
  have e:min [N].length n=1:=by simp;omega
  rw [e];simp
theorem rep_take {N Z:Segs} {n k:Nat}:(List.replicate k N++List.replicate (n-k) Z).take k=List.replicate k N:=by
  rw [List.take_append_of_le_length (by simp)];simp
theorem rep_next {N Z:Segs} {n k m:Nat} (hk:k≤n) (hm:m≤k) (hmn:m≤n-k):(List.replicate k N++List.replicate (n-k) Z).take k++(List.replicate k N).take m++(List.replicate k N++List.replicate (n-k) Z).drop (k+m)=List.replicate (k+m) N++List.replicate (n-(k+m)) Z:=by
  rw [rep_take,List.take_replicate,Nat.min_eq_left hm,List.drop_append,List.drop_of_length_le (by simp),List.nil_append,List.drop_replicate,List.replicate_append_replicate]
  simp only [List.length_replicate]
  congr 2
  omega
theorem flat_all {r:Segs} (h:flat r):(aggV r).cells.all (fun u=>u.oneCell')=true:=by
  rw [Array.all_eq_true_iff_forall_mem]
  intro u hu
  exact h u (by simpa [aggV,Value.cells] using hu)
theorem OSl.someB {T sz l c:Nat} {a:Option Addr} {hs:Hp} {rows:List Segs} (h:OSl T sz (.slice a l c) hs rows) (hl:0<l):∃ b,a=some ⟨b,0,Option.none⟩:=by
  generalize hv:Value.slice a l c=v at h
  cases h with
  | nil=>cases hv;cases hl
  | own b c' _ cur g1 g2 g3 g4 g5=>cases hv;exact ⟨b,rfl⟩
theorem X_fhR2 {f:FuncId} {xs:List Operand} {ats:Array TypeId} {vs:List Value} {Hin Hin2 H1 Hr:Hp} {R:Mem→Value→Hp→Prop} {MJ:Mem} {HJ:Hp} (hi:ops[i]?=some ⟨dst,.call ⟨.value (.func f),xs.toArray,ats⟩,ty,pos,af,gd⟩) (hg:want ops e gd=some true)
    (hf:okFn P f=true) (hx:evs e xs=some vs) (hc:Fh P f vs M (Hin++Hin2) R) (hH:Rem Hin H H1) (hH2:Rem Hin2 H1 Hr) (hJ:∀ v M' Hout w,M.le M'→R M' v Hout→St M' (Hout++Hr) w→St MJ HJ w)
    (hd:∀ a v,Sat n e a→Sat n (putE dst v e) (a.put dst v))
    (hk:∀ v M' Hout,M.le M'→R M' v Hout→XD P n ops Q rest (St MJ HJ) ⟨M',Hout++Hr⟩ (putE dst v e)):XD P n ops Q (i::rest) (St MJ HJ) ⟨M,H⟩ e:=by
  obtain ⟨fn,h1,h2,h3⟩:=VJ hf
  have hP:H.Perm ((Hin++Hin2)++Hr):=(hH.perm.trans (hH2.perm.append_left Hin)).trans (List.append_assoc _ _ _ ▸ List.Perm.refl _)
  refine X_effJ hi rfl hg (fun _ a F w ha hw=>does_call h1 h2 h3 (by simpa using ha.evs hx) ?_)
  exact (hc (F++Hr) w (hw.perm0 ((hP.append_left F).trans (UI F (Hin++Hin2) Hr)))).mono fun e' w' ⟨v,M',Hout,he,hm,hs,hr⟩=>⟨v,he,⟨M',Hout++Hr⟩,_,hs.perm0 (UI F Hout Hr).symm,fun u hu=>hJ v M' Hout u hm hr hu,hd a v ha,hk v M' Hout hm hr⟩
end
end Go.Esp
namespace Go.Proofs.YtajmnjefajknoaaGreat
open Go.Esp
theorem F.bld28:Bld Tryz.prog 28 [[.one (.int .i64 0),Yt 0],[.one (.int .i64 0),Yt 0],[.one (.slice none 0 0)],[.one (.slice none 0 0)]]:=by rw [Us];exact ⟨by kernel_rfl,by kernel_rfl⟩
theorem F.ok142:okFn Tryz.prog 142=true:=by kernel_rfl
theorem F.ok152:okFn Tryz.prog 152=true:=by kernel_rfl
theorem F.zero28:WH Tryz.prog 28=some (aggV [.one (.int .i64 0),Yt 0,.one (.int .i64 0),Yt 0,.one (.slice none 0 0),.one (.slice none 0 0)]):=by rw [Us];kernel_rfl
theorem CloneP_nil (M:Mem) (c:Nat) (l:List ZF) (k:SlK M ZF.segs 21 ⟨none,c,l⟩) (hb:l.length≤1000000):Fh Tryz.prog 106 [.slice none l.length c] M [] (fun M' v Hout=>M'=M∧OSl 25 21 v Hout (l.map ZF.segs)):=by
  have hl0:l=[]:=SlM.none_nil k.h1
  subst hl0
  have hl0:([]:List ZF).map ZF.segs=[]:=rfl
  refine fh_enter Tryz.func106 rfl Tryz.ntmps106 rfl ?_;intro H
  refine ZK (Zm (l:=[0]) rfl ?_);refine ZB ?_;refine Zo (Zn ?_)
  iterate 2 refine ZK ?_
  refine Zm (l:=[0,1]) rfl ?_;refine Zx ?_;refine Y_nil Tryz.underlying26 ?_;refine Zo (Zn (Y_pk [4,2,0] ?_))
  refine YA rfl (fun hc1=>?_) (fun hc1=>?_)
  ·skip
   refine ZK (Zm (l:=[0]) rfl ?_);refine ZB ?_;refine Zo (Zn (Y_pk [2,0] ?_));refine Yo (YS ?_)
   refine Yk (.inr rfl) (.tmp rfl .nil) (fun w hw=>?_)
   exact ⟨_,M,[],rfl,Mem.le.refl M,hw.c,rfl,by rw [hl0];exact OSl.nil⟩
  ·skip
   (exfalso;simp [eqX] at hc1;done)
theorem CloneP_some (M:Mem) (ad:Addr) (c:Nat) (l:List ZF) (k:SlK M ZF.segs 21 ⟨some ad,c,l⟩) (hb:l.length≤1000000):Fh Tryz.prog 106 [.slice (some ad) l.length c] M [] (fun M' v Hout=>M'=M∧OSl 25 21 v Hout (l.map ZF.segs)):=by
  have hml:l.length=(l.map ZF.segs).length:=(List.length_map ..).symm
  refine fh_enter Tryz.func106 rfl Tryz.ntmps106 rfl ?_;intro H
  refine ZK (Zm (l:=[0]) rfl ?_);refine ZB ?_;refine Zo (Zn ?_)
  iterate 2 refine ZK ?_
  refine Zm (l:=[0,1]) rfl ?_;refine Zx ?_;refine Y_nil Tryz.underlying26 ?_;refine Zo (Zn (Y_pk [4,2,0] ?_))
  refine YA rfl (fun hc1=>?_) (fun hc1=>?_)
  ·skip
   (exfalso;simp [eqX] at hc1;done)
  ·skip
   refine YG (Zn (Y_pk [2,0] ?_));refine ZK (Zm (l:=[0,1,2,3]) rfl ?_)
   refine Xq rfl rfl F.elem26 F.zero25 rfl rfl (.nil) rfl rfl (by simp only [List.map_cons,List.map_nil] <;> rfl) rfl ?_;intro b2 hob3
   refine Zx ?_
   refine Vh (m:=1000000) rfl rfl rfl rfl rfl F.elem26 F.zero25 (by exact Ww rfl) rfl (by assumption) (by repeat first|exact Rem.here _|exact Rem.two|apply Rem.skip|apply Rem.over) (SlM.src k.h1 (rows_one ZF.flat _) hml) (by (simp;omega)) (by decide) rfl ?_;intro v6 hs5 ho4;obtain ⟨adv6,cpv6,rfl⟩:=ho4.val
   refine ZB ?_;refine Zo (Zn (Y_pk [2] ?_));refine Yo ?_
   refine Yk (.inr rfl) (.tmp rfl .nil) (fun w hw=>?_)
   exact ⟨_,M,_,rfl,Mem.le.refl M,hw.c,rfl,by assumption⟩
theorem CloneP_ok (M:Mem) (a:Option Addr) (c:Nat) (l:List ZF) (k:SlK M ZF.segs 21 ⟨a,c,l⟩) (hb:l.length≤1000000):Fh Tryz.prog 106 [.slice a l.length c] M [] (fun M' v Hout=>M'=M∧OSl 25 21 v Hout (l.map ZF.segs)):=by
  cases a with
  |none=>exact CloneP_nil M c l k hb
  |some ad=>exact CloneP_some M ad c l k hb
theorem Own_ok (M:Mem) (t:ZQ) (ht0:ZQ.ok M t) (hbig:t.succ.l.length≤40∧t.fingers.l.length≤200):Esp.Fn Tryz.prog 32 [t.enc] M (fun M' v=>UF M' v t.tb):=by
  obtain ⟨⟨Yd,Yi⟩,⟨Ym,Yy⟩,⟨Yq,Yp,ZU⟩,⟨Yg,Yf,ZE⟩⟩:=t
  have YT:SlK M ZF.segs 21 ⟨Yq,Yp,ZU⟩:=ht0.h0
  have WA:SlM M Yq (ZU.map ZF.segs) 21:=YT.h1
  have WI:(ZU.map ZF.segs).length=ZU.length:=List.length_map ..
  have WJ:ZU.length≤9223372036854775807:=YT.h2
  have WK:ZU.length≤Yp:=YT.h3
  have Yu:SlK M ZF.segs 21 ⟨Yg,Yf,ZE⟩:=ht0.h1
  have XQ:SlM M Yg (ZE.map ZF.segs) 21:=Yu.h1
  have Wc:(ZE.map ZF.segs).length=ZE.length:=List.length_map ..
  have XZ:ZE.length≤9223372036854775807:=Yu.h2
  have Wd:ZE.length≤Yf:=Yu.h3
  have hb:=hbig
  simp only at hb
  refine Wu Tryz.func32 rfl Tryz.ntmps32 rfl ?_;intro H
  refine ZK (Zm (l:=[0,1]) rfl ?_)
  refine Xk ?_;intro b1
  refine YW F.zero28 ?_;intro b2
  refine Zo (Zn (Y_pk [2,1] ?_));refine ZK (Zm (l:=[0]) rfl ?_);refine ZB ?_;refine Zo (Zn (ZK (Zm (l:=[0,1,2,3,4]) rfl ?_)));refine Zx ?_;refine Zk F.foff28_2 ?_;refine ZD F.lay26 ?_
  refine Vy (m:=1000000) rfl rfl rfl rfl rfl F.elem26 F.zero25 (by exact Ww rfl) rfl (by exact OSl.nil) (by repeat first|exact Rem.here _|exact Rem.two|apply Rem.skip|apply Rem.over) (WA) ZF.flat (by (simp;omega)) (by decide) rfl ?_;intro v5 hs4 ho3;obtain ⟨adv5,cpv5,rfl⟩:=ho3.val
  refine ZB ?_;refine Zo (Zn (Y_pk [3,2,1] ?_));refine ZK (Zm (l:=[0]) rfl ?_);refine ZB ?_;refine Zo (Zn (ZK (Zm (l:=[0,1,2,3,4]) rfl ?_)));refine Zx ?_;refine Zk F.foff28_3 ?_;refine ZD F.lay26 ?_
  refine Vy (m:=1000000) rfl rfl rfl rfl rfl F.elem26 F.zero25 (by exact Ww rfl) rfl (by exact OSl.nil) (by repeat first|exact Rem.here _|exact Rem.two|apply Rem.skip|apply Rem.over) (XQ) ZF.flat (by (simp;omega)) (by decide) rfl ?_;intro v8 hs7 ho6;obtain ⟨adv8,cpv8,rfl⟩:=ho6.val
  refine ZB ?_;refine Zo (Zn (Y_pk [4,3,2,1] ?_));refine ZK (Zm (l:=[0,1,2,3,4,5,6,7]) rfl ?_);refine Zk F.foff28_0 ?_;refine ZD F.lay25 ?_;refine Zk F.foff28_1 ?_;refine ZD F.lay25 ?_
  iterate 2 refine Zx ?_
  refine Xr rfl rfl F.bld28 (.cons rfl (by constructor) (.cons rfl (by constructor) (.cons rfl (by constructor) (.cons rfl (by constructor) .nil)))) rfl rfl ?_;refine Yh F.lay28 ?_;refine Zo (Zn (Y_pk [2] ?_));refine Yo ?_
  refine Yk (.inr rfl) (.cell rfl (by repeat first|exact List.Mem.head _|refine List.Mem.tail _ ?_|refine List.mem_append_right _ ?_) F.lay28 rfl rfl .nil) (fun w hw=>?_)
  obtain ⟨M1,s1,g1,g2,g3,g4,g5⟩:=OSl.freezeK (f:=ZF.segs) (l:=ZU) (H:=hs7++H) ho3 (hw.c)
  obtain ⟨M2,s2,j1,j2,j3,j4,j5⟩:=OSl.freezeK (f:=ZF.segs) (l:=ZE) ho6 g2
  exact ⟨_,M2,rfl,g1.trans j1,j2,Ws g3 j3 (g5.mono j1) j5 (by rw [g4,j4];rfl)⟩
theorem Mul64_ok (M:Mem):Fs Tryz.prog 152 [.int .u64 1,.int .u64 160] M (fun v=>v=.tuple #[.int .u64 0,.int .u64 160]):=by
  refine Xv Tryz.func152 rfl Tryz.ntmps152 rfl ?_;intro H
  refine ZK (Zm (l:=[0,1]) rfl ?_)
  iterate 2 refine ZB ?_
  refine Zo (Zn (ZK (Zm (l:=[0,1,2]) rfl ?_)));refine Zx ?_;refine X_bits rfl rfl rfl rfl rfl rfl rfl ?_;refine ZB ?_;refine Zo (Zn (Y_pk [6,5,4,0,1] ?_));refine ZK (Zm (l:=[0,1,2]) rfl ?_);refine Zx ?_;refine X_shift rfl rfl rfl rfl (by decide) (shr_lit 32 (by decide)) rfl rfl ?_;refine ZB ?_;refine Zo (Zn (Y_pk [7,6,5,4,0,1] ?_));refine ZK (Zm (l:=[0,1,2]) rfl ?_);refine Zx ?_;refine X_bits rfl rfl rfl rfl rfl rfl rfl ?_;refine ZB ?_;refine Zo (Zn (Y_pk [8,7,6,5,4,0,1] ?_));refine ZK (Zm (l:=[0,1,2]) rfl ?_);refine Zx ?_;refine X_shift rfl rfl rfl rfl (by decide) (shr_lit 32 (by decide)) rfl rfl ?_;refine ZB ?_;refine Zo ?_
  refine Zn (Y_pk [9,8,7,6,5,4,0,1] ?_);refine ZK (Zm (l:=[0,1,2,3]) rfl ?_)
  iterate 2 refine Zx ?_
  refine XE rfl rfl rfl rfl rfl (by exact wrap_u64 _) rfl ?_;refine ZB ?_;refine Zo (Zn (Y_pk [10,9,8,7,6,5,4,0,1] ?_));refine ZK (Zm (l:=[0,1,2,3,4,5,6]) rfl ?_)
  iterate 2 refine Zx ?_
  refine XE rfl rfl rfl rfl rfl (by exact wrap_u64_in (by decide) (by omega)) rfl ?_;refine Zx ?_;refine X_shift rfl rfl rfl rfl (by decide) (shr_lit 32 (by decide)) rfl rfl ?_;refine XE rfl rfl rfl rfl rfl (by exact wrap_u64 _) rfl ?_;refine ZB ?_;refine Zo (Zn (Y_pk [11,9,7,6,5,4,0,1] ?_));refine ZK (Zm (l:=[0,1,2]) rfl ?_);refine Zx ?_;refine X_bits rfl rfl rfl rfl rfl rfl rfl ?_;refine ZB ?_;refine Zo (Zn (Y_pk [12,11,9,7,6,5,4,0,1] ?_));refine ZK (Zm (l:=[0,1,2]) rfl ?_);refine Zx ?_;refine X_shift rfl rfl rfl rfl (by decide) (shr_lit 32 (by decide)) rfl rfl ?_;refine ZB ?_;refine Zo (Zn (Y_pk [13,12,9,7,6,5,4,0,1] ?_));refine ZK (Zm (l:=[0,1,2,3,4,5]) rfl ?_)
  iterate 3 refine Zx ?_
  refine XE rfl rfl rfl rfl rfl (by exact wrap_u64_in (by decide) (by omega)) rfl ?_;refine XE rfl rfl rfl rfl rfl (by exact wrap_u64 _) rfl ?_;refine ZB ?_;refine Zo (Zn (Y_pk [12,13,9,7,5,4,0,1] ?_));refine ZK (Zm (l:=[0,1,2,3,4,5,6,7,8]) rfl ?_)
  iterate 2 refine Zx ?_
  refine XE rfl rfl rfl rfl rfl (by exact wrap_u64_in (by decide) (by omega)) rfl ?_;refine Zx ?_;refine XE rfl rfl rfl rfl rfl (by exact wrap_u64 _) rfl ?_;refine Zx ?_;refine X_shift rfl rfl rfl rfl (by decide) (shr_lit 32 (by decide)) rfl rfl ?_;refine XE rfl rfl rfl rfl rfl (by exact wrap_u64 _) rfl ?_;refine ZB ?_;refine Zo (Zn (Y_pk [4,5,0,1] ?_));refine ZK (Zm (l:=[0,1,2,3]) rfl ?_)
  iterate 2 refine Zx ?_
  refine XE rfl rfl rfl rfl rfl (by exact wrap_u64_in (by decide) (by omega)) rfl ?_;refine ZB ?_;refine Zo (Zn (Y_pk [5,4] ?_));refine Yo ?_
  refine Yk (.inr rfl) (.tmp rfl (.tmp rfl .nil)) (fun w hw=>?_)
  refine ⟨_,rfl,hw.c,?_⟩
  rfl
theorem Mul_ok (M:Mem):Fs Tryz.prog 142 [.int .u64 1,.int .u64 160] M (fun v=>v=.tuple #[.int .u64 0,.int .u64 160]):=by
  refine Xv Tryz.func142 rfl Tryz.ntmps142 rfl ?_;intro H
  refine ZK (Zm (l:=[0,1]) rfl ?_)
  iterate 2 refine ZB ?_
  refine Zo (Zn (ZK (Wn rfl ?_)));refine YG (Zn (ZK (Zm (l:=[0,1,2,3,4,5,6,7]) rfl ?_)))
  iterate 2 refine Zx ?_
  refine X_fs rfl rfl F.ok152 rfl (Mul64_ok M) rfl ?_
  rintro _ rfl
  refine Zx ?_
  iterate 2 refine XU ?_
  iterate 2 refine ZB ?_
  refine Zo (Zn (Y_pk [9,8,5,4] ?_));refine ZK (Zm (l:=[0,1,2,3]) rfl ?_)
  iterate 2 refine Zx ?_
  iterate 2 refine ZB ?_
  refine Zo (Zn (Y_pk [5,4] ?_));refine Yo ?_
  refine Yk (.inr rfl) (.tmp rfl (.tmp rfl .nil)) (fun w hw=>?_)
  refine ⟨_,rfl,hw.c,?_⟩
  rfl
theorem Repeat_ok (M:Mem) (b:Nat) (hs1:Hp) (ho1:OSl 25 21 (.slice (some ⟨b,0,none⟩) 1 1) hs1 [Xf.segs]):Fh Tryz.prog 116 [.slice (some ⟨b,0,none⟩) 1 1,.int .i64 160] M hs1 (fun M' v Hout=>M'=M∧OSl 25 21 v Hout (List.replicate 160 Xf.segs)):=by
  refine fh_enter Tryz.func116 rfl Tryz.ntmps116 rfl ?_;intro H
  refine ZK (Zm (l:=[0]) rfl ?_);refine ZB ?_;refine Zo (Zn ?_)
  iterate 2 refine ZK ?_
  refine Zm (l:=[0,1]) rfl ?_;refine Zx ?_;refine YI ?_;refine Zo (Zn (Y_pk [10,4,0,1] ?_))
  refine YA rfl (fun hc1=>?_) (fun hc1=>?_)
  ·replace hc1:=dT hc1
   (exfalso;omega)
  ·replace hc1:=dF hc1
   refine YG (Zn (Y_pk [4,0,1] ?_));refine ZK (Zm (l:=[0,1,2,3,4,5,6,7,8,9,10]) rfl ?_);refine Zx ?_;refine YY F.elem26 ?_;refine Ug rfl rfl rfl Tryz.underlying3 Tryz.underlying129 (by exact wrap_u64_in (by decide) (by omega)) rfl ?_;refine Zx ?_;refine Ug rfl rfl rfl Tryz.underlying3 Tryz.underlying129 (by exact wrap_u64_in (by decide) (by omega)) rfl ?_;refine X_fs rfl rfl F.ok142 rfl (Mul_ok M) rfl ?_
   rintro _ rfl
   refine Zx ?_
   iterate 2 refine XU ?_
   iterate 2 refine ZB ?_
   refine Zo (Zn (Y_pk [6,5,4,0] ?_))
   iterate 2 refine ZK ?_
   refine Zm (l:=[0,1,2,3,4,5]) rfl ?_;refine Zx ?_;refine YI ?_;refine Zx ?_
   refine Yj 23 rfl (fun hc2=>?_) (fun hc2=>?_)
   ·replace hc2:=dT hc2
    (exfalso;omega)
   ·replace hc2:=dF hc2
    refine Zx ?_;refine YI ?_;refine ZO ?_;refine Zo (Zn (Y_pk [26,6,4,0] ?_))
    refine YA rfl (fun hc3=>?_) (fun hc3=>?_)
    ·replace hc3:=dT hc3
     (exfalso;omega)
    ·replace hc3:=dF hc3
     refine YG (Zn (Y_pk [6,4,0] ?_));refine ZK (Zm (l:=[0,1,2,3]) rfl ?_);refine Zx ?_;refine Ug rfl rfl rfl Tryz.underlying129 Tryz.underlying3 (by exact Xe (by decide) (by omega)) rfl ?_
     refine X_makeSliceO (k:=160) (zr:=ZF.zero.segs) rfl rfl rfl rfl F.elem26 F.zero25 rfl (Ww rfl) rfl (by decide) (by decide) rfl ?_;intro b2 hs2 ho2
     refine ZB ?_;refine Zo (Zn (Y_pk [7,4,0] ?_));refine ZK (Zm (l:=[0,1,2,3]) rfl ?_)
     iterate 2 refine Zx ?_
     refine X_copyO (k:=0) (b:=b2) rfl rfl rfl rfl rfl F.elem26 rfl (by simp) ho2 (by repeat first|exact Rem.here _|exact Rem.two|apply Rem.skip|apply Rem.over) (OSl.srcAll ho1 (by repeat first|exact Rem.here _|exact Rem.two|apply Rem.skip|apply Rem.over) (rep_one (ZF.flat _) 1)) rfl rfl ?_;intro hs3 ho3;rw [rep_first (by decide)] at ho3;replace ho3:OSl 25 21 (.slice (some ⟨b2,0,none⟩) 160 160) hs3 (List.replicate 1 Xf.segs++List.replicate (160-1) ZF.zero.segs):=(by simpa using ho3)
     refine ZB ?_;refine Zo (Zn (Y_pk [8,7,4] ?_));refine ZK (Xc (Y_pk [8,7,4] ?_));refine Vm (Hin:=hs3) (.succ .zero) (by repeat first|exact Rem.here _|exact Rem.two|apply Rem.skip|apply Rem.over) (fun (k:Nat) M1 h1 z=>M1=M∧z=[(8,.int .i64 (k:Int))]∧1≤k∧k≤160∧OSl 25 21 (.slice (some ⟨b2,0,none⟩) 160 160) h1 (List.replicate k Xf.segs++List.replicate (160-k) ZF.zero.segs)) (fun k=>160-k) (1) (⟨rfl,rfl,by omega,by omega,ho3⟩) ?_
     rintro k M1 h1 z hm1 ⟨hM1,rfl,hk1,hk,ho⟩
     subst hM1
     iterate 2 refine ZK ?_
     refine Zm (l:=[0,1,2,3]) rfl ?_
     iterate 2 refine Zx ?_
     refine YY F.elem26 ?_;refine YI ?_;refine Zo (Zn ?_)
     refine YA rfl (fun hc4=>?_) (fun hc4=>?_)
     ·replace hc4:=dT hc4
      refine YG (Zn (Xc (YK (l:=[0,1,2,3,4,5,6,7,8,9]) #[0,0,0,6,0,0,48,126,255,511] _ rfl (by kernel_rfl) (by kernel_rfl) St.drawn (fun _ h=>h) ?_)))
      iterate 3 refine Zx ?_
      refine WY rfl rfl rfl (.some (k:=k) rfl rfl) .none .none F.elem26 (by simp) (by simp only [Option.getD_none,Option.getD_some];omega) (by simp only [Option.getD_none,Option.getD_some];omega) (by simp) (show VC (some ⟨b2,0,none⟩) 21 k 160 160=.slice (some ⟨b2,0+k * 21,none⟩) (160-k) (160-k) from pieceV_in (by omega)) rfl ?_
      iterate 2 refine Zx ?_
      refine WY rfl rfl rfl .none (.some (k:=k) rfl rfl) .none F.elem26 (by simp) (by simp only [Option.getD_none,Option.getD_some];omega) (by simp only [Option.getD_none,Option.getD_some];omega) (by simp) (show VC (some ⟨b2,0,none⟩) 21 0 k 160=.slice (some ⟨b2,0,none⟩) k 160 from pieceV_zero) rfl ?_
      have hcut:OSl 25 21 (.slice (some ⟨b2,0,none⟩) k 160) h1 (List.replicate k Xf.segs):=(by have h9:=OSl.cut (k:=k) (rows:=(List.replicate k Xf.segs++List.replicate (160-k) ZF.zero.segs)) (ho.aZ rfl) (by simp);rw [rep_take] at h9;exact h9)
      refine X_copyO (k:=k) (b:=b2) (m:=min k (160-k)) rfl rfl rfl rfl rfl F.elem26 (by omega) (by simp) ho (by repeat first|exact Rem.here _|exact Rem.two|apply Rem.skip|apply Rem.over) (OSl.srcAll hcut (by repeat first|exact Rem.here _|exact Rem.two|apply Rem.skip|apply Rem.over) (rep_one (ZF.flat _) k)) (by simp) rfl ?_;intro hs5 ho5;rw [rep_next (by omega) (by omega) (by omega)] at ho5;replace ho5:OSl 25 21 (.slice (some ⟨b2,0,none⟩) 160 160) hs5 (List.replicate (k+min k (160-k)) Xf.segs++List.replicate (160-(k+min k (160-k))) ZF.zero.segs):=ho5.aZ (by simp;omega)
      refine XE rfl rfl rfl rfl rfl (by exact Xe (by decide) (by omega)) rfl ?_;refine ZB ?_;refine Zo (XR ?_);refine XJ (a':=[(8,_)]) (k+min k (160-k)) (hs5) (.cons (k:=8) rfl (.cons (k:=7) rfl (.cons (k:=4) rfl (.nil)))) (by exact Mem.le.refl _) (fun w hw=>by first|exact hw|exact hw.c) ?_ ?_
      ·exact ⟨rfl,congrArg (fun v=>[(8,Value.int .i64 v)]) (by simp),by omega,by omega,ho5⟩
      ·omega
     ·replace hc4:=dF hc4
      refine XK ?_
      iterate 2 refine XH ?_
      refine Wh (Zn (Y_pk [7,4] ?_));refine ZK (Zm (l:=[0,1]) rfl ?_);refine Zx ?_;refine ZB ?_;refine Zo (Zn (Y_pk [4] ?_));refine Yo ?_
      refine Yk (.inr rfl) (.tmp rfl .nil) (fun w hw=>?_)
      obtain rfl:k=160:=by omega
      rw [Nat.sub_self,List.replicate_zero,List.append_nil] at ho
      exact ⟨_,M1,h1,rfl,Mem.le.refl _,hw.c,rfl,ho⟩
end Go.Proofs.YtajmnjefajknoaaGreat
namespace Go.Proofs.YtajmnjefajknoaaGreat
open Go.Esp
theorem F.ok116:okFn Tryz.prog 116=true:=by kernel_rfl
theorem New_ok (M:Mem) (self:ZF):Esp.Fn Tryz.prog 63 [self.enc] M (fun M' v=>TabE M' v (newT self)):=by
  obtain ⟨self_addr,self_id⟩:=self
  refine Wu Tryz.func63 rfl Tryz.ntmps63 rfl ?_;intro H
  refine ZK (Zm (l:=[0,1,2]) rfl ?_)
  refine Xk ?_;intro b1
  refine YW F.zero28 ?_;intro b2
  refine ZB ?_;refine Zo (Zn (Y_pk [3,2,1] ?_))
  iterate 2 refine ZK ?_
  refine Zm (l:=[0,1,2,3]) rfl ?_;refine Zk F.foff25_0 ?_;refine ZD F.lay3 ?_;refine X_fs rfl rfl F.ok115 rfl (is_ok _ _) rfl ?_
  rintro _ rfl
  refine Xj ?_;refine Zo (Zn (Y_pk [7,3,2,1] ?_))
  refine YA rfl (fun hc3=>?_) (fun hc3=>?_)
  ·replace hc3:=nT hc3
   refine ZK (Zm (l:=[0,1,2]) rfl ?_);refine Xr rfl rfl F.bld28 (.nil) rfl rfl ?_;refine Yh F.lay28 ?_;refine ZB ?_;refine Zo (Zn (Y_pk [3,2,1] ?_));refine Yo (YS ?_)
   refine Yk (.inr rfl) (.cell rfl (by repeat first|exact List.Mem.head _|refine List.Mem.tail _ ?_|refine List.mem_append_right _ ?_) F.lay28 rfl rfl (.tmp rfl .nil)) (fun w hw=>?_)
   refine ⟨_,M,rfl,Mem.le.refl M,hw.c,?_⟩
   rw [show newT ⟨self_addr,self_id⟩=(Tb.zero,1) from if_neg (by assumption)]
   exact ⟨_,rfl,WL⟩
  ·replace hc3:=nF hc3
   refine YG (Zn (Y_pk [3,2,1] ?_));refine ZK (YK (l:=[0,1,2,3,4,5,6,7]) #[0,0,2,6,14,31,63,127] _ rfl (by kernel_rfl) (by kernel_rfl) St.drawn (fun _ h=>h) ?_);refine ZD F.lay25 ?_;refine X_fs rfl rfl F.ok66 rfl (VG _) rfl ?_
   rintro _ rfl
   refine VA 10 rfl (show _=aggV [.one (.int .i64 (-1)),Yt 0] from rfl) ?_;refine X_fs rfl rfl F.ok66 rfl (VG _) rfl ?_
   rintro _ rfl
   refine VA 11 rfl (show _=aggV [.one (.int .i64 (-1)),Yt 0] from rfl) ?_
   refine Xq rfl rfl F.elem26 F.zero25 rfl rfl (.cons rfl (by constructor) .nil) rfl rfl (by simp only [List.map_cons,List.map_nil] <;> rfl) rfl ?_;intro b4 hob5
   refine Ur rfl rfl F.ok116 rfl (Repeat_ok M _ _ hob5) (by repeat first|exact Rem.here _|exact Rem.two|apply Rem.skip|apply Rem.over) (fun _ _ _ hm hw=>(hw.lower (by exact hm)).c) (YV rfl) ?_
   rintro v9 M1 hs9 hm1 ⟨hM1,ho9⟩;subst M1
   obtain ⟨ad9,cp9,rfl⟩:=ho9.val
   refine Xr rfl rfl F.bld28 (.cons rfl (by constructor) (.cons rfl (by constructor) (.cons rfl (by constructor) .nil))) rfl rfl ?_;refine Yh F.lay28 ?_;refine ZB ?_;refine Zo (Zn (Y_pk [3,2] ?_));refine Yo ?_
   refine Yk (.inr rfl) (.cell rfl (by repeat first|exact List.Mem.head _|refine List.Mem.tail _ ?_|refine List.mem_append_right _ ?_) F.lay28 rfl rfl (.tmp rfl .nil)) (fun w hw=>?_)
   obtain ⟨M9,s1,g1,g2,g3,g4,g5⟩:=OSl.freezeK (f:=ZF.segs) (H:=H) (l:=List.replicate 160 Xf) (by rw [List.map_replicate];exact ho9) (hw.c)
   refine ⟨_,M9,rfl,g1,g2,?_⟩
   rw [show newT ⟨self_addr,self_id⟩=(⟨⟨self_addr,self_id⟩,Xf,[],List.replicate 160 Xf⟩,0) from if_pos (by assumption)]
   exact ⟨_,rfl,Ws (s1:=⟨none,0,[]⟩) rfl g3 SlK.nil g5 (by rw [g4];rfl)⟩
end Go.Proofs.YtajmnjefajknoaaGreat
namespace Go.Proofs.YtajmnjefajknoaaGreat
open Go.Esp
theorem F.ok32:okFn Tryz.prog 32=true:=by kernel_rfl
theorem F.ok70:okFn Tryz.prog 70=true:=by kernel_rfl
theorem F.ok73:okFn Tryz.prog 73=true:=by kernel_rfl
theorem Adopt_ok (M:Mem) (t:ZQ) (first:ZF) (rest:(Sl ZF)) (r:Int) (ht0:ZQ.ok M t) (hrest1:SlK M ZF.segs 21 rest):Esp.Fn Tryz.prog 124 [t.enc,first.enc,Sl.val rest,.int .i64 r] M (fun M' v=>TabE M' v (Vl t.tb first rest.l r)):=by
  obtain ⟨⟨Yd,Yi⟩,⟨Ym,Yy⟩,⟨Yq,Yp,ZU⟩,⟨Yg,Yf,ZE⟩⟩:=t
  obtain ⟨first_addr,first_id⟩:=first
  obtain ⟨rest_a,rest_c,rest_l⟩:=rest
  have YT:SlK M ZF.segs 21 ⟨Yq,Yp,ZU⟩:=ht0.h0
  have WA:SlM M Yq (ZU.map ZF.segs) 21:=YT.h1
  have WI:(ZU.map ZF.segs).length=ZU.length:=List.length_map ..
  have WJ:ZU.length≤9223372036854775807:=YT.h2
  have WK:ZU.length≤Yp:=YT.h3
  have Yu:SlK M ZF.segs 21 ⟨Yg,Yf,ZE⟩:=ht0.h1
  have XQ:SlM M Yg (ZE.map ZF.segs) 21:=Yu.h1
  have Wc:(ZE.map ZF.segs).length=ZE.length:=List.length_map ..
  have XZ:ZE.length≤9223372036854775807:=Yu.h2
  have Wd:ZE.length≤Yf:=Yu.h3
  have k_rest:SlK M ZF.segs 21 ⟨rest_a,rest_c,rest_l⟩:=hrest1
  have s_rest:SlM M rest_a (rest_l.map ZF.segs) 21:=k_rest.h1
  have n_rest:(rest_l.map ZF.segs).length=rest_l.length:=List.length_map ..
  have m_rest:rest_l.length≤9223372036854775807:=k_rest.h2
  have c_rest:rest_l.length≤rest_c:=k_rest.h3
  refine Wu Tryz.func124 rfl Tryz.ntmps124 rfl ?_;intro H
  refine ZK (Zm (l:=[0,1,2,3]) rfl ?_)
  refine Xk ?_;intro b1
  refine Xk ?_;intro b2
  refine YW F.zero28 ?_;intro b3
  refine ZB ?_;refine Zo (Zn (Y_pk [9,8,5,4,2,3] ?_))
  iterate 2 refine ZK ?_
  refine Zm (l:=[0,1,2,3,4,5,6,7,8,9,10,11,12,13,14,15,16]) rfl ?_;refine ZD F.lay28 ?_;refine X_fs rfl rfl F.ok70 rfl (IsT_ok _ ⟨⟨_,_⟩,⟨_,_⟩,⟨_,_,_⟩,⟨_,_,_⟩⟩ (by assumption)) rfl ?_
  rintro _ rfl
  refine Xj ?_;refine Zx ?_
  refine Yj 15 rfl (fun hc4=>?_) (fun hc4=>?_)
  ·replace hc4:=nT hc4
   iterate 4 refine Ya ?_
   refine ZO ?_;refine Zx ?_
   iterate 2 refine Ya ?_
   refine ZO ?_;refine Zx ?_
   iterate 2 refine Ya ?_
   refine ZO ?_;refine Zo (Zn (Y_pk [28,9,8,5,4,2,3] ?_));refine Xi rfl ?_;refine ZK (Zm (l:=[0,1,2]) rfl ?_);refine Xr rfl rfl F.bld28 (.nil) rfl rfl ?_;refine Yh F.lay28 ?_;refine ZB ?_;refine Zo (Zn (Y_pk [9,8,5,4,2,3] ?_));refine Yo (YS ?_)
   refine Yk (.inr rfl) (.cell rfl (by repeat first|exact List.Mem.head _|refine List.Mem.tail _ ?_|refine List.mem_append_right _ ?_) F.lay28 rfl rfl (.tmp rfl .nil)) (fun w hw=>?_)
   refine ⟨_,M,rfl,Mem.le.refl M,hw.c,?_⟩
   rw [show Vl (ZQ.tb ⟨⟨Yd,Yi⟩,⟨Ym,Yy⟩,⟨Yq,Yp,ZU⟩,⟨Yg,Yf,ZE⟩⟩) ⟨first_addr,first_id⟩ rest_l r=(Tb.zero,1) from if_neg (by rintro ⟨g1,g2,g3,g4⟩;first|exact absurd g1 (by assumption)|exact absurd g2 (by assumption)|omega)]
   exact ⟨_,rfl,WL⟩
  ·replace hc4:=nF hc4
   refine ZD F.lay28 ?_;refine ZD F.lay25 ?_;refine X_fs rfl rfl F.ok118 rfl (other_ok _ ⟨⟨_,_⟩,⟨_,_⟩,⟨_,_,_⟩,⟨_,_,_⟩⟩ ⟨_,_⟩) rfl ?_
   rintro _ rfl
   refine Xj ?_;refine ZO ?_;refine Zx ?_
   refine Yj 21 rfl (fun hc5=>?_) (fun hc5=>?_)
   ·replace hc5:=nT hc5
    simp only [ZF.eta,ZQ.eta,ZR.eta,ZP.eta,Yr.eta,ZW.eta,YQ.eta,Yc.eta] at hc5
    iterate 2 refine Ya ?_
    refine ZO ?_;refine Zx ?_
    iterate 2 refine Ya ?_
    refine ZO ?_;refine Zo (Zn (Y_pk [28,9,8,5,4,2,3] ?_));refine Xi rfl ?_;refine ZK (Zm (l:=[0,1,2]) rfl ?_);refine Xr rfl rfl F.bld28 (.nil) rfl rfl ?_;refine Yh F.lay28 ?_;refine ZB ?_;refine Zo (Zn (Y_pk [9,8,5,4,2,3] ?_));refine Yo (YS ?_)
    refine Yk (.inr rfl) (.cell rfl (by repeat first|exact List.Mem.head _|refine List.Mem.tail _ ?_|refine List.mem_append_right _ ?_) F.lay28 rfl rfl (.tmp rfl .nil)) (fun w hw=>?_)
    refine ⟨_,M,rfl,Mem.le.refl M,hw.c,?_⟩
    rw [show Vl (ZQ.tb ⟨⟨Yd,Yi⟩,⟨Ym,Yy⟩,⟨Yq,Yp,ZU⟩,⟨Yg,Yf,ZE⟩⟩) ⟨first_addr,first_id⟩ rest_l r=(Tb.zero,1) from if_neg (by rintro ⟨g1,g2,g3,g4⟩;first|exact absurd g1 (by assumption)|exact absurd g2 (by assumption)|omega)]
    exact ⟨_,rfl,WL⟩
   ·replace hc5:=nF hc5
    simp only [ZF.eta,ZQ.eta,ZR.eta,ZP.eta,Yr.eta,ZW.eta,YQ.eta,Yc.eta] at hc5
    refine Zx ?_;refine YI ?_;refine ZO ?_;refine Zx ?_
    refine Yj 25 rfl (fun hc6=>?_) (fun hc6=>?_)
    ·replace hc6:=dT hc6
     iterate 2 refine Ya ?_
     refine ZO ?_;refine Zo (Zn (Y_pk [28,9,8,5,4,2,3] ?_));refine Xi rfl ?_;refine ZK (Zm (l:=[0,1,2]) rfl ?_);refine Xr rfl rfl F.bld28 (.nil) rfl rfl ?_;refine Yh F.lay28 ?_;refine ZB ?_;refine Zo (Zn (Y_pk [9,8,5,4,2,3] ?_));refine Yo (YS ?_)
     refine Yk (.inr rfl) (.cell rfl (by repeat first|exact List.Mem.head _|refine List.Mem.tail _ ?_|refine List.mem_append_right _ ?_) F.lay28 rfl rfl (.tmp rfl .nil)) (fun w hw=>?_)
     refine ⟨_,M,rfl,Mem.le.refl M,hw.c,?_⟩
     rw [show Vl (ZQ.tb ⟨⟨Yd,Yi⟩,⟨Ym,Yy⟩,⟨Yq,Yp,ZU⟩,⟨Yg,Yf,ZE⟩⟩) ⟨first_addr,first_id⟩ rest_l r=(Tb.zero,1) from if_neg (by rintro ⟨g1,g2,g3,g4⟩;first|exact absurd g1 (by assumption)|exact absurd g2 (by assumption)|omega)]
     exact ⟨_,rfl,WL⟩
    ·replace hc6:=dF hc6
     refine Zx ?_;refine YI ?_;refine ZO ?_;refine Zo (Zn (Y_pk [28,9,8,5,4,2,3] ?_))
     refine YA rfl (fun hc7=>?_) (fun hc7=>?_)
     ·replace hc7:=dT hc7
      refine ZK (Zm (l:=[0,1,2]) rfl ?_);refine Xr rfl rfl F.bld28 (.nil) rfl rfl ?_;refine Yh F.lay28 ?_;refine ZB ?_;refine Zo (Zn (Y_pk [9,8,5,4,2,3] ?_));refine Yo (YS ?_)
      refine Yk (.inr rfl) (.cell rfl (by repeat first|exact List.Mem.head _|refine List.Mem.tail _ ?_|refine List.mem_append_right _ ?_) F.lay28 rfl rfl (.tmp rfl .nil)) (fun w hw=>?_)
      refine ⟨_,M,rfl,Mem.le.refl M,hw.c,?_⟩
      rw [show Vl (ZQ.tb ⟨⟨Yd,Yi⟩,⟨Ym,Yy⟩,⟨Yq,Yp,ZU⟩,⟨Yg,Yf,ZE⟩⟩) ⟨first_addr,first_id⟩ rest_l r=(Tb.zero,1) from if_neg (by rintro ⟨g1,g2,g3,g4⟩;first|exact absurd g1 (by assumption)|exact absurd g2 (by assumption)|omega)]
      exact ⟨_,rfl,WL⟩
     ·replace hc7:=dF hc7
      refine YG (Zn (Y_pk [9,8,5,4,2,3] ?_));refine ZK (Zm (l:=[0,1,2,3]) rfl ?_);refine ZD F.lay25 ?_
      refine Xq rfl rfl F.elem26 F.zero25 rfl rfl (.cons rfl (by constructor) .nil) rfl rfl (by simp only [List.map_cons,List.map_nil] <;> rfl) rfl ?_;intro b8 hob9
      refine Zk F.foff28_2 ?_;refine Yh F.lay26 ?_;refine Zo (Zn (Y_pk [9,8,4,2,3] ?_))
      iterate 2 refine ZK ?_
      refine Zm (l:=[0,1,2]) rfl ?_;refine Zx ?_;refine YY F.elem26 ?_;refine Zx ?_;refine Zo (Zn (Y_pk [35,34,33,9,8,4,3] ?_));refine Xc (Y_pk [35,34,33,9,8,4,3] ?_);refine C_loopO2 (Hin:=[(b1,rowO [.one (.int .i64 Yd),Yt Yi,.one (.int .i64 Ym),Yt Yy,.one (.slice (some ⟨b8,0,none⟩) 1 1),.one (.slice Yg ZE.length Yf)] 28)]) (Hin2:=[(b8,_)]) (.succ .zero) (by repeat first|exact Rem.here _|exact Rem.two|apply Rem.skip|apply Rem.over) (by repeat first|exact Rem.here _|exact Rem.two|apply Rem.skip|apply Rem.over) (fun (k:Nat) M1 h1 z=>∃ (acc:List ZF) (v:Value) (hs:Hp),M1=M∧z=[(35,.int .i64 (k:Int))]∧k≤rest_l.length∧h1=(b1,rowO [.one (.int .i64 Yd),Yt Yi,.one (.int .i64 Ym),Yt Yy,.one v,.one (.slice Yg ZE.length Yf)] 28)::hs∧OSl 25 21 v hs (acc.map ZF.segs)∧(acc.length:Int)≤r∧Ve ⟨Yd,Yi⟩ r [⟨first_addr,first_id⟩] rest_l=Ve ⟨Yd,Yi⟩ r acc (rest_l.drop (k))) (fun k=>rest_l.length-k) (0) (⟨[⟨first_addr,first_id⟩],_,_,rfl,rfl,by omega,rfl,hob9,by simp only [List.length_cons,List.length_nil];omega,by rw [List.drop_zero]⟩) ?_
      rintro k M1 h1 z hm1 ⟨acc,v0,hs0,hM1,rfl,hk,rfl,ho,hr8,hI⟩
      subst hM1
      obtain ⟨ad0,cp0,rfl⟩:=ho.valL
      have hml:(acc.map ZF.segs).length=acc.length:=List.length_map ..
      refine ZK (Zm (l:=[0]) rfl ?_);refine YI ?_;refine Zo (Zn (ZK ?_))
      refine YA rfl (fun hc10=>?_) (fun hc10=>?_)
      ·replace hc10:=dT hc10
       refine YG (Zn (ZK (Xc (ZK (Zm (l:=[0,1,2,3]) rfl ?_)))));refine YR rfl rfl rfl rfl F.elem26 (by rfl) (by omega) (by exact SlM.plain (by assumption) (by (simp;omega))) rfl ?_;refine Xm rfl rfl rfl (by assumption) (by exact XP (by omega)) F.lay25 rfl rfl rfl ?_
       refine YW F.zero25 ?_;intro b11
       refine Yh F.lay25 ?_;refine Zo (Zn ?_)
       iterate 2 refine ZK ?_
       refine Zm (l:=[0,1,2,3,4,5,6,7,8,9,10]) rfl ?_;refine ZD F.lay28 ?_;refine ZD F.lay25 ?_;refine X_fs rfl rfl F.ok118 rfl (other_ok _ ⟨⟨_,_⟩,⟨_,_⟩,⟨_,_,_⟩,⟨_,_,_⟩⟩ ⟨_,_⟩) rfl ?_
       rintro _ rfl
       refine Xj ?_;refine Zx ?_
       refine Yj 43 rfl (fun hc12=>?_) (fun hc12=>?_)
       ·replace hc12:=nT hc12
        simp only [ZF.eta,ZQ.eta,ZR.eta,ZP.eta,Yr.eta,ZW.eta,YQ.eta,Yc.eta] at hc12
        simp only [List.get_eq_getElem] at hc12
        iterate 5 refine Ya ?_
        refine ZO ?_;refine Zo (Zn (Xi rfl ?_));refine XK (XH (K_miss (by decide) ?_))
        iterate 2 refine XH ?_
        refine Wh (Zn (Y_pk [9,8,4] ?_));refine ZK (Zm (l:=[0,1,2]) rfl ?_);refine ZD F.lay28 ?_;refine Yh F.lay28 ?_;refine ZB ?_;refine Zo (Zn (Y_pk [9,8] ?_));refine Yo ?_
        refine Yk (.inr rfl) (.cell rfl (by repeat first|exact List.Mem.head _|refine List.Mem.tail _ ?_|refine List.mem_append_right _ ?_) F.lay28 rfl rfl (.tmp rfl .nil)) (fun w hw=>?_)
        have hacc:Ve ⟨Yd,Yi⟩ r [⟨first_addr,first_id⟩] rest_l=acc:=by
         rw [hI,List.drop_eq_getElem_cons (by omega:k<rest_l.length)]
         unfold Ve
         exact if_pos (by exact .inl (by assumption))
        obtain ⟨M9,s1,g1,g2,g3,g4,g5⟩:=OSl.freezeK (f:=ZF.segs) (H:=H) (l:=acc) ho (hw.c)
        refine ⟨_,M9,rfl,g1,g2,?_⟩
        rw [show Vl (ZQ.tb ⟨⟨Yd,Yi⟩,⟨Ym,Yy⟩,⟨Yq,Yp,ZU⟩,⟨Yg,Yf,ZE⟩⟩) ⟨first_addr,first_id⟩ rest_l r=({ (ZQ.tb ⟨⟨Yd,Yi⟩,⟨Ym,Yy⟩,⟨Yq,Yp,ZU⟩,⟨Yg,Yf,ZE⟩⟩) with succ:=Ve ⟨Yd,Yi⟩ r [⟨first_addr,first_id⟩] rest_l },0) from if_pos ⟨by assumption,by assumption,by omega,by omega⟩]
        exact ⟨_,rfl,Ws g3 (s2:=⟨Yg,Yf,ZE⟩) rfl g5 (Yu.mono g1) (by rw [g4,hacc];rfl)⟩
       ·replace hc12:=nF hc12
        simp only [ZF.eta,ZQ.eta,ZR.eta,ZP.eta,Yr.eta,ZW.eta,YQ.eta,Yc.eta] at hc12
        simp only [List.get_eq_getElem] at hc12
        refine Zk F.foff28_2 ?_;refine ZD F.lay26 ?_;refine YY F.elem26 ?_;refine Zx ?_;refine YI ?_;refine ZO ?_;refine Zo (Zn ?_)
        refine YA rfl (fun hc13=>?_) (fun hc13=>?_)
        ·replace hc13:=dT hc13
         refine XK (XH (K_miss (by decide) ?_))
         iterate 2 refine XH ?_
         refine Wh (Zn (Y_pk [9,8,4] ?_));refine ZK (Zm (l:=[0,1,2]) rfl ?_);refine ZD F.lay28 ?_;refine Yh F.lay28 ?_;refine ZB ?_;refine Zo (Zn (Y_pk [9,8] ?_));refine Yo ?_
         refine Yk (.inr rfl) (.cell rfl (by repeat first|exact List.Mem.head _|refine List.Mem.tail _ ?_|refine List.mem_append_right _ ?_) F.lay28 rfl rfl (.tmp rfl .nil)) (fun w hw=>?_)
         have hacc:Ve ⟨Yd,Yi⟩ r [⟨first_addr,first_id⟩] rest_l=acc:=by
          rw [hI,List.drop_eq_getElem_cons (by omega:k<rest_l.length)]
          unfold Ve
          exact if_pos (by exact .inr (by omega))
         obtain ⟨M9,s1,g1,g2,g3,g4,g5⟩:=OSl.freezeK (f:=ZF.segs) (H:=H) (l:=acc) ho (hw.c)
         refine ⟨_,M9,rfl,g1,g2,?_⟩
         rw [show Vl (ZQ.tb ⟨⟨Yd,Yi⟩,⟨Ym,Yy⟩,⟨Yq,Yp,ZU⟩,⟨Yg,Yf,ZE⟩⟩) ⟨first_addr,first_id⟩ rest_l r=({ (ZQ.tb ⟨⟨Yd,Yi⟩,⟨Ym,Yy⟩,⟨Yq,Yp,ZU⟩,⟨Yg,Yf,ZE⟩⟩) with succ:=Ve ⟨Yd,Yi⟩ r [⟨first_addr,first_id⟩] rest_l },0) from if_pos ⟨by assumption,by assumption,by omega,by omega⟩]
         exact ⟨_,rfl,Ws g3 (s2:=⟨Yg,Yf,ZE⟩) rfl g5 (Yu.mono g1) (by rw [g4,hacc];rfl)⟩
        ·replace hc13:=dF hc13
         refine YG (Zn (ZK (Zm (l:=[0,1,2,3,4,5]) rfl ?_)));refine Zk F.foff28_2 ?_;refine ZD F.lay26 ?_;refine Zk F.foff25_0 ?_;refine ZD F.lay3 ?_;refine X_fo rfl rfl F.ok119 rfl (has_rd _ hs0 ⟨ad0,cp0,acc⟩ _ (ho.rd _) (by show acc.length≤9223372036854775807;omega)) (by repeat first|exact Rem.here _|exact Rem.two|apply Rem.skip|apply Rem.over) (YV rfl) ?_
         rintro _ M1 _ ⟨hM1,rfl⟩;subst M1
         refine Xj ?_;refine Zo (Zn ?_)
         refine YA rfl (fun hc14=>?_) (fun hc14=>?_)
         ·replace hc14:=nT hc14
          simp only [ZF.eta,ZQ.eta,ZR.eta,ZP.eta,Yr.eta,ZW.eta,YQ.eta,Yc.eta] at hc14
          simp only [List.get_eq_getElem] at hc14
          refine Zm (l:=[0,1,2,3,4,5,6]) rfl ?_;refine Zk F.foff28_2 ?_;refine ZD F.lay26 ?_;refine ZD F.lay25 ?_
          refine Xq rfl rfl F.elem26 F.zero25 rfl rfl (.cons rfl (by constructor) .nil) rfl rfl (by simp only [List.map_cons,List.map_nil] <;> rfl) rfl ?_;intro b15 hob16
          refine Vh (m:=1000000) rfl rfl rfl rfl rfl F.elem26 F.zero25 (by exact Ww rfl) rfl (by assumption) (by repeat first|exact Rem.here _|exact Rem.two|apply Rem.skip|apply Rem.over) (Src.own hob16.lens (by (refine Vv ?_;(repeat (first|exact XG|refine XN ?_|(refine YU ?_ ?_;rfl)));done)) rfl (by repeat first|exact List.Mem.head _|refine List.Mem.tail _ ?_|refine List.mem_append_right _ ?_)) (by (simp;omega)) (by decide) rfl ?_;intro v19 hs18 ho17;obtain ⟨adv19,cpv19,rfl⟩:=ho17.valAt (n:=acc.length+1) (by (simp;done))
          refine Zk F.foff28_2 ?_;refine Yh F.lay26 ?_;refine Zo (XR (Zn (Zm (l:=[0,1]) rfl ?_)));refine XE rfl rfl rfl rfl rfl (by exact Xe (by decide) (by omega)) rfl ?_;refine Zx ?_;refine Zo ?_;refine XJ (a':=[(35,_)]) (k+1) ((b1,rowO [.one (.int .i64 Yd),Yt Yi,.one (.int .i64 Ym),Yt Yy,.one (.slice adv19 (acc.length+1) cpv19),.one (.slice Yg ZE.length Yf)] 28)::hs18) (.cons (k:=35) rfl (.cons (k:=34) rfl (.cons (k:=33) rfl (.cons (k:=9) rfl (.cons (k:=8) rfl (.cons (k:=4) rfl (.cons (k:=3) rfl (.nil)))))))) (by exact Mem.le.refl _) (fun w hw=>by first|exact hw|exact hw.c) ?_ ?_
          ·refine ⟨acc++[rest_l[k]],_,_,rfl,rfl,by omega,rfl,by rw [List.map_append];exact ho17,by simp only [List.length_append,List.length_cons,List.length_nil];omega,?_⟩
           rw [hI,List.drop_eq_getElem_cons (by omega:k<rest_l.length)]
           conv=>lhs;unfold Ve
           rw [if_neg (by rintro (h|h);exact h (by assumption);omega),if_neg (by assumption)]
          ·omega
         ·replace hc14:=nF hc14
          simp only [ZF.eta,ZQ.eta,ZR.eta,ZP.eta,Yr.eta,ZW.eta,YQ.eta,Yc.eta] at hc14
          simp only [List.get_eq_getElem] at hc14
          refine YG (XR (Zn (Zm (l:=[0,1]) rfl ?_)));refine XE rfl rfl rfl rfl rfl (by exact Xe (by decide) (by omega)) rfl ?_;refine Zx ?_;refine Zo ?_;refine XJ (a':=[(35,_)]) (k+1) ((b1,rowO [.one (.int .i64 Yd),Yt Yi,.one (.int .i64 Ym),Yt Yy,.one (.slice ad0 acc.length cp0),.one (.slice Yg ZE.length Yf)] 28)::hs0) (.cons (k:=35) rfl (.cons (k:=34) rfl (.cons (k:=33) rfl (.cons (k:=9) rfl (.cons (k:=8) rfl (.cons (k:=4) rfl (.cons (k:=3) rfl (.nil)))))))) (by exact Mem.le.refl _) (fun w hw=>by first|exact hw|exact hw.c) ?_ ?_
          ·refine ⟨acc,_,_,rfl,rfl,by omega,rfl,ho,hr8,?_⟩
           rw [hI,List.drop_eq_getElem_cons (by omega:k<rest_l.length)]
           conv=>lhs;unfold Ve
           rw [if_neg (by rintro (h|h);exact h (by assumption);omega),if_pos (by assumption)]
          ·omega
      ·replace hc10:=dF hc10
       refine XK ?_
       iterate 2 refine XH ?_
       refine Wh (Zn (Y_pk [9,8,4] ?_));refine ZK (Zm (l:=[0,1,2]) rfl ?_);refine ZD F.lay28 ?_;refine Yh F.lay28 ?_;refine ZB ?_;refine Zo (Zn (Y_pk [9,8] ?_));refine Yo ?_
       refine Yk (.inr rfl) (.cell rfl (by repeat first|exact List.Mem.head _|refine List.Mem.tail _ ?_|refine List.mem_append_right _ ?_) F.lay28 rfl rfl (.tmp rfl .nil)) (fun w hw=>?_)
       have hacc:Ve ⟨Yd,Yi⟩ r [⟨first_addr,first_id⟩] rest_l=acc:=by
        rw [hI,show k=rest_l.length from by omega,List.drop_length];simp only [Ve]
       obtain ⟨M9,s1,g1,g2,g3,g4,g5⟩:=OSl.freezeK (f:=ZF.segs) (H:=H) (l:=acc) ho (hw.c)
       refine ⟨_,M9,rfl,g1,g2,?_⟩
       rw [show Vl (ZQ.tb ⟨⟨Yd,Yi⟩,⟨Ym,Yy⟩,⟨Yq,Yp,ZU⟩,⟨Yg,Yf,ZE⟩⟩) ⟨first_addr,first_id⟩ rest_l r=({ (ZQ.tb ⟨⟨Yd,Yi⟩,⟨Ym,Yy⟩,⟨Yq,Yp,ZU⟩,⟨Yg,Yf,ZE⟩⟩) with succ:=Ve ⟨Yd,Yi⟩ r [⟨first_addr,first_id⟩] rest_l },0) from if_pos ⟨by assumption,by assumption,by omega,by omega⟩]
       exact ⟨_,rfl,Ws g3 (s2:=⟨Yg,Yf,ZE⟩) rfl g5 (Yu.mono g1) (by rw [g4,hacc];rfl)⟩
theorem rAdopt_ok (M:Mem) (t:ZQ) (first:ZF) (rest:(Sl ZF)) (r:Int) (ht0:ZQ.ok M t) (hrest1:SlK M ZF.segs 21 rest):Esp.Fn Tryz.prog 130 [t.enc,first.enc,Sl.val rest,.int .i64 r] M (fun M' v=>TabE M' v (Vl t.tb first rest.l r)):=by
  obtain ⟨⟨Yd,Yi⟩,⟨Ym,Yy⟩,⟨Yq,Yp,ZU⟩,⟨Yg,Yf,ZE⟩⟩:=t
  obtain ⟨first_addr,first_id⟩:=first
  obtain ⟨rest_a,rest_c,rest_l⟩:=rest
  have YT:SlK M ZF.segs 21 ⟨Yq,Yp,ZU⟩:=ht0.h0
  have WA:SlM M Yq (ZU.map ZF.segs) 21:=YT.h1
  have WI:(ZU.map ZF.segs).length=ZU.length:=List.length_map ..
  have WJ:ZU.length≤9223372036854775807:=YT.h2
  have WK:ZU.length≤Yp:=YT.h3
  have Yu:SlK M ZF.segs 21 ⟨Yg,Yf,ZE⟩:=ht0.h1
  have XQ:SlM M Yg (ZE.map ZF.segs) 21:=Yu.h1
  have Wc:(ZE.map ZF.segs).length=ZE.length:=List.length_map ..
  have XZ:ZE.length≤9223372036854775807:=Yu.h2
  have Wd:ZE.length≤Yf:=Yu.h3
  have k_rest:SlK M ZF.segs 21 ⟨rest_a,rest_c,rest_l⟩:=hrest1
  have s_rest:SlM M rest_a (rest_l.map ZF.segs) 21:=k_rest.h1
  have n_rest:(rest_l.map ZF.segs).length=rest_l.length:=List.length_map ..
  have m_rest:rest_l.length≤9223372036854775807:=k_rest.h2
  have c_rest:rest_l.length≤rest_c:=k_rest.h3
  refine Wu Tryz.func130 rfl Tryz.ntmps130 rfl ?_;intro H
  refine ZK (Zm (l:=[0,1,2,3]) rfl ?_)
  refine Xk ?_;intro b1
  refine Xk ?_;intro b2
  refine YW F.zero28 ?_;intro b3
  refine ZB ?_;refine Zo (Zn (Y_pk [9,8,5,4,2,3] ?_))
  iterate 2 refine ZK ?_
  refine Zm (l:=[0,1,2,3,4,5,6,7,8,9,10,11,12,13,14,15,16]) rfl ?_;refine ZD F.lay28 ?_;refine X_fs rfl rfl F.ok73 rfl (rIsT_ok _ ⟨⟨_,_⟩,⟨_,_⟩,⟨_,_,_⟩,⟨_,_,_⟩⟩ (by assumption)) rfl ?_
  rintro _ rfl
  refine Xj ?_;refine Zx ?_
  refine Yj 16 rfl (fun hc4=>?_) (fun hc4=>?_)
  ·replace hc4:=nT hc4
   iterate 4 refine Ya ?_
   refine ZO ?_;refine Zx ?_
   iterate 2 refine Ya ?_
   refine ZO ?_;refine Zx ?_
   iterate 2 refine Ya ?_
   refine ZO ?_;refine Zo (Zn (Y_pk [29,9,8,5,4,2,3] ?_));refine Xi rfl ?_;refine ZK (Zm (l:=[0,1,2]) rfl ?_);refine Xr rfl rfl F.bld28 (.nil) rfl rfl ?_;refine Yh F.lay28 ?_;refine ZB ?_;refine Zo (Zn (Y_pk [9,8,5,4,2,3] ?_));refine Yo (YS ?_)
   refine Yk (.inr rfl) (.cell rfl (by repeat first|exact List.Mem.head _|refine List.Mem.tail _ ?_|refine List.mem_append_right _ ?_) F.lay28 rfl rfl (.tmp rfl .nil)) (fun w hw=>?_)
   refine ⟨_,M,rfl,Mem.le.refl M,hw.c,?_⟩
   rw [show Vl (ZQ.tb ⟨⟨Yd,Yi⟩,⟨Ym,Yy⟩,⟨Yq,Yp,ZU⟩,⟨Yg,Yf,ZE⟩⟩) ⟨first_addr,first_id⟩ rest_l r=(Tb.zero,1) from if_neg (by rintro ⟨g1,g2,g3,g4⟩;first|exact absurd g1 (by assumption)|exact absurd g2 (by assumption)|omega)]
   exact ⟨_,rfl,WL⟩
  ·replace hc4:=nF hc4
   refine ZD F.lay28 ?_;refine ZD F.lay25 ?_;refine X_fs rfl rfl F.ok55 rfl (VI _ ⟨⟨_,_⟩,⟨_,_⟩,⟨_,_,_⟩,⟨_,_,_⟩⟩ ⟨_,_⟩) rfl ?_
   rintro _ rfl
   refine Xj ?_;refine ZO ?_;refine Zx ?_
   refine Yj 22 rfl (fun hc5=>?_) (fun hc5=>?_)
   ·replace hc5:=nT hc5
    simp only [ZF.eta,ZQ.eta,ZR.eta,ZP.eta,Yr.eta,ZW.eta,YQ.eta,Yc.eta] at hc5
    iterate 2 refine Ya ?_
    refine ZO ?_;refine Zx ?_
    iterate 2 refine Ya ?_
    refine ZO ?_;refine Zo (Zn (Y_pk [29,9,8,5,4,2,3] ?_));refine Xi rfl ?_;refine ZK (Zm (l:=[0,1,2]) rfl ?_);refine Xr rfl rfl F.bld28 (.nil) rfl rfl ?_;refine Yh F.lay28 ?_;refine ZB ?_;refine Zo (Zn (Y_pk [9,8,5,4,2,3] ?_));refine Yo (YS ?_)
    refine Yk (.inr rfl) (.cell rfl (by repeat first|exact List.Mem.head _|refine List.Mem.tail _ ?_|refine List.mem_append_right _ ?_) F.lay28 rfl rfl (.tmp rfl .nil)) (fun w hw=>?_)
    refine ⟨_,M,rfl,Mem.le.refl M,hw.c,?_⟩
    rw [show Vl (ZQ.tb ⟨⟨Yd,Yi⟩,⟨Ym,Yy⟩,⟨Yq,Yp,ZU⟩,⟨Yg,Yf,ZE⟩⟩) ⟨first_addr,first_id⟩ rest_l r=(Tb.zero,1) from if_neg (by rintro ⟨g1,g2,g3,g4⟩;first|exact absurd g1 (by assumption)|exact absurd g2 (by assumption)|omega)]
    exact ⟨_,rfl,WL⟩
   ·replace hc5:=nF hc5
    simp only [ZF.eta,ZQ.eta,ZR.eta,ZP.eta,Yr.eta,ZW.eta,YQ.eta,Yc.eta] at hc5
    refine Zx ?_;refine YI ?_;refine ZO ?_;refine Zx ?_
    refine Yj 26 rfl (fun hc6=>?_) (fun hc6=>?_)
    ·replace hc6:=dT hc6
     iterate 2 refine Ya ?_
     refine ZO ?_;refine Zo (Zn (Y_pk [29,9,8,5,4,2,3] ?_));refine Xi rfl ?_;refine ZK (Zm (l:=[0,1,2]) rfl ?_);refine Xr rfl rfl F.bld28 (.nil) rfl rfl ?_;refine Yh F.lay28 ?_;refine ZB ?_;refine Zo (Zn (Y_pk [9,8,5,4,2,3] ?_));refine Yo (YS ?_)
     refine Yk (.inr rfl) (.cell rfl (by repeat first|exact List.Mem.head _|refine List.Mem.tail _ ?_|refine List.mem_append_right _ ?_) F.lay28 rfl rfl (.tmp rfl .nil)) (fun w hw=>?_)
     refine ⟨_,M,rfl,Mem.le.refl M,hw.c,?_⟩
     rw [show Vl (ZQ.tb ⟨⟨Yd,Yi⟩,⟨Ym,Yy⟩,⟨Yq,Yp,ZU⟩,⟨Yg,Yf,ZE⟩⟩) ⟨first_addr,first_id⟩ rest_l r=(Tb.zero,1) from if_neg (by rintro ⟨g1,g2,g3,g4⟩;first|exact absurd g1 (by assumption)|exact absurd g2 (by assumption)|omega)]
     exact ⟨_,rfl,WL⟩
    ·replace hc6:=dF hc6
     refine Zx ?_;refine YI ?_;refine ZO ?_;refine Zo (Zn (Y_pk [29,9,8,5,4,2,3] ?_))
     refine YA rfl (fun hc7=>?_) (fun hc7=>?_)
     ·replace hc7:=dT hc7
      refine ZK (Zm (l:=[0,1,2]) rfl ?_);refine Xr rfl rfl F.bld28 (.nil) rfl rfl ?_;refine Yh F.lay28 ?_;refine ZB ?_;refine Zo (Zn (Y_pk [9,8,5,4,2,3] ?_));refine Yo (YS ?_)
      refine Yk (.inr rfl) (.cell rfl (by repeat first|exact List.Mem.head _|refine List.Mem.tail _ ?_|refine List.mem_append_right _ ?_) F.lay28 rfl rfl (.tmp rfl .nil)) (fun w hw=>?_)
      refine ⟨_,M,rfl,Mem.le.refl M,hw.c,?_⟩
      rw [show Vl (ZQ.tb ⟨⟨Yd,Yi⟩,⟨Ym,Yy⟩,⟨Yq,Yp,ZU⟩,⟨Yg,Yf,ZE⟩⟩) ⟨first_addr,first_id⟩ rest_l r=(Tb.zero,1) from if_neg (by rintro ⟨g1,g2,g3,g4⟩;first|exact absurd g1 (by assumption)|exact absurd g2 (by assumption)|omega)]
      exact ⟨_,rfl,WL⟩
     ·replace hc7:=dF hc7
      refine YG (Zn (Y_pk [9,8,5,4,2,3] ?_));refine ZK (Zm (l:=[0,1,2,3]) rfl ?_);refine ZD F.lay28 ?_;refine X_fn rfl rfl F.ok32 rfl (Own_ok M ⟨⟨Yd,Yi⟩,⟨Ym,Yy⟩,⟨Yq,Yp,ZU⟩,⟨Yg,Yf,ZE⟩⟩ ht0 (isTb_small (t:=⟨⟨Yd,Yi⟩,⟨Ym,Yy⟩,⟨Yq,Yp,ZU⟩,⟨Yg,Yf,ZE⟩⟩) (by assumption))) rfl ?_
      rintro _ M1 hm1 ⟨⟨⟨oa,oi⟩,⟨oq,oj⟩,⟨o1a,o1c,o1l⟩,⟨o2a,o2c,o2l⟩⟩,rfl,hot,hok⟩
      simp only [ZQ.tb,Tb.mk.injEq,ZF.mk.injEq] at hot
      obtain ⟨⟨rfl,rfl⟩,⟨rfl,rfl⟩,rfl,rfl⟩:=hot
      refine YW F.zero28 ?_;intro b8
      refine Yh F.lay28 ?_;refine Zo (Zn (Y_pk [10,9,8,5,4,2,3] ?_));refine ZK (Zm (l:=[0,1,2]) rfl ?_);refine ZD F.lay25 ?_
      refine Xq rfl rfl F.elem26 F.zero25 rfl rfl (.cons rfl (by constructor) .nil) rfl rfl (by simp only [List.map_cons,List.map_nil] <;> rfl) rfl ?_;intro b9 hob10
      refine ZB ?_;refine Zo (Zn (Y_pk [11,10,9,8,4,2,3] ?_))
      iterate 2 refine ZK ?_
      refine Zm (l:=[0]) rfl ?_;refine ZB ?_;refine Zo (Zn (Xc (Y_pk [12,11,10,9,8,4,2,3] ?_)));refine Vm (Hin:=[(b9,_)]) (.succ (.succ .zero)) (by repeat first|exact Rem.here _|exact Rem.two|apply Rem.skip|apply Rem.over) (fun (k:Nat) M2 h1 z=>∃ (acc:List ZF) (v:Value),M2=M1∧z=[(12,.int .i64 (k:Int)),(11,v)]∧k≤rest_l.length∧OSl 25 21 v h1 (acc.map ZF.segs)∧(acc.length:Int)≤r∧Ve ⟨oa,oi⟩ r [⟨first_addr,first_id⟩] rest_l=Ve ⟨oa,oi⟩ r acc (rest_l.drop (k))) (fun k=>rest_l.length-k) (0) (⟨[⟨first_addr,first_id⟩],_,rfl,rfl,by omega,hob10,by simp only [List.length_cons,List.length_nil];omega,by rw [List.drop_zero]⟩) ?_
      rintro k M2 h1 z hm2 ⟨acc,v0,hM2,rfl,hk,ho,hr8,hI⟩
      subst hM2
      obtain ⟨ad0,cp0,rfl⟩:=ho.valL
      have hml:(acc.map ZF.segs).length=acc.length:=List.length_map ..
      iterate 2 refine ZK ?_
      refine YK (l:=[0,1,2,3,4,5,6,7,8,9,10,11,12,13,14,15,16,17]) #[0,0,2,7,15,31,63,31,255,511,1023,2047,2047,2047,14335,30719,65535,131071] _ rfl (by kernel_rfl) (by kernel_rfl) St.drawn (fun _ h=>h) ?_
      iterate 2 refine Zx ?_
      refine YY F.elem26 ?_;refine YI ?_;refine Zx ?_
      refine Yj 39 rfl (fun hc11=>?_) (fun hc11=>?_)
      ·replace hc11:=dT hc11
       refine Zx ?_;refine YY F.elem26 ?_;refine Zx ?_;refine YI ?_;refine ZO ?_;refine Zx ?_
       refine Yj 45 rfl (fun hc12=>?_) (fun hc12=>?_)
       ·replace hc12:=dT hc12
        refine ZD F.lay28 ?_
        iterate 2 refine Zx ?_
        refine YR rfl rfl rfl rfl F.elem26 (by rfl) (by omega) (by exact SlM.plain (by assumption) (by (simp;omega))) rfl ?_;refine Xm rfl rfl rfl (by exact SlM.mono (by assumption) (by assumption)) (by exact XP (by omega)) F.lay25 rfl rfl rfl ?_;refine X_fs rfl rfl F.ok55 rfl (VI _ ⟨⟨_,_⟩,⟨_,_⟩,⟨_,_,_⟩,⟨_,_,_⟩⟩ ⟨_,_⟩) rfl ?_
        rintro _ rfl
        refine ZO ?_;refine Zo (Zn ?_)
        refine YA rfl (fun hc13=>?_) (fun hc13=>?_)
        ·replace hc13:=dT hc13
         simp only [ZF.eta,ZQ.eta,ZR.eta,ZP.eta,Yr.eta,ZW.eta,YQ.eta,Yc.eta] at hc13
         simp only [List.get_eq_getElem] at hc13
         refine YG (Zn (ZK (Xc (ZK (Zm (l:=[0,1,2,3,4,5,6,7]) rfl ?_)))))
         iterate 3 refine Zx ?_
         refine YR rfl rfl rfl rfl F.elem26 (by rfl) (by omega) (by exact SlM.plain (by assumption) (by (simp;omega))) rfl ?_;refine XC rfl rfl rfl (by exact SlM.plain (by assumption) (by (simp;omega))) F.foff25_0 rfl ?_;refine Xm rfl rfl rfl (by exact SlM.mono (by assumption) (by assumption)) (by exact XP (by omega)) F.lay3 rfl rfl rfl ?_;refine X_fo rfl rfl F.ok122 rfl (rhas_rd _ h1 ⟨ad0,cp0,acc⟩ _ (ho.rd _) (by show acc.length≤9223372036854775807;omega)) (by repeat first|exact Rem.here _|exact Rem.two|apply Rem.skip|apply Rem.over) (YV rfl) ?_
         rintro _ M1 _ ⟨hM1,rfl⟩;subst M1
         refine Xj ?_;refine Zo (Zn ?_)
         refine YA rfl (fun hc14=>?_) (fun hc14=>?_)
         ·replace hc14:=nT hc14
          simp only [ZF.eta,ZQ.eta,ZR.eta,ZP.eta,Yr.eta,ZW.eta,YQ.eta,Yc.eta] at hc14
          simp only [List.get_eq_getElem] at hc14
          refine Zm (l:=[0,1,2,3,4,5,6,7]) rfl ?_
          iterate 3 refine Zx ?_
          refine YR rfl rfl rfl rfl F.elem26 (by rfl) (by omega) (by exact SlM.plain (by assumption) (by (simp;omega))) rfl ?_;refine Xm rfl rfl rfl (by exact SlM.mono (by assumption) (by assumption)) (by exact XP (by omega)) F.lay25 rfl rfl rfl ?_
          refine Xq rfl rfl F.elem26 F.zero25 rfl rfl (.cons rfl (by constructor) .nil) rfl rfl (by simp only [List.map_cons,List.map_nil] <;> rfl) rfl ?_;intro b15 hob16
          refine Vh (m:=1000000) rfl rfl rfl rfl rfl F.elem26 F.zero25 (by exact Ww rfl) rfl (by assumption) (by repeat first|exact Rem.here _|exact Rem.two|apply Rem.skip|apply Rem.over) (Src.own hob16.lens (by (refine Vv ?_;(repeat (first|exact XG|refine XN ?_|(refine YU ?_ ?_;rfl)));done)) rfl (by repeat first|exact List.Mem.head _|refine List.Mem.tail _ ?_|refine List.mem_append_right _ ?_)) (by (simp;omega)) (by decide) rfl ?_;intro v19 hs18 ho17;obtain ⟨adv19,cpv19,rfl⟩:=ho17.valAt (n:=acc.length+1) (by (simp;done))
          refine ZB ?_;refine Zo (XR (Zn (Zm (l:=[0,1,2]) rfl ?_)));refine Zx ?_;refine XE rfl rfl rfl rfl rfl (by exact Xe (by decide) (by omega)) rfl ?_;refine ZB ?_;refine Zo ?_;refine XJ (a':=[(12,_),(11,_)]) (k+1) (hs18) (.cons (k:=12) rfl (.cons (k:=11) rfl (.cons (k:=10) rfl (.cons (k:=9) rfl (.cons (k:=8) rfl (.cons (k:=4) rfl (.cons (k:=2) rfl (.cons (k:=3) rfl (.nil))))))))) (by exact Mem.le.refl _) (fun w hw=>by first|exact hw|exact hw.c) ?_ ?_
          ·refine ⟨acc++[rest_l[k]],_,rfl,rfl,by omega,by rw [List.map_append];exact ho17,by simp only [List.length_append,List.length_cons,List.length_nil];omega,?_⟩
           rw [hI,List.drop_eq_getElem_cons (by omega:k<rest_l.length)]
           conv=>lhs;unfold Ve
           rw [if_neg (by rintro (h|h);exact h (by assumption);omega),if_neg (by assumption)]
          ·omega
         ·replace hc14:=nF hc14
          simp only [ZF.eta,ZQ.eta,ZR.eta,ZP.eta,Yr.eta,ZW.eta,YQ.eta,Yc.eta] at hc14
          simp only [List.get_eq_getElem] at hc14
          refine YG (XR (Zn (Zm (l:=[0,1,2]) rfl ?_)));refine Zx ?_;refine XE rfl rfl rfl rfl rfl (by exact Xe (by decide) (by omega)) rfl ?_;refine ZB ?_;refine Zo ?_;refine XJ (a':=[(12,_),(11,_)]) (k+1) (h1) (.cons (k:=12) rfl (.cons (k:=11) rfl (.cons (k:=10) rfl (.cons (k:=9) rfl (.cons (k:=8) rfl (.cons (k:=4) rfl (.cons (k:=2) rfl (.cons (k:=3) rfl (.nil))))))))) (by exact Mem.le.refl _) (fun w hw=>by first|exact hw|exact hw.c) ?_ ?_
          ·refine ⟨acc,_,rfl,rfl,by omega,ho,hr8,?_⟩
           rw [hI,List.drop_eq_getElem_cons (by omega:k<rest_l.length)]
           conv=>lhs;unfold Ve
           rw [if_neg (by rintro (h|h);exact h (by assumption);omega),if_pos (by assumption)]
          ·omega
        ·replace hc13:=dF hc13
         simp only [ZF.eta,ZQ.eta,ZR.eta,ZP.eta,Yr.eta,ZW.eta,YQ.eta,Yc.eta] at hc13
         simp only [List.get_eq_getElem] at hc13
         refine XK ?_
         iterate 2 refine XH ?_
         refine Wh (Zn (Y_pk [11,10,9,8] ?_));refine ZK (Zm (l:=[0,1,2]) rfl ?_);refine Zx ?_;refine Zk F.foff28_2 ?_;refine Yh F.lay26 ?_;refine Zo (Zn (Y_pk [10,9,8] ?_));refine ZK (Zm (l:=[0,1,2]) rfl ?_);refine ZD F.lay28 ?_;refine Yh F.lay28 ?_;refine ZB ?_;refine Zo (Zn (Y_pk [9,8] ?_));refine Yo ?_
         refine Yk (.inr rfl) (.cell rfl (by repeat first|exact List.Mem.head _|refine List.Mem.tail _ ?_|refine List.mem_append_right _ ?_) F.lay28 rfl rfl (.tmp rfl .nil)) (fun w hw=>?_)
         have hacc:Ve ⟨oa,oi⟩ r [⟨first_addr,first_id⟩] rest_l=acc:=by
          rw [hI,List.drop_eq_getElem_cons (by omega:k<rest_l.length)]
          unfold Ve
          exact if_pos (by exact .inl (by assumption))
         obtain ⟨M9,s1,g1,g2,g3,g4,g5⟩:=OSl.freezeK (f:=ZF.segs) (H:=H) (l:=acc) ho (hw.c)
         refine ⟨_,M9,rfl,hm1.trans g1,g2,?_⟩
         rw [show Vl (ZQ.tb ⟨⟨oa,oi⟩,⟨oq,oj⟩,⟨Yq,Yp,o1l⟩,⟨Yg,Yf,o2l⟩⟩) ⟨first_addr,first_id⟩ rest_l r=({ (ZQ.tb ⟨⟨oa,oi⟩,⟨oq,oj⟩,⟨Yq,Yp,o1l⟩,⟨Yg,Yf,o2l⟩⟩) with succ:=Ve ⟨oa,oi⟩ r [⟨first_addr,first_id⟩] rest_l },0) from if_pos ⟨by assumption,by assumption,by omega,by omega⟩]
         exact ⟨_,rfl,Ws g3 (s2:=⟨o2a,o2c,o2l⟩) rfl g5 (hok.h1.mono g1) (by rw [g4,hacc];rfl)⟩
       ·replace hc12:=dF hc12
        iterate 6 refine Ya ?_
        refine ZO ?_;refine Zo (Zn (Wn rfl ?_));refine XK ?_
        iterate 2 refine XH ?_
        refine Wh (Zn (Y_pk [11,10,9,8] ?_));refine ZK (Zm (l:=[0,1,2]) rfl ?_);refine Zx ?_;refine Zk F.foff28_2 ?_;refine Yh F.lay26 ?_;refine Zo (Zn (Y_pk [10,9,8] ?_));refine ZK (Zm (l:=[0,1,2]) rfl ?_);refine ZD F.lay28 ?_;refine Yh F.lay28 ?_;refine ZB ?_;refine Zo (Zn (Y_pk [9,8] ?_));refine Yo ?_
        refine Yk (.inr rfl) (.cell rfl (by repeat first|exact List.Mem.head _|refine List.Mem.tail _ ?_|refine List.mem_append_right _ ?_) F.lay28 rfl rfl (.tmp rfl .nil)) (fun w hw=>?_)
        have hacc:Ve ⟨oa,oi⟩ r [⟨first_addr,first_id⟩] rest_l=acc:=by
         rw [hI,List.drop_eq_getElem_cons (by omega:k<rest_l.length)]
         unfold Ve
         exact if_pos (by exact .inr (by omega))
        obtain ⟨M9,s1,g1,g2,g3,g4,g5⟩:=OSl.freezeK (f:=ZF.segs) (H:=H) (l:=acc) ho (hw.c)
        refine ⟨_,M9,rfl,hm1.trans g1,g2,?_⟩
        rw [show Vl (ZQ.tb ⟨⟨oa,oi⟩,⟨oq,oj⟩,⟨Yq,Yp,o1l⟩,⟨Yg,Yf,o2l⟩⟩) ⟨first_addr,first_id⟩ rest_l r=({ (ZQ.tb ⟨⟨oa,oi⟩,⟨oq,oj⟩,⟨Yq,Yp,o1l⟩,⟨Yg,Yf,o2l⟩⟩) with succ:=Ve ⟨oa,oi⟩ r [⟨first_addr,first_id⟩] rest_l },0) from if_pos ⟨by assumption,by assumption,by omega,by omega⟩]
        exact ⟨_,rfl,Ws g3 (s2:=⟨o2a,o2c,o2l⟩) rfl g5 (hok.h1.mono g1) (by rw [g4,hacc];rfl)⟩
      ·replace hc11:=dF hc11
       iterate 4 refine Ya ?_
       refine ZO ?_;refine Zx ?_
       iterate 6 refine Ya ?_
       refine ZO ?_;refine Zo (Zn (Wn rfl ?_));refine XK ?_
       iterate 2 refine XH ?_
       refine Wh (Zn (Y_pk [11,10,9,8] ?_));refine ZK (Zm (l:=[0,1,2]) rfl ?_);refine Zx ?_;refine Zk F.foff28_2 ?_;refine Yh F.lay26 ?_;refine Zo (Zn (Y_pk [10,9,8] ?_));refine ZK (Zm (l:=[0,1,2]) rfl ?_);refine ZD F.lay28 ?_;refine Yh F.lay28 ?_;refine ZB ?_;refine Zo (Zn (Y_pk [9,8] ?_));refine Yo ?_
       refine Yk (.inr rfl) (.cell rfl (by repeat first|exact List.Mem.head _|refine List.Mem.tail _ ?_|refine List.mem_append_right _ ?_) F.lay28 rfl rfl (.tmp rfl .nil)) (fun w hw=>?_)
       have hacc:Ve ⟨oa,oi⟩ r [⟨first_addr,first_id⟩] rest_l=acc:=by
        rw [hI,show k=rest_l.length from by omega,List.drop_length];simp only [Ve]
       obtain ⟨M9,s1,g1,g2,g3,g4,g5⟩:=OSl.freezeK (f:=ZF.segs) (H:=H) (l:=acc) ho (hw.c)
       refine ⟨_,M9,rfl,hm1.trans g1,g2,?_⟩
       rw [show Vl (ZQ.tb ⟨⟨oa,oi⟩,⟨oq,oj⟩,⟨Yq,Yp,o1l⟩,⟨Yg,Yf,o2l⟩⟩) ⟨first_addr,first_id⟩ rest_l r=({ (ZQ.tb ⟨⟨oa,oi⟩,⟨oq,oj⟩,⟨Yq,Yp,o1l⟩,⟨Yg,Yf,o2l⟩⟩) with succ:=Ve ⟨oa,oi⟩ r [⟨first_addr,first_id⟩] rest_l },0) from if_pos ⟨by assumption,by assumption,by omega,by omega⟩]
       exact ⟨_,rfl,Ws g3 (s2:=⟨o2a,o2c,o2l⟩) rfl g5 (hok.h1.mono g1) (by rw [g4,hacc];rfl)⟩
end Go.Proofs.YtajmnjefajknoaaGreat
namespace Go.Proofs.YtajmnjefajknoaaGreat
open Go.Esp
theorem Learn_ok (M:Mem) (t:ZQ) (p:ZF) (ht0:ZQ.ok M t):Esp.Fn Tryz.prog 107 [t.enc,p.enc] M (fun M' v=>UF M' v (Vs t.tb p)):=by
  obtain ⟨⟨Yd,Yi⟩,⟨Ym,Yy⟩,⟨Yq,Yp,ZU⟩,⟨Yg,Yf,ZE⟩⟩:=t
  obtain ⟨Xa,p_id⟩:=p
  have YT:SlK M ZF.segs 21 ⟨Yq,Yp,ZU⟩:=ht0.h0
  have WA:SlM M Yq (ZU.map ZF.segs) 21:=YT.h1
  have WI:(ZU.map ZF.segs).length=ZU.length:=List.length_map ..
  have WJ:ZU.length≤9223372036854775807:=YT.h2
  have WK:ZU.length≤Yp:=YT.h3
  have Yu:SlK M ZF.segs 21 ⟨Yg,Yf,ZE⟩:=ht0.h1
  have XQ:SlM M Yg (ZE.map ZF.segs) 21:=Yu.h1
  have Wc:(ZE.map ZF.segs).length=ZE.length:=List.length_map ..
  have XZ:ZE.length≤9223372036854775807:=Yu.h2
  have Wd:ZE.length≤Yf:=Yu.h3
  refine Wu Tryz.func107 rfl Tryz.ntmps107 rfl ?_;intro H
  refine ZK (Zm (l:=[0,1,2]) rfl ?_)
  refine Xk ?_;intro b1
  refine Xk ?_;intro b2
  refine YW F.zero28 ?_;intro b3
  refine Zo (Zn (Y_pk [4,3,2] ?_));refine ZK (Xc (ZK ?_))
  iterate 2 refine Xc ?_
  refine ZK (Xc ?_)
  iterate 3 refine ZK ?_
  refine Zm (l:=[0,1,2,3,4,5,6,7,8,9]) rfl ?_;refine ZD F.lay28 ?_;refine X_fs rfl rfl F.ok70 rfl (IsT_ok _ ⟨⟨_,_⟩,⟨_,_⟩,⟨_,_,_⟩,⟨_,_,_⟩⟩ (by assumption)) rfl ?_
  rintro _ rfl
  refine Xj ?_;refine Zx ?_
  refine Yj 9 rfl (fun hc4=>?_) (fun hc4=>?_)
  ·replace hc4:=nT hc4
   iterate 4 refine Ya ?_
   refine ZO ?_;refine ZB ?_;refine Zo (Zn (Y_pk [5,4,3,2] ?_));refine Xi rfl ?_;refine XK ?_
   iterate 2 refine XH ?_
   refine Wh (Zn (Y_pk [4,3,2] ?_));refine XK ?_
   iterate 2 refine K_miss (by decide) ?_
   refine XH (Wh (Zn (Y_pk [4,2] ?_)));refine ZK (Zm (l:=[0,1]) rfl ?_);refine ZD F.lay28 ?_;refine Yh F.lay28 ?_;refine Zo (Zn (Y_pk [4] ?_));refine Yo ?_
   refine Yk (.inr rfl) (.cell rfl (by repeat first|exact List.Mem.head _|refine List.Mem.tail _ ?_|refine List.mem_append_right _ ?_) F.lay28 rfl rfl .nil) (fun w hw=>?_)
   refine ⟨_,M,rfl,Mem.le.refl M,hw.c,?_⟩
   clear hw
   exact Ws (s1:=⟨Yq,Yp,ZU⟩) (s2:=⟨Yg,Yf,ZE⟩) rfl rfl YT Yu (by unfold Vs;rw [if_neg (by rintro ⟨g1,g2,g3⟩;first|exact absurd g1 (by assumption)|exact absurd g2 (by assumption)|(rcases g3 with g3|g3;exact absurd g3 (by assumption);exact absurd g3 (by assumption)))];rfl)
  ·replace hc4:=nF hc4
   refine ZD F.lay28 ?_;refine ZD F.lay25 ?_;refine X_fs rfl rfl F.ok118 rfl (other_ok _ ⟨⟨_,_⟩,⟨_,_⟩,⟨_,_,_⟩,⟨_,_,_⟩⟩ ⟨_,_⟩) rfl ?_
   rintro _ rfl
   refine Xj ?_;refine ZO ?_;refine ZB ?_;refine Zo (Zn (Y_pk [5,4,3,2] ?_))
   refine YA rfl (fun hc5=>?_) (fun hc5=>?_)
   ·replace hc5:=nT hc5
    simp only [ZF.eta,ZQ.eta,ZR.eta,ZP.eta,Yr.eta,ZW.eta,YQ.eta,Yc.eta] at hc5
    refine XK ?_
    iterate 2 refine XH ?_
    refine Wh (Zn (Y_pk [4,3,2] ?_));refine XK ?_
    iterate 2 refine K_miss (by decide) ?_
    refine XH (Wh (Zn (Y_pk [4,2] ?_)));refine ZK (Zm (l:=[0,1]) rfl ?_);refine ZD F.lay28 ?_;refine Yh F.lay28 ?_;refine Zo (Zn (Y_pk [4] ?_));refine Yo ?_
    refine Yk (.inr rfl) (.cell rfl (by repeat first|exact List.Mem.head _|refine List.Mem.tail _ ?_|refine List.mem_append_right _ ?_) F.lay28 rfl rfl .nil) (fun w hw=>?_)
    refine ⟨_,M,rfl,Mem.le.refl M,hw.c,?_⟩
    clear hw
    exact Ws (s1:=⟨Yq,Yp,ZU⟩) (s2:=⟨Yg,Yf,ZE⟩) rfl rfl YT Yu (by unfold Vs;rw [if_neg (by rintro ⟨g1,g2,g3⟩;first|exact absurd g1 (by assumption)|exact absurd g2 (by assumption)|(rcases g3 with g3|g3;exact absurd g3 (by assumption);exact absurd g3 (by assumption)))];rfl)
   ·replace hc5:=nF hc5
    simp only [ZF.eta,ZQ.eta,ZR.eta,ZP.eta,Yr.eta,ZW.eta,YQ.eta,Yc.eta] at hc5
    refine YG (Zn (Y_pk [4,3,2] ?_))
    iterate 2 refine ZK ?_
    refine YK (l:=[0,1,2,3,4]) #[0,1,0,7,15] _ rfl (by kernel_rfl) (by kernel_rfl) St.drawn (fun _ h=>h) ?_;refine Zk F.foff28_1 ?_;refine ZD F.lay25 ?_;refine X_fs rfl rfl F.ok66 rfl (VG _) rfl ?_
    rintro _ rfl
    refine VA 18 rfl (show _=aggV [.one (.int .i64 (-1)),Yt 0] from rfl) ?_
    refine WF (m:=20) rfl rfl rfl rfl rfl (by constructor) (by constructor) F.lay25 F.kinds25 rfl F.guard25 (by exact XL (⟨_,_⟩)) (by exact XL (⟨_,_⟩)) rfl rfl rfl ?_;intro c6 he7
    replace he7:c6=true↔Segs.cells _=Segs.cells _:=he7
    obtain rfl:=eqD he7 (ZF.inj (x:=⟨_,_⟩) (y:=⟨_,_⟩));clear he7
    refine ZB ?_;refine Zo (Zn (Y_pk [15,4,3,2] ?_))
    refine YA rfl (fun hc8=>?_) (fun hc8=>?_)
    ·replace hc8:=dT hc8
     refine XK ?_
     iterate 2 refine XH ?_
     refine K_miss (by decide) ?_;refine XH (Wh (XR (Zn (Y_pk [4,3,2] ?_))));refine ZK (Zm (l:=[0,1,2]) rfl ?_);refine ZD F.lay25 ?_;refine Zk F.foff28_1 ?_;refine Yh F.lay25 ?_;refine Zo (Zn (Y_pk [4,2] ?_));refine XK (Wh (Zn (ZK (Zm (l:=[0,1]) rfl ?_))));refine ZD F.lay28 ?_;refine Yh F.lay28 ?_;refine Zo (Zn (Y_pk [4] ?_));refine Yo ?_
     refine Yk (.inr rfl) (.cell rfl (by repeat first|exact List.Mem.head _|refine List.Mem.tail _ ?_|refine List.mem_append_right _ ?_) F.lay28 rfl rfl .nil) (fun w hw=>?_)
     refine ⟨_,M,rfl,Mem.le.refl M,hw.c,?_⟩
     clear hw
     exact Ws (s1:=⟨Yq,Yp,ZU⟩) (s2:=⟨Yg,Yf,ZE⟩) rfl rfl YT Yu (by unfold Vs;rw [if_pos ⟨by assumption,by assumption,by first|exact .inl (by assumption)|exact .inr (by assumption)⟩];rfl)
    ·replace hc8:=dF hc8
     refine YG (Zn (Y_pk [4,3,2] ?_));refine ZK (Zm (l:=[0,1,2,3,4,5,6,7,8,9]) rfl ?_);refine Zk F.foff28_1 ?_;refine Zk F.foff25_1 ?_;refine ZD F.lay23 ?_;refine Zk F.foff25_1 ?_;refine ZD F.lay23 ?_;refine Zk F.foff28_0 ?_;refine Zk F.foff25_1 ?_;refine ZD F.lay23 ?_;refine X_fs rfl rfl F.ok114 rfl (Open_ok _ _ _ _) rfl ?_
     rintro _ rfl
     refine ZB ?_;refine Zo (Zn (Y_pk [20,4,3,2] ?_))
     refine YA rfl (fun hc9=>?_) (fun hc9=>?_)
     ·replace hc9:=dT hc9
      refine XK (XH (K_miss (by decide) ?_));refine XH (K_miss (by decide) ?_);refine Wh (Zn (Y_pk [4,3,2] ?_));refine ZK (Zm (l:=[0,1,2]) rfl ?_);refine ZD F.lay25 ?_;refine Zk F.foff28_1 ?_;refine Yh F.lay25 ?_;refine Zo (Zn (Y_pk [4,2] ?_));refine XK (Wh (Zn (ZK (Zm (l:=[0,1]) rfl ?_))));refine ZD F.lay28 ?_;refine Yh F.lay28 ?_;refine Zo (Zn (Y_pk [4] ?_));refine Yo ?_
      refine Yk (.inr rfl) (.cell rfl (by repeat first|exact List.Mem.head _|refine List.Mem.tail _ ?_|refine List.mem_append_right _ ?_) F.lay28 rfl rfl .nil) (fun w hw=>?_)
      refine ⟨_,M,rfl,Mem.le.refl M,hw.c,?_⟩
      clear hw
      exact Ws (s1:=⟨Yq,Yp,ZU⟩) (s2:=⟨Yg,Yf,ZE⟩) rfl rfl YT Yu (by unfold Vs;rw [if_pos ⟨by assumption,by assumption,by first|exact .inl (by assumption)|exact .inr (by assumption)⟩];rfl)
     ·replace hc9:=dF hc9
      refine YG (Zn (Y_pk [4,3,2] ?_));refine XK (K_miss (by decide) ?_);refine XH ?_
      iterate 2 refine K_miss (by decide) ?_
      refine XH (Wh (Zn (Y_pk [4,2] ?_)));refine ZK (Zm (l:=[0,1]) rfl ?_);refine ZD F.lay28 ?_;refine Yh F.lay28 ?_;refine Zo (Zn (Y_pk [4] ?_));refine Yo ?_
      refine Yk (.inr rfl) (.cell rfl (by repeat first|exact List.Mem.head _|refine List.Mem.tail _ ?_|refine List.mem_append_right _ ?_) F.lay28 rfl rfl .nil) (fun w hw=>?_)
      refine ⟨_,M,rfl,Mem.le.refl M,hw.c,?_⟩
      clear hw
      exact Ws (s1:=⟨Yq,Yp,ZU⟩) (s2:=⟨Yg,Yf,ZE⟩) rfl rfl YT Yu (by unfold Vs;rw [if_neg (by rintro ⟨g1,g2,g3⟩;first|exact absurd g1 (by assumption)|exact absurd g2 (by assumption)|(rcases g3 with g3|g3;exact absurd g3 (by assumption);exact absurd g3 (by assumption)))];rfl)
theorem rLearn_ok (M:Mem) (t:ZQ) (p:ZF) (ht0:ZQ.ok M t) (hbig:t.succ.l.length≤40∧t.fingers.l.length≤200):Esp.Fn Tryz.prog 60 [t.enc,p.enc] M (fun M' v=>UF M' v (Vs t.tb p)):=by
  obtain ⟨⟨Yd,Yi⟩,⟨Ym,Yy⟩,⟨Yq,Yp,ZU⟩,⟨Yg,Yf,ZE⟩⟩:=t
  obtain ⟨Xa,p_id⟩:=p
  have YT:SlK M ZF.segs 21 ⟨Yq,Yp,ZU⟩:=ht0.h0
  have WA:SlM M Yq (ZU.map ZF.segs) 21:=YT.h1
  have WI:(ZU.map ZF.segs).length=ZU.length:=List.length_map ..
  have WJ:ZU.length≤9223372036854775807:=YT.h2
  have WK:ZU.length≤Yp:=YT.h3
  have Yu:SlK M ZF.segs 21 ⟨Yg,Yf,ZE⟩:=ht0.h1
  have XQ:SlM M Yg (ZE.map ZF.segs) 21:=Yu.h1
  have Wc:(ZE.map ZF.segs).length=ZE.length:=List.length_map ..
  have XZ:ZE.length≤9223372036854775807:=Yu.h2
  have Wd:ZE.length≤Yf:=Yu.h3
  simp only at hbig
  refine Wu Tryz.func60 rfl Tryz.ntmps60 rfl ?_;intro H
  refine ZK (Zm (l:=[0,1,2]) rfl ?_)
  refine Xk ?_;intro b1
  refine Xk ?_;intro b2
  refine YW F.zero28 ?_;intro b3
  refine Zo (Zn (Y_pk [4,3,2] ?_));refine ZK (Zm (l:=[0,1,2,3]) rfl ?_);refine ZD F.lay28 ?_;refine X_fn rfl rfl F.ok32 rfl (Own_ok M ⟨⟨Yd,Yi⟩,⟨Ym,Yy⟩,⟨Yq,Yp,ZU⟩,⟨Yg,Yf,ZE⟩⟩ ht0 hbig) rfl ?_
  rintro _ M1 hm1 ⟨⟨⟨oa,oi⟩,⟨oq,oj⟩,⟨o1a,o1c,o1l⟩,⟨o2a,o2c,o2l⟩⟩,rfl,hot,hok⟩
  simp only [ZQ.tb,Tb.mk.injEq,ZF.mk.injEq] at hot
  obtain ⟨⟨rfl,rfl⟩,⟨rfl,rfl⟩,rfl,rfl⟩:=hot
  refine YW F.zero28 ?_;intro b4
  refine Yh F.lay28 ?_;refine Zo (Zn (Y_pk [5,4,3,2] ?_))
  iterate 2 refine ZK ?_
  refine YK (l:=[0,1,2,3,4,5,6,7,8,9,10,11,12,13,14,15,16,17,18,19,20,21,22,23]) #[0,1,3,7,7,31,63,127,255,511,255,2047,4095,8191,16383,32767,8191,73727,8191,270335,794623,2097151,4194303,8388607] _ rfl (by kernel_rfl) (by kernel_rfl) St.drawn (fun _ h=>h) ?_;refine ZD F.lay28 ?_;refine X_fs rfl rfl F.ok73 rfl (rIsT_ok _ ⟨⟨_,_⟩,⟨_,_⟩,⟨_,_,_⟩,⟨_,_,_⟩⟩ (by exact ZQ.ok.mono (by assumption) (by assumption))) rfl ?_
  rintro _ rfl
  refine Zx ?_
  refine Yj 10 rfl (fun hc5=>?_) (fun hc5=>?_)
  ·replace hc5:=dT hc5
   refine ZD F.lay28 ?_;refine ZD F.lay25 ?_;refine X_fs rfl rfl F.ok55 rfl (VI _ ⟨⟨_,_⟩,⟨_,_⟩,⟨_,_,_⟩,⟨_,_,_⟩⟩ ⟨_,_⟩) rfl ?_
   rintro _ rfl
   refine ZO ?_;refine Zx ?_
   refine Yj 15 rfl (fun hc6=>?_) (fun hc6=>?_)
   ·replace hc6:=dT hc6
    simp only [ZF.eta,ZQ.eta,ZR.eta,ZP.eta,Yr.eta,ZW.eta,YQ.eta,Yc.eta] at hc6
    refine Zk F.foff28_1 ?_;refine ZD F.lay25 ?_;refine X_fs rfl rfl F.ok67 rfl (rNone_ok _) rfl ?_
    rintro _ rfl
    refine VA 18 rfl (show _=aggV [.one (.int .i64 (-1)),Yt 0] from rfl) ?_
    refine WF (m:=20) rfl rfl rfl rfl rfl (by constructor) (by constructor) F.lay25 F.kinds25 rfl F.guard25 (by exact XL (⟨_,_⟩)) (by exact XL (⟨_,_⟩)) rfl rfl rfl ?_;intro c7 he8
    replace he8:c7=true↔Segs.cells _=Segs.cells _:=he8
    obtain rfl:=eqD he8 (ZF.inj (x:=⟨_,_⟩) (y:=⟨_,_⟩));clear he8
    refine Zx ?_
    refine Yj 20 rfl (fun hc9=>?_) (fun hc9=>?_)
    ·replace hc9:=dT hc9
     iterate 9 refine Ya ?_
     iterate 2 refine ZO ?_
     refine Zo (Zn (Y_pk [31,5,4,3] ?_));refine Xi rfl ?_;refine Zm (l:=[0,1,2]) rfl ?_;refine ZD F.lay25 ?_;refine Zk F.foff28_1 ?_;refine Yh F.lay25 ?_;refine Zo (Zn (Y_pk [5,4] ?_));refine ZK (Zm (l:=[0,1]) rfl ?_);refine ZD F.lay28 ?_;refine Yh F.lay28 ?_;refine Zo (Zn (Y_pk [4] ?_));refine Yo ?_
     refine Yk (.inr rfl) (.cell rfl (by repeat first|exact List.Mem.head _|refine List.Mem.tail _ ?_|refine List.mem_append_right _ ?_) F.lay28 rfl rfl .nil) (fun w hw=>?_)
     refine ⟨_,M1,rfl,hm1,hw.c,?_⟩
     clear hw
     exact Ws (s1:=⟨o1a,o1c,o1l⟩) (s2:=⟨o2a,o2c,o2l⟩) rfl rfl hok.h0 hok.h1 (by unfold Vs;rw [if_pos ⟨by assumption,by assumption,by first|exact .inl (by assumption)|exact .inr (by assumption)⟩];rfl)
    ·replace hc9:=dF hc9
     refine Zk F.foff28_1 ?_;refine Zk F.foff25_1 ?_;refine ZD F.lay23 ?_;refine Zk F.foff25_1 ?_;refine ZD F.lay23 ?_;refine Zk F.foff28_0 ?_;refine Zk F.foff25_1 ?_;refine ZD F.lay23 ?_;refine X_fs rfl rfl F.ok113 rfl (rOpen_ok _ _ _ _) rfl ?_
     rintro _ rfl
     iterate 2 refine ZO ?_
     refine Zo (Zn (Y_pk [31,5,4,3] ?_))
     refine YA rfl (fun hc10=>?_) (fun hc10=>?_)
     ·replace hc10:=dT hc10
      refine Zm (l:=[0,1,2]) rfl ?_;refine ZD F.lay25 ?_;refine Zk F.foff28_1 ?_;refine Yh F.lay25 ?_;refine Zo (Zn (Y_pk [5,4] ?_));refine ZK (Zm (l:=[0,1]) rfl ?_);refine ZD F.lay28 ?_;refine Yh F.lay28 ?_;refine Zo (Zn (Y_pk [4] ?_));refine Yo ?_
      refine Yk (.inr rfl) (.cell rfl (by repeat first|exact List.Mem.head _|refine List.Mem.tail _ ?_|refine List.mem_append_right _ ?_) F.lay28 rfl rfl .nil) (fun w hw=>?_)
      refine ⟨_,M1,rfl,hm1,hw.c,?_⟩
      clear hw
      exact Ws (s1:=⟨o1a,o1c,o1l⟩) (s2:=⟨o2a,o2c,o2l⟩) rfl rfl hok.h0 hok.h1 (by unfold Vs;rw [if_pos ⟨by assumption,by assumption,by first|exact .inl (by assumption)|exact .inr (by assumption)⟩];rfl)
     ·replace hc10:=dF hc10
      refine YG (Zn (Y_pk [5,4] ?_));refine ZK (Zm (l:=[0,1]) rfl ?_);refine ZD F.lay28 ?_;refine Yh F.lay28 ?_;refine Zo (Zn (Y_pk [4] ?_));refine Yo ?_
      refine Yk (.inr rfl) (.cell rfl (by repeat first|exact List.Mem.head _|refine List.Mem.tail _ ?_|refine List.mem_append_right _ ?_) F.lay28 rfl rfl .nil) (fun w hw=>?_)
      refine ⟨_,M1,rfl,hm1,hw.c,?_⟩
      clear hw
      exact Ws (s1:=⟨o1a,o1c,o1l⟩) (s2:=⟨o2a,o2c,o2l⟩) rfl rfl hok.h0 hok.h1 (by unfold Vs;rw [if_neg (by rintro ⟨g1,g2,g3⟩;first|exact absurd g1 (by assumption)|exact absurd g2 (by assumption)|(rcases g3 with g3|g3;exact absurd g3 (by assumption);exact absurd g3 (by assumption)))];rfl)
   ·replace hc6:=dF hc6
    simp only [ZF.eta,ZQ.eta,ZR.eta,ZP.eta,Yr.eta,ZW.eta,YQ.eta,Yc.eta] at hc6
    iterate 15 refine Ya ?_
    refine ZO ?_;refine Zo (Zn (Y_pk [31,5,4,3] ?_));refine Wn rfl ?_;refine YG (Zn (Y_pk [5,4] ?_));refine ZK (Zm (l:=[0,1]) rfl ?_);refine ZD F.lay28 ?_;refine Yh F.lay28 ?_;refine Zo (Zn (Y_pk [4] ?_));refine Yo ?_
    refine Yk (.inr rfl) (.cell rfl (by repeat first|exact List.Mem.head _|refine List.Mem.tail _ ?_|refine List.mem_append_right _ ?_) F.lay28 rfl rfl .nil) (fun w hw=>?_)
    refine ⟨_,M1,rfl,hm1,hw.c,?_⟩
    clear hw
    exact Ws (s1:=⟨o1a,o1c,o1l⟩) (s2:=⟨o2a,o2c,o2l⟩) rfl rfl hok.h0 hok.h1 (by unfold Vs;rw [if_neg (by rintro ⟨g1,g2,g3⟩;first|exact absurd g1 (by assumption)|exact absurd g2 (by assumption)|(rcases g3 with g3|g3;exact absurd g3 (by assumption);exact absurd g3 (by assumption)))];rfl)
  ·replace hc5:=dF hc5
   iterate 3 refine Ya ?_
   refine ZO ?_;refine Zx ?_
   iterate 15 refine Ya ?_
   refine ZO ?_;refine Zo (Zn (Y_pk [31,5,4,3] ?_));refine Wn rfl ?_;refine YG (Zn (Y_pk [5,4] ?_));refine ZK (Zm (l:=[0,1]) rfl ?_);refine ZD F.lay28 ?_;refine Yh F.lay28 ?_;refine Zo (Zn (Y_pk [4] ?_));refine Yo ?_
   refine Yk (.inr rfl) (.cell rfl (by repeat first|exact List.Mem.head _|refine List.Mem.tail _ ?_|refine List.mem_append_right _ ?_) F.lay28 rfl rfl .nil) (fun w hw=>?_)
   refine ⟨_,M1,rfl,hm1,hw.c,?_⟩
   clear hw
   exact Ws (s1:=⟨o1a,o1c,o1l⟩) (s2:=⟨o2a,o2c,o2l⟩) rfl rfl hok.h0 hok.h1 (by unfold Vs;rw [if_neg (by rintro ⟨g1,g2,g3⟩;first|exact absurd g1 (by assumption)|exact absurd g2 (by assumption)|(rcases g3 with g3|g3;exact absurd g3 (by assumption);exact absurd g3 (by assumption)))];rfl)
end Go.Proofs.YtajmnjefajknoaaGreat
namespace Go.Proofs.YtajmnjefajknoaaGreat
open Go.Esp
theorem DeleteFP_no (M:Mem) (Hc:Hp) (a:Option Addr) (c:Nat) (l:List ZF) (hs:Hp) (ho:OSl 25 21 (.slice a l.length c) hs (l.map ZF.segs)) (bl:l.length≤1000000) (g:FuncId) (caps:List Value) (p:ZF→Bool) (hok:okFn Tryz.prog g=true) (hc:∀ x:ZF,Fo Tryz.prog g ([x.enc]++caps) M Hc (fun M' v=>M'=M∧v=.bool (p x))) (h:idxF p l=-1):Fh Tryz.prog 140 [.slice a l.length c,.func (.func g) #[] caps.toArray] M (hs++Hc) (fun M' v Hout=>M'=M∧∃ hs',Hout=hs'++Hc∧OSl 25 21 v hs' ((kept p l).map ZF.segs)):=by
  refine Wt (fun H=>hs++(Hc++H)) (fun _=>List.append_assoc _ _ _) Tryz.func140 rfl Tryz.ntmps140 rfl ?_;intro H
  refine ZK (Zm (l:=[0]) rfl ?_);refine ZB ?_;refine Zo (Zn (ZK (Zm (l:=[0,1,2,3]) rfl ?_)))
  iterate 2 refine Zx ?_
  refine X_fo rfl rfl F.ok123 rfl (IndexFP_rd M (hs++Hc) ⟨a,c,l⟩ g caps p ((ho.rd M).app Hc) (by show l.length≤9223372036854775807;omega) hok (fun x _=>((hc x).frame hs).perm List.perm_append_comm)) (by repeat first|exact Rem.here _|exact Rem.two|apply Rem.skip|apply Rem.over) (YV rfl) ?_
  rintro _ M1 _ ⟨hM1,rfl⟩;subst M1
  rw [h]
  refine ZB ?_;refine Zo (Zn (Y_pk [5,4,0,1] ?_))
  iterate 2 refine ZK ?_
  refine Zm (l:=[0,1]) rfl ?_;refine Zx ?_;refine YI ?_;refine Zo (Zn (Y_pk [12,5,4,0,1] ?_))
  refine YA rfl (fun hc1=>?_) (fun hc1=>?_)
  ·replace hc1:=dT hc1
   simp only [ZF.eta,ZQ.eta,ZR.eta,ZP.eta,Yr.eta,ZW.eta,YQ.eta,Yc.eta] at hc1
   refine ZK (Zm (l:=[0,1]) rfl ?_);refine Zx ?_;refine ZB ?_;refine Zo (Zn (Y_pk [4,5,0,1] ?_));refine Yo (YS ?_)
   refine Yk (.inr rfl) (.tmp rfl .nil) (fun w hw=>?_)
   exact ⟨_,M,hs++Hc,rfl,Mem.le.refl M,hw.c,rfl,hs,rfl,by rw [kept_none h];exact ho⟩
  ·replace hc1:=dF hc1
   simp only [ZF.eta,ZQ.eta,ZR.eta,ZP.eta,Yr.eta,ZW.eta,YQ.eta,Yc.eta] at hc1
   (exfalso;simp [eqX] at hc1;done)
theorem DeleteFP_yes (M:Mem) (Hc:Hp) (b:Nat) (c:Nat) (l:List ZF) (hs:Hp) (ho:OSl 25 21 (.slice (some ⟨b,0,none⟩) l.length c) hs (l.map ZF.segs)) (bl:l.length≤1000000) (g:FuncId) (caps:List Value) (p:ZF→Bool) (hok:okFn Tryz.prog g=true) (hc:∀ x:ZF,Fo Tryz.prog g ([x.enc]++caps) M Hc (fun M' v=>M'=M∧v=.bool (p x))) (i0:Nat) (h:idxF p l=(i0:Nat)) (hi0:i0<l.length) (hk0:kept p (l.take (i0+1))=l.take i0):Fh Tryz.prog 140 [.slice (some ⟨b,0,none⟩) l.length c,.func (.func g) #[] caps.toArray] M (hs++Hc) (fun M' v Hout=>M'=M∧∃ hs',Hout=hs'++Hc∧OSl 25 21 v hs' ((kept p l).map ZF.segs)):=by
  refine Wt (fun H=>hs++(Hc++H)) (fun _=>List.append_assoc _ _ _) Tryz.func140 rfl Tryz.ntmps140 rfl ?_;intro H
  refine ZK (Zm (l:=[0]) rfl ?_);refine ZB ?_;refine Zo (Zn (ZK (Zm (l:=[0,1,2,3]) rfl ?_)))
  iterate 2 refine Zx ?_
  refine X_fo rfl rfl F.ok123 rfl (IndexFP_rd M (hs++Hc) ⟨some ⟨b,0,none⟩,c,l⟩ g caps p ((ho.rd M).app Hc) (by show l.length≤9223372036854775807;omega) hok (fun x _=>((hc x).frame hs).perm List.perm_append_comm)) (by repeat first|exact Rem.here _|exact Rem.two|apply Rem.skip|apply Rem.over) (YV rfl) ?_
  rintro _ M1 _ ⟨hM1,rfl⟩;subst M1
  rw [h]
  refine ZB ?_;refine Zo (Zn (Y_pk [5,4,0,1] ?_))
  iterate 2 refine ZK ?_
  refine Zm (l:=[0,1]) rfl ?_;refine Zx ?_;refine YI ?_;refine Zo (Zn (Y_pk [12,5,4,0,1] ?_))
  refine YA rfl (fun hc1=>?_) (fun hc1=>?_)
  ·skip
   replace hc1:=dT hc1
   (exfalso;omega)
  ·skip
   replace hc1:=dF hc1
   refine YG (Zn (Y_pk [5,4,0,1] ?_))
   iterate 2 refine ZK ?_
   refine Zm (l:=[0,1,2]) rfl ?_;refine Zx ?_;refine XE rfl rfl rfl rfl rfl (by exact Xe (by decide) (by omega)) rfl ?_;refine ZB ?_;refine Zo (Zn (Y_pk [6,5,4,0,1] ?_));refine Xc (Y_pk [5,6,4,0,1] ?_);refine Vm (Hin:=hs) (.succ (.succ .zero)) (by repeat first|exact Rem.here _|exact Rem.two|apply Rem.skip|apply Rem.over) (fun (j:Nat) M1 h1 z=>∃ (i:Nat) (w:List ZF),M1=M∧z=[(5,.int .i64 (i:Int)),(6,.int .i64 (j:Int))]∧i<j∧j≤l.length∧w.length=l.length∧w.take i=kept p (l.take j)∧w.drop j=l.drop j∧i=(kept p (l.take j)).length∧OSl 25 21 (.slice (some ⟨b,0,none⟩) l.length c) h1 (w.map ZF.segs)) (fun j=>l.length-j) (i0+1) (⟨i0,l,rfl,rfl,by omega,by omega,rfl,hk0.symm,rfl,by rw [hk0];simp;omega,ho⟩) ?_
   rintro j M1 h1 z hm1 ⟨i,w,hM1,rfl,hij,hj,hwl,hw1,hw2,hi9,ho1⟩
   subst hM1
   have hnw:(w.map ZF.segs).length=w.length:=List.length_map ..
   iterate 2 refine ZK ?_
   refine Zm (l:=[0,1,2,3]) rfl ?_
   iterate 2 refine Zx ?_
   refine YY F.elem26 ?_;refine YI ?_;refine Zo (Zn ?_)
   refine YA rfl (fun hc2=>?_) (fun hc2=>?_)
   ·skip
    replace hc2:=dT hc2
    refine YG (Zn (ZK (Xc (ZK (Zm (l:=[0,1,2,3,4,5]) rfl ?_)))))
    iterate 2 refine Zx ?_
    refine YR rfl rfl rfl rfl F.elem26 (by rfl) (by omega) (by exact ⟨_,_,rfl⟩) rfl ?_;refine X_load_osl rfl rfl rfl (by assumption) (by repeat first|exact Rem.here _|exact Rem.two|apply Rem.skip|apply Rem.over) (by exact XP (by omega)) F.lay25 rfl rfl rfl ?_
    refine YW F.zero25 ?_;intro b3
    refine Yh F.lay25 ?_;refine Zo (Zn (ZK (Zm (l:=[0,1,2,3]) rfl ?_)));refine Zx ?_;refine ZD F.lay25 ?_;refine X_foV rfl rfl rfl hok rfl rfl (hc w[j]) (by repeat first|exact Rem.here _|exact Rem.two|apply Rem.skip|apply Rem.over) (YV rfl) ?_
    rintro _ M1 _ ⟨hM1,rfl⟩;subst M1
    refine Xj ?_;refine Zo (Zn ?_)
    refine YA rfl (fun hc4=>?_) (fun hc4=>?_)
    ·simp only [Bool.not_eq_true',Bool.not_eq_false'] at hc4
     have hP:=hc4
     refine ZK (Zm (l:=[0,1,2,3,4]) rfl ?_)
     iterate 2 refine Zx ?_
     refine ZD F.lay25 ?_;refine YR rfl rfl rfl rfl F.elem26 (by rfl) (by omega) (by exact ⟨_,_,rfl⟩) rfl ?_
     refine Ua (b:=b) (j:=i) rfl rfl rfl rfl (by constructor) (YU rfl (XN XG)) F.lay25 rfl rfl ho1 (by repeat first|exact Rem.here _|exact Rem.two|apply Rem.skip|apply Rem.over) (by omega) ?_;intro hs7 ho7
     replace ho7:OSl 25 21 (.slice (some ⟨b,0,none⟩) l.length c) hs7 ((w.set i w[j]).map ZF.segs):=by rw [List.map_set];exact ho7.aZ (by simp;omega)
     refine Zo (Zn (Zm (l:=[0,1,2]) rfl ?_));refine Zx ?_;refine XE rfl rfl rfl rfl rfl (by exact Xe (by decide) (by omega)) rfl ?_;refine ZB ?_;refine Zo (XR (Zn (Zm (l:=[0,1,2]) rfl ?_)));refine Zx ?_;refine XE rfl rfl rfl rfl rfl (by exact Xe (by decide) (by omega)) rfl ?_;refine ZB ?_;refine Zo ?_;refine XJ (a':=[(5,_),(6,_)]) (j+1) (hs7) (.cons (k:=5) rfl (.cons (k:=6) rfl (.cons (k:=4) rfl (.cons (k:=0) rfl (.cons (k:=1) rfl (.nil)))))) (by exact Mem.le.refl _) (fun w hw=>by first|exact hw|exact hw.c) ?_ ?_
     ·have hd9:=drop_at hwl (by omega:j<l.length) hw2
      have hp9:p l[j]=false:=by rw [← hd9];simpa using hP
      obtain ⟨e1,e2,e3⟩:=keep_put hwl hij (by omega:j<l.length) hw1 hw2
      exact ⟨i+1,w.set i l[j],rfl,rfl,by omega,by omega,e1,by rw [e2,filt_step (by omega:j<l.length),hp9];rfl,e3,by rw [filt_step (by omega:j<l.length),hp9];simp;omega,by rw [← hd9];exact ho7⟩
     ·omega
    ·simp only [Bool.not_eq_true',Bool.not_eq_false'] at hc4
     have hP:=hc4
     refine YG (XR (Zn (Zm (l:=[0,1,2]) rfl ?_)));refine Zx ?_;refine XE rfl rfl rfl rfl rfl (by exact Xe (by decide) (by omega)) rfl ?_;refine ZB ?_;refine Zo ?_;refine XJ (a':=[(5,_),(6,_)]) (j+1) (h1) (.cons (k:=5) rfl (.cons (k:=6) rfl (.cons (k:=4) rfl (.cons (k:=0) rfl (.cons (k:=1) rfl (.nil)))))) (by exact Mem.le.refl _) (fun w hw=>by first|exact hw|exact hw.c) ?_ ?_
     ·have hd9:=drop_at hwl (by omega:j<l.length) hw2
      have hp9:p l[j]=true:=by rw [← hd9];simpa using hP
      exact ⟨i,w,rfl,rfl,by omega,by omega,hwl,by rw [hw1,filt_step (by omega:j<l.length),hp9];rfl,by have:=congrArg (List.drop 1) hw2;simpa [List.drop_drop] using this,by rw [filt_step (by omega:j<l.length),hp9];simpa using hi9,ho1⟩
     ·omega
   ·skip
    replace hc2:=dF hc2
    refine XK ?_
    iterate 2 refine XH ?_
    refine Wh (Zn (Y_pk [5,4,0] ?_));refine ZK (Zm (l:=[0,1,2,3]) rfl ?_)
    iterate 2 refine Zx ?_
    obtain rfl:j=l.length:=by omega
    rw [List.take_length] at hw1 hi9
    have hcc:=ho1.caps
    refine WY rfl rfl rfl (.some (k:=i) rfl rfl) .none .none F.elem26 (by simp) (by simp only [Option.getD_none,Option.getD_some];omega) (by simp only [Option.getD_none,Option.getD_some];omega) (by simp) (show VC (some ⟨b,0,none⟩) 21 i l.length c=.slice (some ⟨b,0+i * 21,none⟩) (l.length-i) (c-i) from pieceV_in (by omega)) rfl ?_
    have hcut:OSl 25 21 (.slice (some ⟨b,0,none⟩) ((kept p l).map ZF.segs).length c) h1 ((kept p l).map ZF.segs):=(by have h9:=OSl.cut (k:=i) (ho1.aZ rfl) (by omega);rw [← List.map_take,hw1] at h9;exact h9.aZ rfl)
    have hkl:((kept p l).map ZF.segs).length=i:=by simp;omega
    refine X_clear_own rfl rfl rfl rfl rfl F.elem26 F.zero25 (Ww rfl) (flat_all (YU rfl (XN XG))) hcut (by repeat first|exact Rem.here _|exact Rem.two|apply Rem.skip|apply Rem.over) (by omega) (by omega) putE_none ?_;intro hs8 ho8
    refine Zo (Zn (Y_pk [5,4,0] ?_));refine ZK (Zm (l:=[0,1,2,3]) rfl ?_)
    iterate 2 refine Zx ?_
    refine WY rfl rfl rfl .none (.some (k:=i) rfl rfl) .none F.elem26 (by simp) (by simp only [Option.getD_none,Option.getD_some];omega) (by simp only [Option.getD_none,Option.getD_some];omega) (by simp) (show VC (some ⟨b,0,none⟩) 21 0 i c=.slice (some ⟨b,0,none⟩) i c from pieceV_zero) rfl ?_;refine ZB ?_;refine Zo (Zn (Y_pk [4] ?_));refine Yo ?_
    refine Yk (.inr rfl) (.tmp rfl .nil) (fun w hw=>?_)
    exact ⟨_,_,hs8++Hc,rfl,Mem.le.refl _,hw.c,rfl,hs8,rfl,ho8.aZ (by omega)⟩
theorem DeleteFP_ok (M:Mem) (Hc:Hp) (a:Option Addr) (c:Nat) (l:List ZF) (hs:Hp) (ho:OSl 25 21 (.slice a l.length c) hs (l.map ZF.segs)) (bl:l.length≤1000000) (g:FuncId) (caps:List Value) (p:ZF→Bool) (hok:okFn Tryz.prog g=true) (hc:∀ x:ZF,Fo Tryz.prog g ([x.enc]++caps) M Hc (fun M' v=>M'=M∧v=.bool (p x))):Fh Tryz.prog 140 [.slice a l.length c,.func (.func g) #[] caps.toArray] M (hs++Hc) (fun M' v Hout=>M'=M∧∃ hs',Hout=hs'++Hc∧OSl 25 21 v hs' ((kept p l).map ZF.segs)):=by
  by_cases h:idxF p l=-1
  ·exact DeleteFP_no M Hc a c l hs ho bl g caps p hok hc h
  ·obtain ⟨i0,h1,h2,h3,h4⟩:=idxF_some h
   obtain ⟨b,rfl⟩:=ho.someB (by omega)
   exact DeleteFP_yes M Hc b c l hs ho bl g caps p hok hc i0 h1 h2 h3
end Go.Proofs.YtajmnjefajknoaaGreat
namespace Go.Proofs.YtajmnjefajknoaaGreat
open Go.Esp
theorem F.ok106:okFn Tryz.prog 106=true:=by kernel_rfl
theorem F.ok139:okFn Tryz.prog 139=true:=by kernel_rfl
theorem F.ok140:okFn Tryz.prog 140=true:=by kernel_rfl
theorem gone_ok (M:Mem) (b:Nat) (a:Int) (p:ZF):Fo Tryz.prog 139 ([p.enc]++[.pointer (some ⟨b,0,none⟩)]) M [(b,rowO [.one (.int .i64 a)] 3)] (fun M' v=>M'=M∧v=.bool (decide (p.addr=a))):=by
  obtain ⟨Xa,p_id⟩:=p
  refine VE Tryz.func139 rfl Tryz.ntmps139 rfl ?_;intro H
  refine ZK (Zm (l:=[0,1]) rfl ?_)
  refine Xk ?_;intro b1
  refine ZB ?_;refine Zo (Zn (Y_pk [3,2,1] ?_));refine ZK (Zm (l:=[0,1,2,3,4]) rfl ?_);refine Zk F.foff25_0 ?_
  iterate 2 refine ZD F.lay3 ?_
  refine YI ?_;refine ZB ?_;refine Zo (Zn (Y_pk [3] ?_));refine Yo ?_
  refine Yk (.inr rfl) (.tmp rfl .nil) (fun w hw=>?_)
  refine ⟨_,M,rfl,Mem.le.refl M,hw.c,rfl,?_⟩
  clear hw
  rfl
theorem Forget_ok (M:Mem) (t:ZQ) (addr:Int) (ht0:ZQ.ok M t) (hbig:t.succ.l.length≤40∧t.fingers.l.length≤200):Esp.Fn Tryz.prog 108 [t.enc,.int .i64 addr] M (fun M' v=>UF M' v (Wm t.tb addr)):=by
  obtain ⟨⟨Yd,Yi⟩,⟨Ym,Yy⟩,⟨Yq,Yp,ZU⟩,⟨Yg,Yf,ZE⟩⟩:=t
  have YT:SlK M ZF.segs 21 ⟨Yq,Yp,ZU⟩:=ht0.h0
  have WA:SlM M Yq (ZU.map ZF.segs) 21:=YT.h1
  have WI:(ZU.map ZF.segs).length=ZU.length:=List.length_map ..
  have WJ:ZU.length≤9223372036854775807:=YT.h2
  have WK:ZU.length≤Yp:=YT.h3
  have Yu:SlK M ZF.segs 21 ⟨Yg,Yf,ZE⟩:=ht0.h1
  have XQ:SlM M Yg (ZE.map ZF.segs) 21:=Yu.h1
  have Wc:(ZE.map ZF.segs).length=ZE.length:=List.length_map ..
  have XZ:ZE.length≤9223372036854775807:=Yu.h2
  have Wd:ZE.length≤Yf:=Yu.h3
  simp only at hbig
  refine Wu Tryz.func108 rfl Tryz.ntmps108 rfl ?_;intro H
  refine ZK (Zm (l:=[0,1,2]) rfl ?_)
  refine Xk ?_;intro b1
  refine Xk ?_;intro b2
  refine YW F.zero28 ?_;intro b3
  refine Zo (Zn (Y_pk [4,3,2] ?_));refine ZK (Zm (l:=[0,1]) rfl ?_);refine X_makeFunc rfl rfl rfl rfl rfl ?_;refine ZB ?_;refine Zo (Zn (Y_pk [5,4,2] ?_))
  iterate 2 refine ZK ?_
  refine Zm (l:=[0,1,2,3]) rfl ?_;refine Zx ?_;refine Zk F.foff28_1 ?_;refine ZD F.lay25 ?_;refine X_foV rfl rfl rfl F.ok139 rfl rfl (gone_ok _ b2 addr ⟨Ym,Yy⟩) (by repeat first|exact Rem.here _|exact Rem.two|apply Rem.skip|apply Rem.over) (YV rfl) ?_
  rintro _ M1 _ ⟨hM1,rfl⟩;subst M1
  refine Zo (Zn (Y_pk [12,5,4,2] ?_))
  refine YA rfl (fun hc4=>?_) (fun hc4=>?_)
  ·replace hc4:=dT hc4
   simp only [ZF.eta,ZQ.eta,ZR.eta,ZP.eta,Yr.eta,ZW.eta,YQ.eta,Yc.eta] at hc4
   refine Zm (l:=[0,1,2]) rfl ?_;refine X_fs rfl rfl F.ok66 rfl (VG _) rfl ?_
   rintro _ rfl
   refine VA 13 rfl (show _=aggV [.one (.int .i64 (-1)),Yt 0] from rfl) ?_;refine Zk F.foff28_1 ?_;refine Yh F.lay25 ?_;refine Zo (Zn (Y_pk [5,4,2] ?_));refine ZK (Zm (l:=[0,1,2,3,4,5,6]) rfl ?_);refine Zk F.foff28_2 ?_;refine ZD F.lay26 ?_;refine Ur rfl rfl F.ok106 rfl (CloneP_ok M Yq Yp ZU YT (by omega)) (by repeat first|exact Rem.here _|exact Rem.two|apply Rem.skip|apply Rem.over) (fun _ _ _ hm hw=>(hw.lower (by exact hm)).c) (YV rfl) ?_
   rintro v8 M1 hs8 hm1 ⟨hM1,ho8⟩;subst M1
   obtain ⟨ad8,cp8,rfl⟩:=ho8.valL
   refine Zx ?_;refine X_fhR2 rfl rfl F.ok140 rfl (DeleteFP_ok M [(b2,_)] ad8 cp8 ZU hs8 ho8 (by omega) 139 [_] (fun p=>decide (p.addr=addr)) F.ok139 (fun x=>gone_ok M b2 addr x)) (by repeat first|exact Rem.here _|exact Rem.two|apply Rem.skip|apply Rem.over) (by repeat first|exact Rem.here _|exact Rem.two|apply Rem.skip|apply Rem.over) (by rintro v M9 _ w hm ⟨rfl,hs9,rfl,_⟩ hw;exact hw.c) (YV rfl) ?_
   rintro v9 M1 _ hm1 ⟨hM1,hs9,rfl,ho9⟩;subst M1
   obtain ⟨ad9,cp9,rfl⟩:=ho9.valL
   simp only [List.append_assoc,List.cons_append,List.nil_append]
   refine Zk F.foff28_2 ?_;refine Yh F.lay26 ?_;refine Zo (Zn (Y_pk [5,4,2] ?_));refine ZK (Zm (l:=[0,1,2,3,4]) rfl ?_);refine Zk F.foff28_3 ?_;refine ZD F.lay26 ?_;refine Ur rfl rfl F.ok106 rfl (CloneP_ok M Yg Yf ZE Yu (by omega)) (by repeat first|exact Rem.here _|exact Rem.two|apply Rem.skip|apply Rem.over) (fun _ _ _ hm hw=>(hw.lower (by exact hm)).c) (YV rfl) ?_
   rintro v7 M1 hs7 hm1 ⟨hM1,ho7⟩;subst M1
   obtain ⟨ad7,cp7,rfl⟩:=ho7.valL
   refine Zk F.foff28_3 ?_;refine Yh F.lay26 ?_;refine Zo (Zn (Y_pk [5,4,2] ?_))
   iterate 2 refine ZK ?_
   refine Zm (l:=[0,1,2,3]) rfl ?_;refine Zk F.foff28_3 ?_;refine ZD F.lay26 ?_;refine YY F.elem26 ?_;refine Zx ?_;refine Zo (Zn (Y_pk [28,27,26,5,4,2] ?_));refine Xc (Y_pk [28,27,26,5,4,2] ?_);refine Vm (Hin:=hs7) (.succ .zero) (by repeat first|exact Rem.here _|exact Rem.two|apply Rem.skip|apply Rem.over) (fun (k:Nat) M1 h1 z=>∃ (w:List ZF),M1=M∧z=[(28,.int .i64 (k:Int))]∧k≤ZE.length∧w.length=ZE.length∧w.take k=(ZE.take k).map (Ux addr)∧w.drop k=ZE.drop k∧OSl 25 21 (.slice ad7 ZE.length cp7) h1 (w.map ZF.segs)) (fun k=>ZE.length-k) (0) (⟨ZE,rfl,rfl,by omega,rfl,rfl,rfl,ho7⟩) ?_
   rintro k M1 h1 z hm1 ⟨w,hM1,rfl,hk,hwl,hw1,hw2,ho1⟩
   subst hM1
   have hnw:(w.map ZF.segs).length=w.length:=List.length_map ..
   refine ZK (Zm (l:=[0]) rfl ?_);refine YI ?_;refine Zo (Zn (ZK ?_))
   refine YA rfl (fun hc5=>?_) (fun hc5=>?_)
   ·replace hc5:=dT hc5
    refine YG (Zn (ZK (Xc (ZK (Zm (l:=[0,1,2,3,4,5]) rfl ?_)))));refine Zx ?_;refine YR rfl rfl rfl rfl F.elem26 (by rfl) (by omega) (by exact OSl.plain (by assumption) (by (simp;omega))) rfl ?_;refine X_load_osl rfl rfl rfl (by assumption) (by repeat first|exact Rem.here _|exact Rem.two|apply Rem.skip|apply Rem.over) (by exact XP (by omega)) F.lay25 rfl rfl rfl ?_
    refine YW F.zero25 ?_;intro b6
    refine ZB ?_;refine Yh F.lay25 ?_;refine Zo (Zn (ZK (Zm (l:=[0,1,2]) rfl ?_)));refine Zx ?_;refine ZD F.lay25 ?_;refine X_foV rfl rfl rfl F.ok139 rfl rfl (gone_ok _ b2 addr w[k]) (by repeat first|exact Rem.here _|exact Rem.two|apply Rem.skip|apply Rem.over) (YV rfl) ?_
    rintro _ M1 _ ⟨hM1,rfl⟩;subst M1
    refine Zo (Zn ?_)
    refine YA rfl (fun hc7=>?_) (fun hc7=>?_)
    ·replace hc7:=dT hc7
     refine YK (l:=[0,1,2,3,4,5]) #[0,1,0,0,15,31] _ rfl (by kernel_rfl) (by kernel_rfl) St.drawn (fun _ h=>h) ?_;refine Zk F.foff28_3 ?_;refine ZD F.lay26 ?_;refine Zx ?_;refine X_fs rfl rfl F.ok66 rfl (VG _) rfl ?_
     rintro _ rfl
     refine VA 39 rfl (show _=aggV [.one (.int .i64 (-1)),Yt 0] from rfl) ?_;refine YR rfl rfl rfl rfl F.elem26 (by rfl) (by omega) (by exact OSl.plain (by assumption) (by (simp;omega))) rfl ?_
     obtain ⟨b6,rfl⟩:=ho1.someB (by omega)
     refine Ua (b:=b6) (j:=k) rfl rfl rfl rfl (by constructor) (YU rfl (XN XG)) F.lay25 rfl rfl ho1 (by repeat first|exact Rem.here _|exact Rem.two|apply Rem.skip|apply Rem.over) (by omega) ?_;intro hs6 ho6
     replace ho6:OSl 25 21 (.slice (some ⟨b6,0,none⟩) ZE.length cp7) hs6 ((w.set k Xf).map ZF.segs):=by rw [List.map_set];exact ho6.aZ (by simp;omega)
     refine Zo (XR (Zn (Zm (l:=[0,1]) rfl ?_)));refine XE rfl rfl rfl rfl rfl (by exact Xe (by decide) (by omega)) rfl ?_;refine Zx ?_;refine Zo ?_;refine XJ (a':=[(28,_)]) (k+1) (hs6) (.cons (k:=28) rfl (.cons (k:=27) rfl (.cons (k:=26) rfl (.cons (k:=5) rfl (.cons (k:=4) rfl (.cons (k:=2) rfl (.nil))))))) (by exact Mem.le.refl _) (fun w hw=>by first|exact hw|exact hw.c) ?_ ?_
     ·have hd9:=drop_at hwl (by omega:k<ZE.length) hw2
      obtain ⟨e1,e2,e3⟩:=turn_step (f:=Ux addr) (x:=Xf) hwl (by omega:k<ZE.length) hw1 hw2 (by unfold Ux;rw [if_pos (by rw [← hd9];assumption)])
      exact ⟨w.set k Xf,rfl,rfl,by omega,e1,e2,e3,ho6⟩
     ·omega
    ·replace hc7:=dF hc7
     refine YG (XR (Zn (Zm (l:=[0,1]) rfl ?_)));refine XE rfl rfl rfl rfl rfl (by exact Xe (by decide) (by omega)) rfl ?_;refine Zx ?_;refine Zo ?_;refine XJ (a':=[(28,_)]) (k+1) (h1) (.cons (k:=28) rfl (.cons (k:=27) rfl (.cons (k:=26) rfl (.cons (k:=5) rfl (.cons (k:=4) rfl (.cons (k:=2) rfl (.nil))))))) (by exact Mem.le.refl _) (fun w hw=>by first|exact hw|exact hw.c) ?_ ?_
     ·have hd9:=drop_at hwl (by omega:k<ZE.length) hw2
      obtain ⟨e2,e3⟩:=turn_stay (f:=Ux addr) hwl (by omega:k<ZE.length) hw1 hw2 (by unfold Ux;rw [if_neg (by rw [← hd9];assumption)])
      exact ⟨w,rfl,rfl,by omega,hwl,e2,e3,ho1⟩
     ·omega
   ·replace hc5:=dF hc5
    refine XK ?_
    iterate 2 refine XH ?_
    refine Wh (Zn (Y_pk [4,2] ?_));refine ZK (Zm (l:=[0,1]) rfl ?_);refine ZD F.lay28 ?_;refine Yh F.lay28 ?_;refine Zo (Zn (Y_pk [4] ?_));refine Yo ?_
    refine Yk (.inr rfl) (.cell rfl (by repeat first|exact List.Mem.head _|refine List.Mem.tail _ ?_|refine List.mem_append_right _ ?_) F.lay28 rfl rfl .nil) (fun w hw=>?_)
    obtain rfl:k=ZE.length:=by omega
    rw [List.take_length,List.take_of_length_le (by omega)] at hw1
    subst hw1
    obtain ⟨M9,s1,g1,g2,g3,g4,g5⟩:=OSl.freezeK (f:=ZF.segs) (H:=h1++H) ho9 (hw.c)
    obtain ⟨M8,s2,j1,j2,j3,j4,j5⟩:=OSl.freezeK (f:=ZF.segs) ho1 g2
    exact ⟨_,M8,rfl,g1.trans j1,j2,Ws g3 j3 (g5.mono j1) j5 (by rw [g4,j4,kept_ne];unfold Wm ZQ.tb;simp only;rw [if_pos (by assumption)];rfl)⟩
  ·replace hc4:=dF hc4
   simp only [ZF.eta,ZQ.eta,ZR.eta,ZP.eta,Yr.eta,ZW.eta,YQ.eta,Yc.eta] at hc4
   refine YG (Zn (Y_pk [5,4,2] ?_));refine ZK (Zm (l:=[0,1,2,3,4,5,6]) rfl ?_);refine Zk F.foff28_2 ?_;refine ZD F.lay26 ?_;refine Ur rfl rfl F.ok106 rfl (CloneP_ok M Yq Yp ZU YT (by omega)) (by repeat first|exact Rem.here _|exact Rem.two|apply Rem.skip|apply Rem.over) (fun _ _ _ hm hw=>(hw.lower (by exact hm)).c) (YV rfl) ?_
   rintro v8 M1 hs8 hm1 ⟨hM1,ho8⟩;subst M1
   obtain ⟨ad8,cp8,rfl⟩:=ho8.valL
   refine Zx ?_;refine X_fhR2 rfl rfl F.ok140 rfl (DeleteFP_ok M [(b2,_)] ad8 cp8 ZU hs8 ho8 (by omega) 139 [_] (fun p=>decide (p.addr=addr)) F.ok139 (fun x=>gone_ok M b2 addr x)) (by repeat first|exact Rem.here _|exact Rem.two|apply Rem.skip|apply Rem.over) (by repeat first|exact Rem.here _|exact Rem.two|apply Rem.skip|apply Rem.over) (by rintro v M9 _ w hm ⟨rfl,hs9,rfl,_⟩ hw;exact hw.c) (YV rfl) ?_
   rintro v9 M1 _ hm1 ⟨hM1,hs9,rfl,ho9⟩;subst M1
   obtain ⟨ad9,cp9,rfl⟩:=ho9.valL
   simp only [List.append_assoc,List.cons_append,List.nil_append]
   refine Zk F.foff28_2 ?_;refine Yh F.lay26 ?_;refine Zo (Zn (Y_pk [5,4,2] ?_));refine ZK (Zm (l:=[0,1,2,3,4]) rfl ?_);refine Zk F.foff28_3 ?_;refine ZD F.lay26 ?_;refine Ur rfl rfl F.ok106 rfl (CloneP_ok M Yg Yf ZE Yu (by omega)) (by repeat first|exact Rem.here _|exact Rem.two|apply Rem.skip|apply Rem.over) (fun _ _ _ hm hw=>(hw.lower (by exact hm)).c) (YV rfl) ?_
   rintro v7 M1 hs7 hm1 ⟨hM1,ho7⟩;subst M1
   obtain ⟨ad7,cp7,rfl⟩:=ho7.valL
   refine Zk F.foff28_3 ?_;refine Yh F.lay26 ?_;refine Zo (Zn (Y_pk [5,4,2] ?_))
   iterate 2 refine ZK ?_
   refine Zm (l:=[0,1,2,3]) rfl ?_;refine Zk F.foff28_3 ?_;refine ZD F.lay26 ?_;refine YY F.elem26 ?_;refine Zx ?_;refine Zo (Zn (Y_pk [28,27,26,5,4,2] ?_));refine Xc (Y_pk [28,27,26,5,4,2] ?_);refine Vm (Hin:=hs7) (.succ .zero) (by repeat first|exact Rem.here _|exact Rem.two|apply Rem.skip|apply Rem.over) (fun (k:Nat) M1 h1 z=>∃ (w:List ZF),M1=M∧z=[(28,.int .i64 (k:Int))]∧k≤ZE.length∧w.length=ZE.length∧w.take k=(ZE.take k).map (Ux addr)∧w.drop k=ZE.drop k∧OSl 25 21 (.slice ad7 ZE.length cp7) h1 (w.map ZF.segs)) (fun k=>ZE.length-k) (0) (⟨ZE,rfl,rfl,by omega,rfl,rfl,rfl,ho7⟩) ?_
   rintro k M1 h1 z hm1 ⟨w,hM1,rfl,hk,hwl,hw1,hw2,ho1⟩
   subst hM1
   have hnw:(w.map ZF.segs).length=w.length:=List.length_map ..
   refine ZK (Zm (l:=[0]) rfl ?_);refine YI ?_;refine Zo (Zn (ZK ?_))
   refine YA rfl (fun hc8=>?_) (fun hc8=>?_)
   ·replace hc8:=dT hc8
    refine YG (Zn (ZK (Xc (ZK (Zm (l:=[0,1,2,3,4,5]) rfl ?_)))));refine Zx ?_;refine YR rfl rfl rfl rfl F.elem26 (by rfl) (by omega) (by exact OSl.plain (by assumption) (by (simp;omega))) rfl ?_;refine X_load_osl rfl rfl rfl (by assumption) (by repeat first|exact Rem.here _|exact Rem.two|apply Rem.skip|apply Rem.over) (by exact XP (by omega)) F.lay25 rfl rfl rfl ?_
    refine YW F.zero25 ?_;intro b9
    refine ZB ?_;refine Yh F.lay25 ?_;refine Zo (Zn (ZK (Zm (l:=[0,1,2]) rfl ?_)));refine Zx ?_;refine ZD F.lay25 ?_;refine X_foV rfl rfl rfl F.ok139 rfl rfl (gone_ok _ b2 addr w[k]) (by repeat first|exact Rem.here _|exact Rem.two|apply Rem.skip|apply Rem.over) (YV rfl) ?_
    rintro _ M1 _ ⟨hM1,rfl⟩;subst M1
    refine Zo (Zn ?_)
    refine YA rfl (fun hc10=>?_) (fun hc10=>?_)
    ·replace hc10:=dT hc10
     refine YK (l:=[0,1,2,3,4,5]) #[0,1,0,0,15,31] _ rfl (by kernel_rfl) (by kernel_rfl) St.drawn (fun _ h=>h) ?_;refine Zk F.foff28_3 ?_;refine ZD F.lay26 ?_;refine Zx ?_;refine X_fs rfl rfl F.ok66 rfl (VG _) rfl ?_
     rintro _ rfl
     refine VA 39 rfl (show _=aggV [.one (.int .i64 (-1)),Yt 0] from rfl) ?_;refine YR rfl rfl rfl rfl F.elem26 (by rfl) (by omega) (by exact OSl.plain (by assumption) (by (simp;omega))) rfl ?_
     obtain ⟨b6,rfl⟩:=ho1.someB (by omega)
     refine Ua (b:=b6) (j:=k) rfl rfl rfl rfl (by constructor) (YU rfl (XN XG)) F.lay25 rfl rfl ho1 (by repeat first|exact Rem.here _|exact Rem.two|apply Rem.skip|apply Rem.over) (by omega) ?_;intro hs6 ho6
     replace ho6:OSl 25 21 (.slice (some ⟨b6,0,none⟩) ZE.length cp7) hs6 ((w.set k Xf).map ZF.segs):=by rw [List.map_set];exact ho6.aZ (by simp;omega)
     refine Zo (XR (Zn (Zm (l:=[0,1]) rfl ?_)));refine XE rfl rfl rfl rfl rfl (by exact Xe (by decide) (by omega)) rfl ?_;refine Zx ?_;refine Zo ?_;refine XJ (a':=[(28,_)]) (k+1) (hs6) (.cons (k:=28) rfl (.cons (k:=27) rfl (.cons (k:=26) rfl (.cons (k:=5) rfl (.cons (k:=4) rfl (.cons (k:=2) rfl (.nil))))))) (by exact Mem.le.refl _) (fun w hw=>by first|exact hw|exact hw.c) ?_ ?_
     ·have hd9:=drop_at hwl (by omega:k<ZE.length) hw2
      obtain ⟨e1,e2,e3⟩:=turn_step (f:=Ux addr) (x:=Xf) hwl (by omega:k<ZE.length) hw1 hw2 (by unfold Ux;rw [if_pos (by rw [← hd9];assumption)])
      exact ⟨w.set k Xf,rfl,rfl,by omega,e1,e2,e3,ho6⟩
     ·omega
    ·replace hc10:=dF hc10
     refine YG (XR (Zn (Zm (l:=[0,1]) rfl ?_)));refine XE rfl rfl rfl rfl rfl (by exact Xe (by decide) (by omega)) rfl ?_;refine Zx ?_;refine Zo ?_;refine XJ (a':=[(28,_)]) (k+1) (h1) (.cons (k:=28) rfl (.cons (k:=27) rfl (.cons (k:=26) rfl (.cons (k:=5) rfl (.cons (k:=4) rfl (.cons (k:=2) rfl (.nil))))))) (by exact Mem.le.refl _) (fun w hw=>by first|exact hw|exact hw.c) ?_ ?_
     ·have hd9:=drop_at hwl (by omega:k<ZE.length) hw2
      obtain ⟨e2,e3⟩:=turn_stay (f:=Ux addr) hwl (by omega:k<ZE.length) hw1 hw2 (by unfold Ux;rw [if_neg (by rw [← hd9];assumption)])
      exact ⟨w,rfl,rfl,by omega,hwl,e2,e3,ho1⟩
     ·omega
   ·replace hc8:=dF hc8
    refine XK ?_
    iterate 2 refine XH ?_
    refine Wh (Zn (Y_pk [4,2] ?_));refine ZK (Zm (l:=[0,1]) rfl ?_);refine ZD F.lay28 ?_;refine Yh F.lay28 ?_;refine Zo (Zn (Y_pk [4] ?_));refine Yo ?_
    refine Yk (.inr rfl) (.cell rfl (by repeat first|exact List.Mem.head _|refine List.Mem.tail _ ?_|refine List.mem_append_right _ ?_) F.lay28 rfl rfl .nil) (fun w hw=>?_)
    obtain rfl:k=ZE.length:=by omega
    rw [List.take_length,List.take_of_length_le (by omega)] at hw1
    subst hw1
    obtain ⟨M9,s1,g1,g2,g3,g4,g5⟩:=OSl.freezeK (f:=ZF.segs) (H:=h1++H) ho9 (hw.c)
    obtain ⟨M8,s2,j1,j2,j3,j4,j5⟩:=OSl.freezeK (f:=ZF.segs) ho1 g2
    exact ⟨_,M8,rfl,g1.trans j1,j2,Ws g3 j3 (g5.mono j1) j5 (by rw [g4,j4,kept_ne];unfold Wm ZQ.tb;simp only;rw [if_neg (by assumption)];rfl)⟩
end Go.Proofs.YtajmnjefajknoaaGreat
namespace Go.Proofs.YtajmnjefajknoaaGreat
open Go.Esp
theorem F.ok131:okFn Tryz.prog 131=true:=by kernel_rfl
theorem F.ok62:okFn Tryz.prog 62=true:=by kernel_rfl
theorem rForget_ok (M:Mem) (t:ZQ) (addr:Int) (ht0:ZQ.ok M t) (hbig:t.succ.l.length≤40∧t.fingers.l.length≤200):Esp.Fn Tryz.prog 94 [t.enc,.int .i64 addr] M (fun M' v=>UF M' v (Wm t.tb addr)):=by
  obtain ⟨⟨Yd,Yi⟩,⟨Ym,Yy⟩,⟨Yq,Yp,ZU⟩,⟨Yg,Yf,ZE⟩⟩:=t
  have YT:SlK M ZF.segs 21 ⟨Yq,Yp,ZU⟩:=ht0.h0
  have WA:SlM M Yq (ZU.map ZF.segs) 21:=YT.h1
  have WI:(ZU.map ZF.segs).length=ZU.length:=List.length_map ..
  have WJ:ZU.length≤9223372036854775807:=YT.h2
  have WK:ZU.length≤Yp:=YT.h3
  have Yu:SlK M ZF.segs 21 ⟨Yg,Yf,ZE⟩:=ht0.h1
  have XQ:SlM M Yg (ZE.map ZF.segs) 21:=Yu.h1
  have Wc:(ZE.map ZF.segs).length=ZE.length:=List.length_map ..
  have XZ:ZE.length≤9223372036854775807:=Yu.h2
  have Wd:ZE.length≤Yf:=Yu.h3
  simp only at hbig
  refine Wu Tryz.func94 rfl Tryz.ntmps94 rfl ?_;intro H
  refine ZK (Zm (l:=[0,1]) rfl ?_)
  refine Xk ?_;intro b1
  refine YW F.zero28 ?_;intro b2
  refine Zo (Zn (Y_pk [4,2,1] ?_));refine ZK (Zm (l:=[0,1,2,3,4,5,6]) rfl ?_);refine Zk F.foff28_0 ?_;refine ZD F.lay25 ?_;refine Zk F.foff28_1 ?_;refine ZD F.lay25 ?_;refine Xr rfl rfl F.bld28 (.cons rfl (by constructor) (.cons rfl (by constructor) .nil)) rfl rfl ?_
  refine YW F.zero28 ?_;intro b3
  refine Yh F.lay28 ?_;refine Zo (Zn (Y_pk [5,4,2,1] ?_))
  iterate 2 refine ZK ?_
  refine Zm (l:=[0,1,2,3,4]) rfl ?_;refine Zk F.foff28_1 ?_;refine Zk F.foff25_0 ?_;refine ZD F.lay3 ?_;refine Zx ?_;refine YI ?_;refine Zo (Zn (Y_pk [17,5,4,2,1] ?_))
  refine YA rfl (fun hc4=>?_) (fun hc4=>?_)
  ·replace hc4:=dT hc4
   refine Zm (l:=[0,1,2]) rfl ?_;refine X_fs rfl rfl F.ok67 rfl (rNone_ok _) rfl ?_
   rintro _ rfl
   refine VA 18 rfl (show _=aggV [.one (.int .i64 (-1)),Yt 0] from rfl) ?_;refine Zk F.foff28_1 ?_;refine Yh F.lay25 ?_;refine Zo (Zn (Y_pk [5,4,2,1] ?_))
   iterate 2 refine ZK ?_
   refine Zm (l:=[0]) rfl ?_;refine ZB ?_;refine Zo (Zn (Xc (Y_pk [6,5,4,2,1] ?_)));refine Vm (Hin:=[(b3,rowO [.one (.int .i64 Yd),Yt Yi,.one (.int .i64 (-1)),Yt 0,.one (.slice none 0 0),.one (.slice none 0 0)] 28)]) (.succ .zero) (by repeat first|exact Rem.here _|exact Rem.two|apply Rem.skip|apply Rem.over) (fun (k:Nat) M1 h1 z=>∃ (acc:List ZF) (v:Value) (hs:Hp),M1=M∧z=[(6,.int .i64 (k:Int))]∧k≤ZU.length∧h1=(b3,rowO [.one (.int .i64 Yd),Yt Yi,.one (.int .i64 (-1)),Yt 0,.one v,.one (.slice none 0 0)] 28)::hs∧OSl 25 21 v hs (acc.map ZF.segs)∧acc.length≤k∧acc=kept (fun p=>decide (p.addr=addr)) (ZU.take k)) (fun k=>ZU.length-k) (0) (⟨[],_,[],rfl,rfl,by omega,rfl,OSl.nil,by simp,rfl⟩) ?_
   rintro k M1 h1 z hm1 ⟨acc,v0,hs0,hM1,rfl,hk,rfl,ho,hal,hacc⟩
   subst hM1
   obtain ⟨ad0,cp0,rfl⟩:=ho.valL
   have hml:(acc.map ZF.segs).length=acc.length:=List.length_map ..
   iterate 2 refine ZK ?_
   refine Zm (l:=[0,1,2,3,4]) rfl ?_;refine Zx ?_;refine Zk F.foff28_2 ?_;refine ZD F.lay26 ?_;refine YY F.elem26 ?_;refine YI ?_;refine Zo (Zn ?_)
   refine YA rfl (fun hc5=>?_) (fun hc5=>?_)
   ·replace hc5:=dT hc5
    refine YG (Zn (ZK (Xc (ZK (Zm (l:=[0,1,2,3,4,5,6,7]) rfl ?_)))));refine Zk F.foff28_2 ?_;refine ZD F.lay26 ?_;refine Zx ?_;refine YR rfl rfl rfl rfl F.elem26 (by rfl) (by omega) (by exact SlM.plain (by assumption) (by (simp;omega))) rfl ?_;refine XC rfl rfl rfl (by exact SlM.plain (by assumption) (by (simp;omega))) F.foff25_0 rfl ?_;refine Xm rfl rfl rfl (by assumption) (by exact XP (by omega)) F.lay3 rfl rfl rfl ?_;refine Zx ?_;refine YI ?_;refine Zo (Zn ?_)
    refine YA rfl (fun hc6=>?_) (fun hc6=>?_)
    ·replace hc6:=nT hc6
     simp only [List.get_eq_getElem] at hc6
     refine YK (l:=[0,1,2,3,4,5,6,7,8,9,10]) #[0,1,0,4,0,28,60,124,255,511,1023] _ rfl (by kernel_rfl) (by kernel_rfl) St.drawn (fun _ h=>h) ?_;refine Zk F.foff28_2 ?_;refine ZD F.lay26 ?_;refine Zk F.foff28_2 ?_;refine ZD F.lay26 ?_;refine Zx ?_;refine YR rfl rfl rfl rfl F.elem26 (by rfl) (by omega) (by exact SlM.plain (by assumption) (by (simp;omega))) rfl ?_;refine Xm rfl rfl rfl (by assumption) (by exact XP (by omega)) F.lay25 rfl rfl rfl ?_
     refine Xq rfl rfl F.elem26 F.zero25 rfl rfl (.cons rfl (by constructor) .nil) rfl rfl (by simp only [List.map_cons,List.map_nil] <;> rfl) rfl ?_;intro b7 hob8
     refine Vh (m:=1000000) rfl rfl rfl rfl rfl F.elem26 F.zero25 (by exact Ww rfl) rfl (by assumption) (by repeat first|exact Rem.here _|exact Rem.two|apply Rem.skip|apply Rem.over) (Src.own hob8.lens (by (refine Vv ?_;(repeat (first|exact XG|refine XN ?_|(refine YU ?_ ?_;rfl)));done)) rfl (by repeat first|exact List.Mem.head _|refine List.Mem.tail _ ?_|refine List.mem_append_right _ ?_)) (by (simp;omega)) (by decide) rfl ?_;intro v11 hs10 ho9;obtain ⟨adv11,cpv11,rfl⟩:=ho9.valAt (n:=acc.length+1) (by (simp;done))
     refine Zk F.foff28_2 ?_;refine Yh F.lay26 ?_;refine Zo (XR (Zn (Zm (l:=[0,1,2]) rfl ?_)));refine Zx ?_;refine XE rfl rfl rfl rfl rfl (by exact Xe (by decide) (by omega)) rfl ?_;refine ZB ?_;refine Zo ?_;refine XJ (a':=[(6,_)]) (k+1) ((b3,rowO [.one (.int .i64 Yd),Yt Yi,.one (.int .i64 (-1)),Yt 0,.one (.slice adv11 (acc.length+1) cpv11),.one (.slice none 0 0)] 28)::hs10) (.cons (k:=6) rfl (.cons (k:=5) rfl (.cons (k:=4) rfl (.cons (k:=2) rfl (.cons (k:=1) rfl (.nil)))))) (by exact Mem.le.refl _) (fun w hw=>by first|exact hw|exact hw.c) ?_ ?_
     ·refine ⟨acc++[ZU[k]],_,_,rfl,rfl,by omega,rfl,by rw [List.map_append];exact ho9,by simp only [List.length_append,List.length_cons,List.length_nil];omega,?_⟩
      rw [filt_step (by omega:k<ZU.length),← hacc,decide_eq_false (by assumption)];rfl
     ·omega
    ·replace hc6:=nF hc6
     simp only [List.get_eq_getElem] at hc6
     refine YG (XR (Zn (Zm (l:=[0,1,2]) rfl ?_)));refine Zx ?_;refine XE rfl rfl rfl rfl rfl (by exact Xe (by decide) (by omega)) rfl ?_;refine ZB ?_;refine Zo ?_;refine XJ (a':=[(6,_)]) (k+1) ((b3,rowO [.one (.int .i64 Yd),Yt Yi,.one (.int .i64 (-1)),Yt 0,.one (.slice ad0 acc.length cp0),.one (.slice none 0 0)] 28)::hs0) (.cons (k:=6) rfl (.cons (k:=5) rfl (.cons (k:=4) rfl (.cons (k:=2) rfl (.cons (k:=1) rfl (.nil)))))) (by exact Mem.le.refl _) (fun w hw=>by first|exact hw|exact hw.c) ?_ ?_
     ·refine ⟨acc,_,_,rfl,rfl,by omega,rfl,ho,by omega,?_⟩
      rw [filt_step (by omega:k<ZU.length),← hacc,if_pos (by simp_all)]
     ·omega
   ·replace hc5:=dF hc5
    refine XK ?_
    iterate 2 refine XH ?_
    refine Wh (Zn (Y_pk [5,4,2,1] ?_))
    iterate 2 refine ZK ?_
    refine Zm (l:=[0]) rfl ?_;refine ZB ?_;refine Zo (Zn (Xc (Y_pk [7,5,4,2,1] ?_)));refine Vm (Hin:=(b3,rowO [.one (.int .i64 Yd),Yt Yi,.one (.int .i64 (-1)),Yt 0,.one (.slice ad0 acc.length cp0),.one (.slice none 0 0)] 28)::hs0) (.succ .zero) (by repeat first|exact Rem.here _|exact Rem.two|apply Rem.skip|apply Rem.over) (fun (k:Nat) M9 h1 z=>∃ (acc2:List ZF) (v:Value) (hs:Hp),M9=M1∧z=[(7,.int .i64 (k:Int))]∧k≤ZE.length∧h1=(b3,rowO [.one (.int .i64 Yd),Yt Yi,.one (.int .i64 (-1)),Yt 0,.one (.slice ad0 acc.length cp0),.one v] 28)::(hs++hs0)∧OSl 25 21 v hs (acc2.map ZF.segs)∧acc2.length=k∧acc2=(ZE.take k).map (Ux addr)) (fun k=>ZE.length-k) (0) (⟨[],_,[],rfl,rfl,by omega,rfl,OSl.nil,rfl,rfl⟩) ?_
    rintro k2 M2 h2 z hm2 ⟨acc2,v2,hs2,hM2,rfl,hk2,rfl,ho2,hal2,hacc2⟩
    subst hM2
    obtain ⟨ad2,cp2,rfl⟩:=ho2.valL
    have hml2:(acc2.map ZF.segs).length=acc2.length:=List.length_map ..
    simp only [List.append_assoc,List.cons_append,List.nil_append]
    iterate 2 refine ZK ?_
    refine Zm (l:=[0,1,2,3,4]) rfl ?_;refine Zx ?_;refine Zk F.foff28_3 ?_;refine ZD F.lay26 ?_;refine YY F.elem26 ?_;refine YI ?_;refine Zo (Zn ?_)
    refine YA rfl (fun hc12=>?_) (fun hc12=>?_)
    ·replace hc12:=dT hc12
     refine YG (Zn (ZK (Xc (ZK (Zm (l:=[0,1,2,3,4,5,6,7]) rfl ?_)))));refine Zk F.foff28_3 ?_;refine ZD F.lay26 ?_;refine Zx ?_;refine YR rfl rfl rfl rfl F.elem26 (by rfl) (by omega) (by exact SlM.plain (by assumption) (by (simp;omega))) rfl ?_;refine XC rfl rfl rfl (by exact SlM.plain (by assumption) (by (simp;omega))) F.foff25_0 rfl ?_;refine Xm rfl rfl rfl (by assumption) (by exact XP (by omega)) F.lay3 rfl rfl rfl ?_;refine Zx ?_;refine YI ?_;refine Zo (Zn ?_)
     refine YA rfl (fun hc13=>?_) (fun hc13=>?_)
     ·replace hc13:=dT hc13
      simp only [List.get_eq_getElem] at hc13
      refine YK (l:=[0,1,2,3,4,5,6]) #[0,1,0,4,15,31,63] _ rfl (by kernel_rfl) (by kernel_rfl) St.drawn (fun _ h=>h) ?_;refine Zk F.foff28_3 ?_;refine ZD F.lay26 ?_;refine X_fs rfl rfl F.ok67 rfl (rNone_ok _) rfl ?_
      rintro _ rfl
      refine VA 62 rfl (show _=aggV [.one (.int .i64 (-1)),Yt 0] from rfl) ?_
      refine Xq rfl rfl F.elem26 F.zero25 rfl rfl (.cons rfl (by constructor) .nil) rfl rfl (by simp only [List.map_cons,List.map_nil] <;> rfl) rfl ?_;intro b14 hob15
      refine Vh (m:=1000000) rfl rfl rfl rfl rfl F.elem26 F.zero25 (by exact Ww rfl) rfl (by assumption) (by repeat first|exact Rem.here _|exact Rem.two|apply Rem.skip|apply Rem.over) (Src.own hob15.lens (by (refine Vv ?_;(repeat (first|exact XG|refine XN ?_|(refine YU ?_ ?_;rfl)));done)) rfl (by repeat first|exact List.Mem.head _|refine List.Mem.tail _ ?_|refine List.mem_append_right _ ?_)) (by (simp;omega)) (by decide) rfl ?_;intro v18 hs17 ho16;obtain ⟨adv18,cpv18,rfl⟩:=ho16.valAt (n:=acc2.length+1) (by (simp;done))
      refine Zk F.foff28_3 ?_;refine Yh F.lay26 ?_;refine Zo (XR (Zn (Zm (l:=[0,1,2]) rfl ?_)));refine Zx ?_;refine XE rfl rfl rfl rfl rfl (by exact Xe (by decide) (by omega)) rfl ?_;refine ZB ?_;refine Zo ?_;refine XJ (a':=[(7,_)]) (k2+1) ((b3,rowO [.one (.int .i64 Yd),Yt Yi,.one (.int .i64 (-1)),Yt 0,.one (.slice ad0 acc.length cp0),.one (.slice adv18 (acc2.length+1) cpv18)] 28)::(hs17++hs0)) (.cons (k:=7) rfl (.cons (k:=5) rfl (.cons (k:=4) rfl (.cons (k:=2) rfl (.cons (k:=1) rfl (.nil)))))) (by exact Mem.le.refl _) (fun w hw=>by first|exact hw|exact hw.c) ?_ ?_
      ·refine ⟨acc2++[Xf],_,_,rfl,rfl,by omega,rfl,by rw [List.map_append];exact ho16,by simp only [List.length_append,List.length_cons,List.length_nil];omega,?_⟩
       rw [List.take_add_one,List.getElem?_eq_getElem (by omega:k2<ZE.length),List.map_append,← hacc2];unfold Ux;simp only [Option.toList_some,List.map_cons,List.map_nil];rw [if_pos (by simp_all)]
      ·omega
     ·replace hc13:=dF hc13
      simp only [List.get_eq_getElem] at hc13
      refine YK (l:=[0,1,2,3,4,5,6,7,8,9,10]) #[0,1,0,4,0,28,60,124,255,511,1023] _ rfl (by kernel_rfl) (by kernel_rfl) St.drawn (fun _ h=>h) ?_;refine Zk F.foff28_3 ?_;refine ZD F.lay26 ?_;refine Zk F.foff28_3 ?_;refine ZD F.lay26 ?_;refine Zx ?_;refine YR rfl rfl rfl rfl F.elem26 (by rfl) (by omega) (by exact SlM.plain (by assumption) (by (simp;omega))) rfl ?_;refine Xm rfl rfl rfl (by assumption) (by exact XP (by omega)) F.lay25 rfl rfl rfl ?_
      refine Xq rfl rfl F.elem26 F.zero25 rfl rfl (.cons rfl (by constructor) .nil) rfl rfl (by simp only [List.map_cons,List.map_nil] <;> rfl) rfl ?_;intro b19 hob20
      refine Vh (m:=1000000) rfl rfl rfl rfl rfl F.elem26 F.zero25 (by exact Ww rfl) rfl (by assumption) (by repeat first|exact Rem.here _|exact Rem.two|apply Rem.skip|apply Rem.over) (Src.own hob20.lens (by (refine Vv ?_;(repeat (first|exact XG|refine XN ?_|(refine YU ?_ ?_;rfl)));done)) rfl (by repeat first|exact List.Mem.head _|refine List.Mem.tail _ ?_|refine List.mem_append_right _ ?_)) (by (simp;omega)) (by decide) rfl ?_;intro v23 hs22 ho21;obtain ⟨adv23,cpv23,rfl⟩:=ho21.valAt (n:=acc2.length+1) (by (simp;done))
      refine Zk F.foff28_3 ?_;refine Yh F.lay26 ?_;refine Zo (XR (Zn (Zm (l:=[0,1,2]) rfl ?_)));refine Zx ?_;refine XE rfl rfl rfl rfl rfl (by exact Xe (by decide) (by omega)) rfl ?_;refine ZB ?_;refine Zo ?_;refine XJ (a':=[(7,_)]) (k2+1) ((b3,rowO [.one (.int .i64 Yd),Yt Yi,.one (.int .i64 (-1)),Yt 0,.one (.slice ad0 acc.length cp0),.one (.slice adv23 (acc2.length+1) cpv23)] 28)::(hs22++hs0)) (.cons (k:=7) rfl (.cons (k:=5) rfl (.cons (k:=4) rfl (.cons (k:=2) rfl (.cons (k:=1) rfl (.nil)))))) (by exact Mem.le.refl _) (fun w hw=>by first|exact hw|exact hw.c) ?_ ?_
      ·refine ⟨acc2++[ZE[k2]],_,_,rfl,rfl,by omega,rfl,by rw [List.map_append];exact ho21,by simp only [List.length_append,List.length_cons,List.length_nil];omega,?_⟩
       rw [List.take_add_one,List.getElem?_eq_getElem (by omega:k2<ZE.length),List.map_append,← hacc2];unfold Ux;simp only [Option.toList_some,List.map_cons,List.map_nil];rw [if_neg (by simp_all)]
      ·omega
    ·replace hc12:=dF hc12
     refine XK ?_
     iterate 2 refine XH ?_
     refine Wh (Zn (Y_pk [5,4] ?_));refine ZK (Zm (l:=[0,1]) rfl ?_);refine ZD F.lay28 ?_;refine Yh F.lay28 ?_;refine Zo (Zn (Y_pk [4] ?_));refine Yo ?_
     refine Yk (.inr rfl) (.cell rfl (by repeat first|exact List.Mem.head _|refine List.Mem.tail _ ?_|refine List.mem_append_right _ ?_) F.lay28 rfl rfl .nil) (fun w hw=>?_)
     obtain rfl:k=ZU.length:=by omega
     obtain rfl:k2=ZE.length:=by omega
     rw [List.take_length] at hacc hacc2
     subst hacc hacc2
     obtain ⟨M9,s1,g1,g2,g3,g4,g5⟩:=OSl.freezeK (f:=ZF.segs) (H:=hs2++H) ho (hw.c)
     obtain ⟨M8,s2,j1,j2,j3,j4,j5⟩:=OSl.freezeK (f:=ZF.segs) ho2 g2
     exact ⟨_,M8,rfl,g1.trans j1,j2,Ws g3 j3 (g5.mono j1) j5 (by rw [g4,j4,kept_ne];unfold Wm ZQ.tb;simp only;rw [if_pos (by assumption)];rfl)⟩
  ·replace hc4:=dF hc4
   refine YG (Zn (Y_pk [5,4,2,1] ?_))
   iterate 2 refine ZK ?_
   refine Zm (l:=[0]) rfl ?_;refine ZB ?_;refine Zo (Zn (Xc (Y_pk [6,5,4,2,1] ?_)));refine Vm (Hin:=[(b3,rowO [.one (.int .i64 Yd),Yt Yi,.one (.int .i64 Ym),Yt Yy,.one (.slice none 0 0),.one (.slice none 0 0)] 28)]) (.succ .zero) (by repeat first|exact Rem.here _|exact Rem.two|apply Rem.skip|apply Rem.over) (fun (k:Nat) M1 h1 z=>∃ (acc:List ZF) (v:Value) (hs:Hp),M1=M∧z=[(6,.int .i64 (k:Int))]∧k≤ZU.length∧h1=(b3,rowO [.one (.int .i64 Yd),Yt Yi,.one (.int .i64 Ym),Yt Yy,.one v,.one (.slice none 0 0)] 28)::hs∧OSl 25 21 v hs (acc.map ZF.segs)∧acc.length≤k∧acc=kept (fun p=>decide (p.addr=addr)) (ZU.take k)) (fun k=>ZU.length-k) (0) (⟨[],_,[],rfl,rfl,by omega,rfl,OSl.nil,by simp,rfl⟩) ?_
   rintro k M1 h1 z hm1 ⟨acc,v0,hs0,hM1,rfl,hk,rfl,ho,hal,hacc⟩
   subst hM1
   obtain ⟨ad0,cp0,rfl⟩:=ho.valL
   have hml:(acc.map ZF.segs).length=acc.length:=List.length_map ..
   iterate 2 refine ZK ?_
   refine Zm (l:=[0,1,2,3,4]) rfl ?_;refine Zx ?_;refine Zk F.foff28_2 ?_;refine ZD F.lay26 ?_;refine YY F.elem26 ?_;refine YI ?_;refine Zo (Zn ?_)
   refine YA rfl (fun hc24=>?_) (fun hc24=>?_)
   ·replace hc24:=dT hc24
    refine YG (Zn (ZK (Xc (ZK (Zm (l:=[0,1,2,3,4,5,6,7]) rfl ?_)))));refine Zk F.foff28_2 ?_;refine ZD F.lay26 ?_;refine Zx ?_;refine YR rfl rfl rfl rfl F.elem26 (by rfl) (by omega) (by exact SlM.plain (by assumption) (by (simp;omega))) rfl ?_;refine XC rfl rfl rfl (by exact SlM.plain (by assumption) (by (simp;omega))) F.foff25_0 rfl ?_;refine Xm rfl rfl rfl (by assumption) (by exact XP (by omega)) F.lay3 rfl rfl rfl ?_;refine Zx ?_;refine YI ?_;refine Zo (Zn ?_)
    refine YA rfl (fun hc25=>?_) (fun hc25=>?_)
    ·replace hc25:=nT hc25
     simp only [List.get_eq_getElem] at hc25
     refine YK (l:=[0,1,2,3,4,5,6,7,8,9,10]) #[0,1,0,4,0,28,60,124,255,511,1023] _ rfl (by kernel_rfl) (by kernel_rfl) St.drawn (fun _ h=>h) ?_;refine Zk F.foff28_2 ?_;refine ZD F.lay26 ?_;refine Zk F.foff28_2 ?_;refine ZD F.lay26 ?_;refine Zx ?_;refine YR rfl rfl rfl rfl F.elem26 (by rfl) (by omega) (by exact SlM.plain (by assumption) (by (simp;omega))) rfl ?_;refine Xm rfl rfl rfl (by assumption) (by exact XP (by omega)) F.lay25 rfl rfl rfl ?_
     refine Xq rfl rfl F.elem26 F.zero25 rfl rfl (.cons rfl (by constructor) .nil) rfl rfl (by simp only [List.map_cons,List.map_nil] <;> rfl) rfl ?_;intro b26 hob27
     refine Vh (m:=1000000) rfl rfl rfl rfl rfl F.elem26 F.zero25 (by exact Ww rfl) rfl (by assumption) (by repeat first|exact Rem.here _|exact Rem.two|apply Rem.skip|apply Rem.over) (Src.own hob27.lens (by (refine Vv ?_;(repeat (first|exact XG|refine XN ?_|(refine YU ?_ ?_;rfl)));done)) rfl (by repeat first|exact List.Mem.head _|refine List.Mem.tail _ ?_|refine List.mem_append_right _ ?_)) (by (simp;omega)) (by decide) rfl ?_;intro v30 hs29 ho28;obtain ⟨adv30,cpv30,rfl⟩:=ho28.valAt (n:=acc.length+1) (by (simp;done))
     refine Zk F.foff28_2 ?_;refine Yh F.lay26 ?_;refine Zo (XR (Zn (Zm (l:=[0,1,2]) rfl ?_)));refine Zx ?_;refine XE rfl rfl rfl rfl rfl (by exact Xe (by decide) (by omega)) rfl ?_;refine ZB ?_;refine Zo ?_;refine XJ (a':=[(6,_)]) (k+1) ((b3,rowO [.one (.int .i64 Yd),Yt Yi,.one (.int .i64 Ym),Yt Yy,.one (.slice adv30 (acc.length+1) cpv30),.one (.slice none 0 0)] 28)::hs29) (.cons (k:=6) rfl (.cons (k:=5) rfl (.cons (k:=4) rfl (.cons (k:=2) rfl (.cons (k:=1) rfl (.nil)))))) (by exact Mem.le.refl _) (fun w hw=>by first|exact hw|exact hw.c) ?_ ?_
     ·refine ⟨acc++[ZU[k]],_,_,rfl,rfl,by omega,rfl,by rw [List.map_append];exact ho28,by simp only [List.length_append,List.length_cons,List.length_nil];omega,?_⟩
      rw [filt_step (by omega:k<ZU.length),← hacc,decide_eq_false (by assumption)];rfl
     ·omega
    ·replace hc25:=nF hc25
     simp only [List.get_eq_getElem] at hc25
     refine YG (XR (Zn (Zm (l:=[0,1,2]) rfl ?_)));refine Zx ?_;refine XE rfl rfl rfl rfl rfl (by exact Xe (by decide) (by omega)) rfl ?_;refine ZB ?_;refine Zo ?_;refine XJ (a':=[(6,_)]) (k+1) ((b3,rowO [.one (.int .i64 Yd),Yt Yi,.one (.int .i64 Ym),Yt Yy,.one (.slice ad0 acc.length cp0),.one (.slice none 0 0)] 28)::hs0) (.cons (k:=6) rfl (.cons (k:=5) rfl (.cons (k:=4) rfl (.cons (k:=2) rfl (.cons (k:=1) rfl (.nil)))))) (by exact Mem.le.refl _) (fun w hw=>by first|exact hw|exact hw.c) ?_ ?_
     ·refine ⟨acc,_,_,rfl,rfl,by omega,rfl,ho,by omega,?_⟩
      rw [filt_step (by omega:k<ZU.length),← hacc,if_pos (by simp_all)]
     ·omega
   ·replace hc24:=dF hc24
    refine XK ?_
    iterate 2 refine XH ?_
    refine Wh (Zn (Y_pk [5,4,2,1] ?_))
    iterate 2 refine ZK ?_
    refine Zm (l:=[0]) rfl ?_;refine ZB ?_;refine Zo (Zn (Xc (Y_pk [7,5,4,2,1] ?_)));refine Vm (Hin:=(b3,rowO [.one (.int .i64 Yd),Yt Yi,.one (.int .i64 Ym),Yt Yy,.one (.slice ad0 acc.length cp0),.one (.slice none 0 0)] 28)::hs0) (.succ .zero) (by repeat first|exact Rem.here _|exact Rem.two|apply Rem.skip|apply Rem.over) (fun (k:Nat) M9 h1 z=>∃ (acc2:List ZF) (v:Value) (hs:Hp),M9=M1∧z=[(7,.int .i64 (k:Int))]∧k≤ZE.length∧h1=(b3,rowO [.one (.int .i64 Yd),Yt Yi,.one (.int .i64 Ym),Yt Yy,.one (.slice ad0 acc.length cp0),.one v] 28)::(hs++hs0)∧OSl 25 21 v hs (acc2.map ZF.segs)∧acc2.length=k∧acc2=(ZE.take k).map (Ux addr)) (fun k=>ZE.length-k) (0) (⟨[],_,[],rfl,rfl,by omega,rfl,OSl.nil,rfl,rfl⟩) ?_
    rintro k2 M2 h2 z hm2 ⟨acc2,v2,hs2,hM2,rfl,hk2,rfl,ho2,hal2,hacc2⟩
    subst hM2
    obtain ⟨ad2,cp2,rfl⟩:=ho2.valL
    have hml2:(acc2.map ZF.segs).length=acc2.length:=List.length_map ..
    simp only [List.append_assoc,List.cons_append,List.nil_append]
    iterate 2 refine ZK ?_
    refine Zm (l:=[0,1,2,3,4]) rfl ?_;refine Zx ?_;refine Zk F.foff28_3 ?_;refine ZD F.lay26 ?_;refine YY F.elem26 ?_;refine YI ?_;refine Zo (Zn ?_)
    refine YA rfl (fun hc31=>?_) (fun hc31=>?_)
    ·replace hc31:=dT hc31
     refine YG (Zn (ZK (Xc (ZK (Zm (l:=[0,1,2,3,4,5,6,7]) rfl ?_)))));refine Zk F.foff28_3 ?_;refine ZD F.lay26 ?_;refine Zx ?_;refine YR rfl rfl rfl rfl F.elem26 (by rfl) (by omega) (by exact SlM.plain (by assumption) (by (simp;omega))) rfl ?_;refine XC rfl rfl rfl (by exact SlM.plain (by assumption) (by (simp;omega))) F.foff25_0 rfl ?_;refine Xm rfl rfl rfl (by assumption) (by exact XP (by omega)) F.lay3 rfl rfl rfl ?_;refine Zx ?_;refine YI ?_;refine Zo (Zn ?_)
     refine YA rfl (fun hc32=>?_) (fun hc32=>?_)
     ·replace hc32:=dT hc32
      simp only [List.get_eq_getElem] at hc32
      refine YK (l:=[0,1,2,3,4,5,6]) #[0,1,0,4,15,31,63] _ rfl (by kernel_rfl) (by kernel_rfl) St.drawn (fun _ h=>h) ?_;refine Zk F.foff28_3 ?_;refine ZD F.lay26 ?_;refine X_fs rfl rfl F.ok67 rfl (rNone_ok _) rfl ?_
      rintro _ rfl
      refine VA 62 rfl (show _=aggV [.one (.int .i64 (-1)),Yt 0] from rfl) ?_
      refine Xq rfl rfl F.elem26 F.zero25 rfl rfl (.cons rfl (by constructor) .nil) rfl rfl (by simp only [List.map_cons,List.map_nil] <;> rfl) rfl ?_;intro b33 hob34
      refine Vh (m:=1000000) rfl rfl rfl rfl rfl F.elem26 F.zero25 (by exact Ww rfl) rfl (by assumption) (by repeat first|exact Rem.here _|exact Rem.two|apply Rem.skip|apply Rem.over) (Src.own hob34.lens (by (refine Vv ?_;(repeat (first|exact XG|refine XN ?_|(refine YU ?_ ?_;rfl)));done)) rfl (by repeat first|exact List.Mem.head _|refine List.Mem.tail _ ?_|refine List.mem_append_right _ ?_)) (by (simp;omega)) (by decide) rfl ?_;intro v37 hs36 ho35;obtain ⟨adv37,cpv37,rfl⟩:=ho35.valAt (n:=acc2.length+1) (by (simp;done))
      refine Zk F.foff28_3 ?_;refine Yh F.lay26 ?_;refine Zo (XR (Zn (Zm (l:=[0,1,2]) rfl ?_)));refine Zx ?_;refine XE rfl rfl rfl rfl rfl (by exact Xe (by decide) (by omega)) rfl ?_;refine ZB ?_;refine Zo ?_;refine XJ (a':=[(7,_)]) (k2+1) ((b3,rowO [.one (.int .i64 Yd),Yt Yi,.one (.int .i64 Ym),Yt Yy,.one (.slice ad0 acc.length cp0),.one (.slice adv37 (acc2.length+1) cpv37)] 28)::(hs36++hs0)) (.cons (k:=7) rfl (.cons (k:=5) rfl (.cons (k:=4) rfl (.cons (k:=2) rfl (.cons (k:=1) rfl (.nil)))))) (by exact Mem.le.refl _) (fun w hw=>by first|exact hw|exact hw.c) ?_ ?_
      ·refine ⟨acc2++[Xf],_,_,rfl,rfl,by omega,rfl,by rw [List.map_append];exact ho35,by simp only [List.length_append,List.length_cons,List.length_nil];omega,?_⟩
       rw [List.take_add_one,List.getElem?_eq_getElem (by omega:k2<ZE.length),List.map_append,← hacc2];unfold Ux;simp only [Option.toList_some,List.map_cons,List.map_nil];rw [if_pos (by simp_all)]
      ·omega
     ·replace hc32:=dF hc32
      simp only [List.get_eq_getElem] at hc32
      refine YK (l:=[0,1,2,3,4,5,6,7,8,9,10]) #[0,1,0,4,0,28,60,124,255,511,1023] _ rfl (by kernel_rfl) (by kernel_rfl) St.drawn (fun _ h=>h) ?_;refine Zk F.foff28_3 ?_;refine ZD F.lay26 ?_;refine Zk F.foff28_3 ?_;refine ZD F.lay26 ?_;refine Zx ?_;refine YR rfl rfl rfl rfl F.elem26 (by rfl) (by omega) (by exact SlM.plain (by assumption) (by (simp;omega))) rfl ?_;refine Xm rfl rfl rfl (by assumption) (by exact XP (by omega)) F.lay25 rfl rfl rfl ?_
      refine Xq rfl rfl F.elem26 F.zero25 rfl rfl (.cons rfl (by constructor) .nil) rfl rfl (by simp only [List.map_cons,List.map_nil] <;> rfl) rfl ?_;intro b38 hob39
      refine Vh (m:=1000000) rfl rfl rfl rfl rfl F.elem26 F.zero25 (by exact Ww rfl) rfl (by assumption) (by repeat first|exact Rem.here _|exact Rem.two|apply Rem.skip|apply Rem.over) (Src.own hob39.lens (by (refine Vv ?_;(repeat (first|exact XG|refine XN ?_|(refine YU ?_ ?_;rfl)));done)) rfl (by repeat first|exact List.Mem.head _|refine List.Mem.tail _ ?_|refine List.mem_append_right _ ?_)) (by (simp;omega)) (by decide) rfl ?_;intro v42 hs41 ho40;obtain ⟨adv42,cpv42,rfl⟩:=ho40.valAt (n:=acc2.length+1) (by (simp;done))
      refine Zk F.foff28_3 ?_;refine Yh F.lay26 ?_;refine Zo (XR (Zn (Zm (l:=[0,1,2]) rfl ?_)));refine Zx ?_;refine XE rfl rfl rfl rfl rfl (by exact Xe (by decide) (by omega)) rfl ?_;refine ZB ?_;refine Zo ?_;refine XJ (a':=[(7,_)]) (k2+1) ((b3,rowO [.one (.int .i64 Yd),Yt Yi,.one (.int .i64 Ym),Yt Yy,.one (.slice ad0 acc.length cp0),.one (.slice adv42 (acc2.length+1) cpv42)] 28)::(hs41++hs0)) (.cons (k:=7) rfl (.cons (k:=5) rfl (.cons (k:=4) rfl (.cons (k:=2) rfl (.cons (k:=1) rfl (.nil)))))) (by exact Mem.le.refl _) (fun w hw=>by first|exact hw|exact hw.c) ?_ ?_
      ·refine ⟨acc2++[ZE[k2]],_,_,rfl,rfl,by omega,rfl,by rw [List.map_append];exact ho40,by simp only [List.length_append,List.length_cons,List.length_nil];omega,?_⟩
       rw [List.take_add_one,List.getElem?_eq_getElem (by omega:k2<ZE.length),List.map_append,← hacc2];unfold Ux;simp only [Option.toList_some,List.map_cons,List.map_nil];rw [if_neg (by simp_all)]
      ·omega
    ·replace hc31:=dF hc31
     refine XK ?_
     iterate 2 refine XH ?_
     refine Wh (Zn (Y_pk [5,4] ?_));refine ZK (Zm (l:=[0,1]) rfl ?_);refine ZD F.lay28 ?_;refine Yh F.lay28 ?_;refine Zo (Zn (Y_pk [4] ?_));refine Yo ?_
     refine Yk (.inr rfl) (.cell rfl (by repeat first|exact List.Mem.head _|refine List.Mem.tail _ ?_|refine List.mem_append_right _ ?_) F.lay28 rfl rfl .nil) (fun w hw=>?_)
     obtain rfl:k=ZU.length:=by omega
     obtain rfl:k2=ZE.length:=by omega
     rw [List.take_length] at hacc hacc2
     subst hacc hacc2
     obtain ⟨M9,s1,g1,g2,g3,g4,g5⟩:=OSl.freezeK (f:=ZF.segs) (H:=hs2++H) ho (hw.c)
     obtain ⟨M8,s2,j1,j2,j3,j4,j5⟩:=OSl.freezeK (f:=ZF.segs) ho2 g2
     exact ⟨_,M8,rfl,g1.trans j1,j2,Ws g3 j3 (g5.mono j1) j5 (by rw [g4,j4,kept_ne];unfold Wm ZQ.tb;simp only;rw [if_neg (by assumption)];rfl)⟩
theorem Done_ok (M:Mem) (t:ZQ) (id:Plc) (ht0:ZQ.ok M t):Fs Tryz.prog 19 [t.enc,aggV [Yt id]] M (fun v=>v= (ofPB (VL t.tb id))):=by
  obtain ⟨⟨Yd,Yi⟩,⟨Ym,Yy⟩,⟨Yq,Yp,ZU⟩,⟨Yg,Yf,ZE⟩⟩:=t
  have YT:SlK M ZF.segs 21 ⟨Yq,Yp,ZU⟩:=ht0.h0
  have WA:SlM M Yq (ZU.map ZF.segs) 21:=YT.h1
  have WI:(ZU.map ZF.segs).length=ZU.length:=List.length_map ..
  have WJ:ZU.length≤9223372036854775807:=YT.h2
  have WK:ZU.length≤Yp:=YT.h3
  have Yu:SlK M ZF.segs 21 ⟨Yg,Yf,ZE⟩:=ht0.h1
  have XQ:SlM M Yg (ZE.map ZF.segs) 21:=Yu.h1
  have Wc:(ZE.map ZF.segs).length=ZE.length:=List.length_map ..
  have XZ:ZE.length≤9223372036854775807:=Yu.h2
  have Wd:ZE.length≤Yf:=Yu.h3
  refine Xv Tryz.func19 rfl Tryz.ntmps19 rfl ?_;intro H
  refine ZK (Zm (l:=[0,1,2,3]) rfl ?_)
  refine Xk ?_;intro b1
  refine Xk ?_;intro b2
  refine YW F.zero25 ?_;intro b3
  refine ZB ?_;refine Zo (Zn (Y_pk [5,4,3,2] ?_));refine ZK (Zm (l:=[0,1,2,3]) rfl ?_);refine ZD F.lay28 ?_;refine X_fs rfl rfl F.ok41 rfl (First_ok _ ⟨⟨_,_⟩,⟨_,_⟩,⟨_,_,_⟩,⟨_,_,_⟩⟩ (by assumption)) rfl ?_
  rintro _ rfl
  refine YW F.zero25 ?_;intro b4
  refine Yh F.lay25 ?_;refine Zo (Zn (Y_pk [6,5,4,3,2] ?_));refine ZK (YK (l:=[0,1,2,3,4,5,6,7,8,9]) #[0,0,2,6,0,0,32,126,255,511] _ rfl (by kernel_rfl) (by kernel_rfl) St.drawn (fun _ h=>h) ?_);refine ZD F.lay25 ?_;refine Zk F.foff28_0 ?_;refine Zk F.foff25_1 ?_
  iterate 2 refine ZD F.lay23 ?_
  refine Zk F.foff25_1 ?_;refine ZD F.lay23 ?_;refine X_fs rfl rfl F.ok62 rfl (Half_ok _ _ _ _) rfl ?_
  rintro _ rfl
  refine Yh F.lay25 ?_;refine ZB ?_;refine Zo (Zn (Y_pk [5,4] ?_));refine Yo ?_
  refine Yk (.inr rfl) (.cell rfl (by repeat first|exact List.Mem.head _|refine List.Mem.tail _ ?_|refine List.mem_append_right _ ?_) F.lay25 rfl rfl (.tmp rfl .nil)) (fun w hw=>?_)
  refine ⟨_,rfl,(hw.c),?_⟩
  clear hw
  rfl
theorem rDone_ok (M:Mem) (t:ZQ) (id:Plc) (ht0:ZQ.ok M t):Fs Tryz.prog 98 [t.enc,aggV [Yt id]] M (fun v=>v= (ofPB (VL t.tb id))):=by
  obtain ⟨⟨Yd,Yi⟩,⟨Ym,Yy⟩,⟨Yq,Yp,ZU⟩,⟨Yg,Yf,ZE⟩⟩:=t
  have YT:SlK M ZF.segs 21 ⟨Yq,Yp,ZU⟩:=ht0.h0
  have WA:SlM M Yq (ZU.map ZF.segs) 21:=YT.h1
  have WI:(ZU.map ZF.segs).length=ZU.length:=List.length_map ..
  have WJ:ZU.length≤9223372036854775807:=YT.h2
  have WK:ZU.length≤Yp:=YT.h3
  have Yu:SlK M ZF.segs 21 ⟨Yg,Yf,ZE⟩:=ht0.h1
  have XQ:SlM M Yg (ZE.map ZF.segs) 21:=Yu.h1
  have Wc:(ZE.map ZF.segs).length=ZE.length:=List.length_map ..
  have XZ:ZE.length≤9223372036854775807:=Yu.h2
  have Wd:ZE.length≤Yf:=Yu.h3
  refine Xv Tryz.func98 rfl Tryz.ntmps98 rfl ?_;intro H
  refine ZK (Zm (l:=[0,1,2,3]) rfl ?_)
  refine Xk ?_;intro b1
  refine Xk ?_;intro b2
  refine YW F.zero25 ?_;intro b3
  refine ZB ?_;refine Zo (Zn (Y_pk [5,4,3,2] ?_));refine ZK (Zm (l:=[0,1,2,3]) rfl ?_);refine ZD F.lay28 ?_;refine X_fs rfl rfl F.ok68 rfl (rFirst_ok _ ⟨⟨_,_⟩,⟨_,_⟩,⟨_,_,_⟩,⟨_,_,_⟩⟩ (by assumption)) rfl ?_
  rintro _ rfl
  refine YW F.zero25 ?_;intro b4
  refine Yh F.lay25 ?_;refine Zo (Zn (Y_pk [6,5,4,3,2] ?_));refine ZK (YK (l:=[0,1,2,3,4,5,6,7,8,9]) #[0,0,2,6,0,0,32,126,255,511] _ rfl (by kernel_rfl) (by kernel_rfl) St.drawn (fun _ h=>h) ?_);refine ZD F.lay25 ?_;refine Zk F.foff28_0 ?_;refine Zk F.foff25_1 ?_
  iterate 2 refine ZD F.lay23 ?_
  refine Zk F.foff25_1 ?_;refine ZD F.lay23 ?_;refine X_fs rfl rfl F.ok131 rfl (rHalf_ok _ _ _ _) rfl ?_
  rintro _ rfl
  refine Yh F.lay25 ?_;refine ZB ?_;refine Zo (Zn (Y_pk [5,4] ?_));refine Yo ?_
  refine Yk (.inr rfl) (.cell rfl (by repeat first|exact List.Mem.head _|refine List.Mem.tail _ ?_|refine List.mem_append_right _ ?_) F.lay25 rfl rfl (.tmp rfl .nil)) (fun w hw=>?_)
  refine ⟨_,rfl,(hw.c),?_⟩
  clear hw
  rfl
end Go.Proofs.YtajmnjefajknoaaGreat
namespace Go.Esp
theorem K_endM0 {P:Program} {e:Env} {M:Mem} {H:Hp} {n:Nat} {fn:Func} {R:Ending→World→Prop} {x:Exit} {vs:List Value} (hx:x=.normal∨x=.ret) (hr:Res P e H fn.results.toList vs) (h:∀ w,St M H w→R (.returned (resV vs)) w) :
    K ⟨n,[],none,[]⟩ (bodyPostM (Fr none) 0 P fn R) x (St M H) e:=K_endM (Ds:=[]) (Hd:=[]) hx hr (fun _ hw=>hw) (by simp) (by simp) h
section
variable {P:Program} {n:Sh} {Q:Exit→Act→World→Prop} {M:Mem} {H H0:Hp} {e:Env} {x:Exit} {c:Code}
theorem OSl.frz {α:Type} {T sz k cp:Nat} {f:α→Segs} {l:List α} {ad:Option Addr} {hs:Hp} (ho:OSl T sz (.slice ad k cp) hs (l.map f)) {w:World} (hw:St M (hs++H) w):∃ M',M.le M'∧St M' H w∧SlK M' f sz ⟨ad,cp,l⟩:=by
  obtain ⟨M',⟨a',c',l'⟩,h1,h2,h3,h4,h5⟩:=ho.freezeK hw
  simp only [Sl.val,Value.slice.injEq] at h3
  obtain ⟨rfl,_,rfl⟩:=h3
  simp only at h4
  subst h4
  exact ⟨M',h1,h2,h5⟩
theorem K_frz {α:Type} {T sz k cp:Nat} {f:α→Segs} {l:List α} {ad:Option Addr} {hs:Hp} (ho:OSl T sz (.slice ad k cp) hs (l.map f)) (hR:Rem hs H H0) (h:∀ M',M.le M'→SlK M' f sz ⟨ad,cp,l⟩→K n Q x (St M' H0) e):K n Q x (St M H) e:=by
  intro a w ha hw
  obtain ⟨M',h1,h2,h3⟩:=ho.frz (hw.perm hR.perm)
  exact h M' h1 h3 a w ha h2
theorem UG {α:Type} {T sz k cp:Nat} {f:α→Segs} {l:List α} {ad:Option Addr} {hs:Hp} (ho:OSl T sz (.slice ad k cp) hs (l.map f)) (hR:Rem hs H H0) (h:∀ M',M.le M'→SlK M' f sz ⟨ad,cp,l⟩→C P n c Q (St M' H0) e):C P n c Q (St M H) e:=by
  intro a w ha hw
  obtain ⟨M',h1,h2,h3⟩:=ho.frz (hw.perm hR.perm)
  exact h M' h1 h3 a w ha h2
end
def PsIs (M:Mem) (v:Value) (l:List ZF):Prop:=∃ s:Sl ZF,v=s.val∧s.l=l∧SlK M ZF.segs 21 s
theorem insP_at {p:ZF}:∀ {l:List ZF} {k:Nat},k≤l.length→(∀ j (h:j<k) (h2:j<l.length),l[j].addr<p.addr)→(∀ h:k<l.length,¬l[k].addr<p.addr)→l.take k++p::l.drop k=insP p l
  | [],k,hk,_,_=>by
    obtain rfl:k=0:=by simpa using hk
    rfl
  | q::l,0,_,_,h2=>by
    unfold insP
    rw [if_neg (show ¬q.addr<p.addr from h2 (by simp))];rfl
  | q::l,k+1,hk,h1,h2=>by
    unfold insP
    rw [if_pos (show q.addr<p.addr from h1 0 (by omega) (by simp)),List.take_succ_cons,List.drop_succ_cons,List.cons_append]
    congr 1
    exact insP_at (by simpa using hk) (fun j hj hj2=>h1 (j+1) (by omega) (by simpa using hj2)) (fun h=>h2 (by simpa using h))
theorem WC {α β:Type} {f:β→α→β} {b:β} {l:List α} {k:Nat} (hk:k<l.length):(l.take (k+1)).foldl f b=f ((l.take k).foldl f b) l[k]:=by
  rw [List.take_add_one,List.getElem?_eq_getElem hk,List.foldl_append];rfl
theorem insP_len {p:ZF}:∀ {l:List ZF},(insP p l).length=l.length+1
  | []=>rfl
  | q::l=>by
    unfold insP
    split
    · simp [insP_len (l:=l)]
    · rfl
def ptW {α:Type} (l:List α) (k j:Nat) (f:α):List α:=l.take k++List.replicate (j-k) f++l.drop j
theorem ptW_len {α:Type} {l:List α} {k j:Nat} {f:α} (hk:k≤j) (hj:j≤l.length):(ptW l k j f).length=l.length:=by
  unfold ptW;simp only [List.length_append,List.length_take,List.length_replicate,List.length_drop];omega
theorem ptW_start {α:Type} {l:List α} {k:Nat} {f:α}:ptW l k k f=l:=by
  unfold ptW;simp
theorem ptW_set {α:Type} {l:List α} {k j:Nat} {f:α} (hk:k≤j) (hj:j<l.length):(ptW l k j f).set j f=ptW l k (j+1) f:=by
  unfold ptW
  have hl:(l.take k++List.replicate (j-k) f).length=j:=by simp only [List.length_append,List.length_take,List.length_replicate];omega
  rw [List.set_append,if_neg (by omega),hl,Nat.sub_self,List.drop_eq_getElem_cons hj,List.set_cons_zero,show j+1-k=(j-k)+1 by omega,List.replicate_succ',← List.append_assoc,List.append_assoc (l.take k++List.replicate (j-k) f)]
  rfl
theorem pointEnd_go {s p:ZF} {k j:Nat} (hj:j<160) (h:¬(k<j∧UJ s p j=false)):Vd s p k j (160-j)=Vd s p k (j+1) (160-(j+1)):=by
  rw [show 160-j=(160-(j+1))+1 by omega]
  conv=>lhs;unfold Vd
  rw [if_neg h]
theorem pointEnd_stop {s p:ZF} {k j:Nat} (hj:j<160) (h1:k<j) (h2:UJ s p j=false):Vd s p k j (160-j)=j:=by
  rw [show 160-j=(160-(j+1))+1 by omega]
  unfold Vd
  rw [if_pos ⟨h1,h2⟩]
theorem pointT_at {t:Tb} {k j:Nat} {p:ZF} (h1:IsTb t) (hk:k<160) (hp:p=t.self∨Xn t.self p) (he:Vd t.self p k k (160-k)=j) :
    WT t k p=({ t with fingers:=ptW t.fingers k j (VY t p) },if j=160 then 0 else (j:Int),0):=by
  unfold WT
  rw [if_pos ⟨h1,by omega,hp⟩]
  simp only [Int.toNat_natCast]
  rw [he]
  rfl
theorem pointT_is {t:Tb} {k j:Nat} {p f:ZF} {n:Int} (h1:IsTb t) (hk:k<160) (hp:p=t.self∨Xn t.self p) (he:Vd t.self p k k (160-k)=j) (hf:VY t p=f) (hn:(if j=160 then 0 else (j:Int))=n) :
    WT t k p=({ t with fingers:=ptW t.fingers k j f },n,0):=by
  rw [pointT_at h1 hk hp he,hf,hn]
theorem pointT_no {t:Tb} {k:Int} {p:ZF} (h:¬(IsTb t∧(0≤k∧k<160)∧(p=t.self∨Xn t.self p))):WT t k p=(Tb.zero,0,1):=if_neg h
def TabPE (M:Mem) (v:Value) (r:Tb×Int×Int):Prop:=∃ u,v=.tuple #[u,.int .i64 r.2.1,.int .i64 r.2.2]∧UF M u r.1
def VS (s:Plc) (k:Nat):List (Nat×Plc):=(List.range' k (160-k)).map fun j=>(j,s+powP j)
theorem startsL_at {s:Plc} {k j:Nat} (hj:k≤j) (h:j<160):VS s k=((List.range' k (j-k)).map fun j=>(j,s+powP j))++(j,s+powP j)::VS s (j+1):=by
  unfold VS
  rw [show 160-k=(j-k)+((160-(j+1))+1) by omega,← List.range'_append_1,List.map_append,show k+(j-k)=j by omega,List.range'_succ]
  rfl
theorem startsL_pre {s:Plc} {k j:Nat} (hj:k≤j):(((List.range' k (j+1-k)).map fun j=>(j,s+powP j)):List (Nat×Plc))=((List.range' k (j-k)).map fun j=>(j,s+powP j))++[(j,s+powP j)]:=by
  rw [show j+1-k=(j-k)+1 by omega,List.range'_1_concat,List.map_append,show k+(j-k)=j by omega]
  rfl
theorem startsL_split {s:Plc} {k:Nat} {pre post:List (Nat×Plc)} {x:Nat×Plc} (hx:VS s k=pre++x::post):k+pre.length<160∧x=(k+pre.length,s+powP (k+pre.length)):=by
  have hl:=congrArg List.length hx
  unfold VS at hl hx
  simp only [List.length_map,List.length_range',List.length_append,List.length_cons] at hl
  have hg:=congrArg (fun l=>l[pre.length]?) hx
  simp only [List.getElem?_map,List.getElem?_append_right (Nat.le_refl _),Nat.sub_self,List.getElem?_cons_zero] at hg
  rw [List.getElem?_range' (by omega)] at hg
  simp only [Option.map_some,Option.some.injEq,Nat.one_mul] at hg
  exact ⟨by omega,hg.symm⟩
end Go.Esp
