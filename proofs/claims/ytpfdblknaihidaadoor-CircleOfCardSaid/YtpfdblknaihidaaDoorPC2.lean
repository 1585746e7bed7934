/-
  Texts of this claim, one behind the other: T1, Rules6, Rules7, CircleN, RingB, CircL, Rules8, NoneP, T2, T3, T5, ShaN, T6, Rules9, ShaL, T7, ShaS, T8.
-/
import Derived.Test.YtpfdblknaihidaaDoorPC1
import Derived.Test.YtpfdblknaihidaaDoorRows
import Derived.Laws.MakeOwn
import Derived.Scope
import Derived.Lib.AppendZeros
import Derived.KernelRfl
import Derived.Laws.BytesArg
set_option linter.unusedSimpArgs false
set_option linter.unusedVariables false
set_option linter.unnecessarySimpa false
set_option maxRecDepth 8000
set_option maxHeartbeats 1000000
namespace Go.Proofs.YtpfdblknaihidaaDoor
open Go.Esp
theorem F.arr34 : arOf Tryd.prog 34 = some (20, 5) := by kernel_rfl
theorem F.ext59 : Ext Tryd.prog 59 Extern.BytealgCompare.compare := fun args w => by kernel_rfl
theorem F.lay5 : lay Tryd.prog 5 = some (false, 1) := by kernel_rfl
theorem F.ok37 : okFn Tryd.prog 37 = true := by kernel_rfl
theorem bcmp_ok (M : Mem) (ba bb : Nat) (a b : Plc) : Fo Tryd.prog 37 [.slice (some ⟨ba, 0, none⟩) 20 20, .slice (some ⟨bb, 0, none⟩) 20 20] M [(bb, rowO [idSeg b] 34), (ba, rowO [idSeg a] 34)] (fun M' v => M' = M ∧ v = .int .i64 (cmpP a b)) := by
  refine fo_enter Tryd.func37 rfl Tryd.ntmps37 rfl ?_; intro H
  refine Zk ?_; refine Za (l := [0]) rfl ?_; refine Zc rfl rfl rfl rfl ?_; refine Zg ?_; refine Ze ?_; refine Zk ?_; refine Za (l := [0, 1, 2, 3]) rfl ?_; refine Zd rfl rfl rfl rfl ?_; refine Zd rfl rfl rfl rfl ?_; refine X_ext rfl rfl F.ext59 rfl (fun w hw => run_compare (hw.own _ _ (by repeat first | exact List.Mem.head _ | refine List.Mem.tail _ ?_ | refine List.mem_append_right _ ?_)) (hw.own _ _ (by repeat first | exact List.Mem.head _ | refine List.Mem.tail _ ?_ | refine List.mem_append_right _ ?_))) rfl ?_; refine Zc rfl rfl rfl rfl ?_; refine Zg ?_; refine Ze ?_; refine Zl (.cons (k := 4) rfl .nil) ?_; refine Zam ?_
  refine Zal (.inr rfl) (.tmp rfl .nil) (fun w hw => ?_)
  exact ⟨_, M, rfl, Mem.le.refl M, hw.cnt (by intro zz; first | exact Nat.le_refl _ | (simp only [Zh, Zf, Zi, cat, List.append_eq, List.append_assoc, List.cons_append, List.nil_append, List.append_nil]; omega)), rfl, rfl⟩
theorem Less_ok (M : Mem) (a : Plc) (b : Plc) : Fs Tryd.prog 25 [aggV [idSeg a], aggV [idSeg b]] M (fun v => v = Value.bool (decide (LessP a b))) := by
  refine Zbd Tryd.func25 rfl Tryd.ntmps25 rfl ?_; intro H
  refine Zk ?_; refine Za (l := [0, 1, 2]) rfl ?_
  refine Zcj rfl rfl rfl (by constructor) rfl ?_; intro b1
  refine Zcj rfl rfl rfl (by constructor) rfl ?_; intro b2
  refine Zc rfl rfl rfl rfl ?_; refine Zg ?_; refine Ze ?_; refine Zl (.cons (k := 4) rfl (.cons (k := 3) rfl (.cons (k := 2) rfl .nil))) ?_; refine Zk ?_; refine Zaf (l := [0, 1, 2, 3, 4]) #[0, 0, 3, 7, 15] _ rfl (by kernel_rfl) (by kernel_rfl) St.drawn (fun _ h => h) ?_; refine X_slice_arr rfl rfl rfl F.arr34 rfl ?_; refine X_slice_arr rfl rfl rfl F.arr34 rfl ?_; refine X_fo rfl rfl F.ok37 rfl (bcmp_ok _ _ _ a b) (by repeat first | exact Rem.here _ | exact Rem.two | apply Rem.skip | apply Rem.over) (putE_some rfl) ?_
  rintro _ M1 _ ⟨hM1, rfl⟩; subst M1
  refine Zaq rfl rfl rfl rfl rfl rfl ?_; refine Zc rfl rfl rfl rfl ?_; refine Zg ?_; refine Ze ?_; refine Zl (.cons (k := 4) rfl .nil) ?_; refine Zam ?_
  refine Zal (.inr rfl) (.tmp rfl .nil) (fun w hw => ?_)
  refine ⟨_, rfl, (hw.cnt (by intro zz; first | exact Nat.le_refl _ | (simp only [Zh, Zf, Zi, cat, List.append_eq, List.append_assoc, List.cons_append, List.nil_append, List.append_nil]; omega) | (simp only [Zh, Zf, Zi, cat, List.append_eq, List.append_assoc, List.cons_append, List.nil_append, List.append_nil, PeerV.segs]; omega))), ?_⟩
  clear hw
  exact congrArg Value.bool (decide_eq_decide.2 cmpP_neg)
theorem rLess_ok (M : Mem) (a : Plc) (b : Plc) : Fs Tryd.prog 17 [aggV [idSeg a], aggV [idSeg b]] M (fun v => v = Value.bool (decide (LessP a b))) := by
  refine Zbd Tryd.func17 rfl Tryd.ntmps17 rfl ?_; intro H
  refine Zk ?_; refine Za (l := [0, 1, 2]) rfl ?_
  refine Zcj rfl rfl rfl (by constructor) rfl ?_; intro b1
  refine Zcj rfl rfl rfl (by constructor) rfl ?_; intro b2
  refine Zc rfl rfl rfl rfl ?_; refine Zg ?_; refine Ze ?_; refine Zl (.cons (k := 4) rfl (.cons (k := 3) rfl (.cons (k := 2) rfl .nil))) ?_; refine Zk ?_; refine Zk ?_; refine Za (l := [0]) rfl ?_; refine Zc rfl rfl rfl rfl ?_; refine Zg ?_; refine Ze ?_; refine Zad ?_; refine Zl (.cons (k := 5) rfl (.cons (k := 4) rfl (.cons (k := 3) rfl (.cons (k := 2) rfl .nil)))) ?_; refine Zbz (.succ .zero) (fun (k : Nat) z => z = [(5, .int .i64 (k : Int))] ∧ k ≤ 20 ∧ (∀ j, j < k → idB a j = idB b j)) (fun k => 20 - k) (0) (⟨rfl, by omega, by (intro j hj; omega)⟩) ?_
  rintro k _ ⟨rfl, hk, hI⟩
  refine Zk ?_; refine Zk ?_; refine Za (l := [0, 1]) rfl ?_; refine Zd rfl rfl rfl rfl ?_; refine Zaq rfl rfl rfl rfl rfl rfl ?_; refine Zg ?_; refine Ze ?_
  refine Zai rfl (fun hc3 => ?_) (fun hc3 => ?_)
  · first | replace hc3 := dT hc3 | replace hc3 := dF hc3 | replace hc3 := nT hc3 | replace hc3 := nF hc3 | skip
    try simp only [PeerV.eta] at hc3
    first
    | (exfalso; omega)
    | (exfalso; simp [eqX] at hc3; done)
    | contradiction
    | skip
      refine Zah ?_; refine Ze ?_; refine Zk ?_; refine Zad ?_; refine Zk ?_; refine Zaf (l := [0, 1, 2, 3, 4, 5, 6]) #[0, 1, 3, 0, 8, 24, 63] _ rfl (by kernel_rfl) (by kernel_rfl) St.drawn (fun _ h => h) ?_; refine Zd rfl rfl rfl rfl ?_; refine Zw rfl rfl rfl rfl F.arr34 (by first | rfl | exact (Int.toNat_of_nonneg (by omega)).symm) (by first | omega | decide | (simp; omega)) rfl ?_
      first | refine Zan rfl rfl rfl (by repeat first | exact List.Mem.head _ | refine List.Mem.tail _ ?_ | refine List.mem_append_right _ ?_) F.lay5 rfl rfl rfl ?_ | refine Zv rfl rfl rfl (by first | assumption | exact SlM.mono (by assumption) (by assumption)) (by first | exact Zb (by omega) | exact List.getElem?_eq_getElem (by omega) | exact rfl | exact Zb (by first | (simp; done) | (simp; omega))) F.lay5 rfl rfl rfl ?_ | refine Zu rfl rfl rfl (by assumption) (by first | exact Zb (by omega) | exact List.getElem?_eq_getElem (by omega) | exact rfl | exact Zb (by first | (simp; done) | (simp; omega))) F.lay5 rfl rfl rfl ?_ | refine Zs rfl rfl rfl (by first | assumption | exact Mem.get_of (by assumption) (by repeat first | assumption | refine Mem.le.trans (by assumption) ?_)) F.lay5 rfl rfl rfl ?_ | refine Zp rfl rfl rfl (by assumption) (by repeat first | exact Rem.here _ | exact Rem.two | apply Rem.skip | apply Rem.over) (by first | exact Zb (by omega) | exact List.getElem?_eq_getElem (by omega) | exact rfl | exact Zb (by first | (simp; done) | (simp; omega))) F.lay5 rfl rfl rfl ?_ | refine Zr rfl rfl rfl (by repeat first | exact List.Mem.head _ | refine List.Mem.tail _ ?_ | refine List.mem_append_right _ ?_) F.lay5 (by first | exact Zbw (by first | omega | decide) | exact Zbk (by first | omega | decide)) rfl ?_
      refine Zd rfl rfl rfl rfl ?_; refine Zw rfl rfl rfl rfl F.arr34 (by first | rfl | exact (Int.toNat_of_nonneg (by omega)).symm) (by first | omega | decide | (simp; omega)) rfl ?_
      first | refine Zan rfl rfl rfl (by repeat first | exact List.Mem.head _ | refine List.Mem.tail _ ?_ | refine List.mem_append_right _ ?_) F.lay5 rfl rfl rfl ?_ | refine Zv rfl rfl rfl (by first | assumption | exact SlM.mono (by assumption) (by assumption)) (by first | exact Zb (by omega) | exact List.getElem?_eq_getElem (by omega) | exact rfl | exact Zb (by first | (simp; done) | (simp; omega))) F.lay5 rfl rfl rfl ?_ | refine Zu rfl rfl rfl (by assumption) (by first | exact Zb (by omega) | exact List.getElem?_eq_getElem (by omega) | exact rfl | exact Zb (by first | (simp; done) | (simp; omega))) F.lay5 rfl rfl rfl ?_ | refine Zs rfl rfl rfl (by first | assumption | exact Mem.get_of (by assumption) (by repeat first | assumption | refine Mem.le.trans (by assumption) ?_)) F.lay5 rfl rfl rfl ?_ | refine Zp rfl rfl rfl (by assumption) (by repeat first | exact Rem.here _ | exact Rem.two | apply Rem.skip | apply Rem.over) (by first | exact Zb (by omega) | exact List.getElem?_eq_getElem (by omega) | exact rfl | exact Zb (by first | (simp; done) | (simp; omega))) F.lay5 rfl rfl rfl ?_ | refine Zr rfl rfl rfl (by repeat first | exact List.Mem.head _ | refine List.Mem.tail _ ?_ | refine List.mem_append_right _ ?_) F.lay5 (by first | exact Zbw (by first | omega | decide) | exact Zbk (by first | omega | decide)) rfl ?_
      refine Zaq rfl rfl rfl rfl rfl rfl ?_; refine Zg ?_; refine Ze ?_
      refine Zai rfl (fun hc4 => ?_) (fun hc4 => ?_)
      · first | replace hc4 := dT hc4 | replace hc4 := dF hc4 | replace hc4 := nT hc4 | replace hc4 := nF hc4 | skip
        try simp only [PeerV.eta] at hc4
        first
        | (exfalso; omega)
        | (exfalso; simp [eqX] at hc4; done)
        | contradiction
        | skip
          refine Zk ?_; refine Zaf (l := [0, 1, 2, 3, 4, 5, 6, 7]) #[0, 1, 3, 0, 8, 24, 63, 127] _ rfl (by kernel_rfl) (by kernel_rfl) St.drawn (fun _ h => h) ?_; refine Zd rfl rfl rfl rfl ?_; refine Zw rfl rfl rfl rfl F.arr34 (by first | rfl | exact (Int.toNat_of_nonneg (by omega)).symm) (by first | omega | decide | (simp; omega)) rfl ?_
          first | refine Zan rfl rfl rfl (by repeat first | exact List.Mem.head _ | refine List.Mem.tail _ ?_ | refine List.mem_append_right _ ?_) F.lay5 rfl rfl rfl ?_ | refine Zv rfl rfl rfl (by first | assumption | exact SlM.mono (by assumption) (by assumption)) (by first | exact Zb (by omega) | exact List.getElem?_eq_getElem (by omega) | exact rfl | exact Zb (by first | (simp; done) | (simp; omega))) F.lay5 rfl rfl rfl ?_ | refine Zu rfl rfl rfl (by assumption) (by first | exact Zb (by omega) | exact List.getElem?_eq_getElem (by omega) | exact rfl | exact Zb (by first | (simp; done) | (simp; omega))) F.lay5 rfl rfl rfl ?_ | refine Zs rfl rfl rfl (by first | assumption | exact Mem.get_of (by assumption) (by repeat first | assumption | refine Mem.le.trans (by assumption) ?_)) F.lay5 rfl rfl rfl ?_ | refine Zp rfl rfl rfl (by assumption) (by repeat first | exact Rem.here _ | exact Rem.two | apply Rem.skip | apply Rem.over) (by first | exact Zb (by omega) | exact List.getElem?_eq_getElem (by omega) | exact rfl | exact Zb (by first | (simp; done) | (simp; omega))) F.lay5 rfl rfl rfl ?_ | refine Zr rfl rfl rfl (by repeat first | exact List.Mem.head _ | refine List.Mem.tail _ ?_ | refine List.mem_append_right _ ?_) F.lay5 (by first | exact Zbw (by first | omega | decide) | exact Zbk (by first | omega | decide)) rfl ?_
          refine Zd rfl rfl rfl rfl ?_; refine Zw rfl rfl rfl rfl F.arr34 (by first | rfl | exact (Int.toNat_of_nonneg (by omega)).symm) (by first | omega | decide | (simp; omega)) rfl ?_
          first | refine Zan rfl rfl rfl (by repeat first | exact List.Mem.head _ | refine List.Mem.tail _ ?_ | refine List.mem_append_right _ ?_) F.lay5 rfl rfl rfl ?_ | refine Zv rfl rfl rfl (by first | assumption | exact SlM.mono (by assumption) (by assumption)) (by first | exact Zb (by omega) | exact List.getElem?_eq_getElem (by omega) | exact rfl | exact Zb (by first | (simp; done) | (simp; omega))) F.lay5 rfl rfl rfl ?_ | refine Zu rfl rfl rfl (by assumption) (by first | exact Zb (by omega) | exact List.getElem?_eq_getElem (by omega) | exact rfl | exact Zb (by first | (simp; done) | (simp; omega))) F.lay5 rfl rfl rfl ?_ | refine Zs rfl rfl rfl (by first | assumption | exact Mem.get_of (by assumption) (by repeat first | assumption | refine Mem.le.trans (by assumption) ?_)) F.lay5 rfl rfl rfl ?_ | refine Zp rfl rfl rfl (by assumption) (by repeat first | exact Rem.here _ | exact Rem.two | apply Rem.skip | apply Rem.over) (by first | exact Zb (by omega) | exact List.getElem?_eq_getElem (by omega) | exact rfl | exact Zb (by first | (simp; done) | (simp; omega))) F.lay5 rfl rfl rfl ?_ | refine Zr rfl rfl rfl (by repeat first | exact List.Mem.head _ | refine List.Mem.tail _ ?_ | refine List.mem_append_right _ ?_) F.lay5 (by first | exact Zbw (by first | omega | decide) | exact Zbk (by first | omega | decide)) rfl ?_
          refine Zaq rfl rfl rfl rfl rfl rfl ?_; refine Zc rfl rfl rfl rfl ?_; refine Zg ?_; refine Ze ?_; refine Zam ?_; refine Zbe ?_; refine Zar ?_; refine Zar ?_; refine Zbe ?_; refine Zar ?_
          refine Zal (.inr rfl) (.tmp rfl .nil) (fun w hw => ?_)
          refine ⟨_, rfl, (hw.cnt (by intro zz; first | exact Nat.le_refl _ | (simp only [Zh, Zf, Zi, cat, List.append_eq, List.append_assoc, List.cons_append, List.nil_append, List.append_nil]; omega) | (simp only [Zh, Zf, Zi, cat, List.append_eq, List.append_assoc, List.cons_append, List.nil_append, List.append_nil, PeerV.segs]; omega))), ?_⟩
          clear hw
          refine congrArg Value.bool ?_
          first | exact decide_eq_decide.2 ((Int.ofNat_lt).trans (less_at (by omega) hI (by omega)).symm) | (have e : a = b := plc_eq (fun j hj => hI j (by omega)); subst e; simp [LessP])
      · first | replace hc4 := dT hc4 | replace hc4 := dF hc4 | replace hc4 := nT hc4 | replace hc4 := nF hc4 | skip
        try simp only [PeerV.eta] at hc4
        first
        | (exfalso; omega)
        | (exfalso; simp [eqX] at hc4; done)
        | contradiction
        | skip
          refine Zah ?_; refine Zbs ?_; refine Ze ?_; refine Za (l := [0, 1, 2]) rfl ?_; refine Zd rfl rfl rfl rfl ?_; refine Zav rfl rfl rfl rfl rfl (by first | exact Zaa (by decide) (by omega) | exact Zm (by decide) (by omega) | exact Zo (by decide) (by omega) | exact Zn (by decide) (by omega) | exact Zt _ | exact Zz _ | exact Zq _ | exact rfl) rfl ?_; refine Zc rfl rfl rfl rfl ?_; refine Zg ?_; refine Zbp (a' := [(5, _)]) (k + 1) (.cons (k := 5) rfl (.cons (k := 4) rfl (.cons (k := 3) rfl (.cons (k := 2) rfl (.nil))))) (fun w hw => by first | exact hw | exact hw.cnt (by intro zz; first | exact Nat.le_refl _ | (simp only [Zh, Zf, Zi, cat, List.append_eq, List.append_assoc, List.cons_append, List.nil_append, List.append_nil]; omega) | (simp only [Zh, Zf, Zi, cat, List.append_eq, List.append_assoc, List.cons_append, List.nil_append, List.append_nil, PeerV.segs]; omega))) ?_ ?_
          · refine ⟨rfl, by omega, ?_⟩
            intro j hj; rcases Nat.lt_or_ge j k with h9 | h9; exact hI j h9; obtain rfl : j = k := by omega
            omega
          · omega
  · first | replace hc3 := dT hc3 | replace hc3 := dF hc3 | replace hc3 := nT hc3 | replace hc3 := nF hc3 | skip
    try simp only [PeerV.eta] at hc3
    first
    | (exfalso; omega)
    | (exfalso; simp [eqX] at hc3; done)
    | contradiction
    | skip
      refine Zbl ?_; refine Zao ?_; refine Zao ?_; refine Zbx ?_; refine Ze ?_; refine Zl (.cons (k := 4) rfl .nil) ?_; refine Zk ?_; refine Za (l := [0]) rfl ?_; refine Zc rfl rfl rfl rfl ?_; refine Zg ?_; refine Ze ?_; refine Zam ?_
      refine Zal (.inr rfl) (.tmp rfl .nil) (fun w hw => ?_)
      refine ⟨_, rfl, (hw.cnt (by intro zz; first | exact Nat.le_refl _ | (simp only [Zh, Zf, Zi, cat, List.append_eq, List.append_assoc, List.cons_append, List.nil_append, List.append_nil]; omega) | (simp only [Zh, Zf, Zi, cat, List.append_eq, List.append_assoc, List.cons_append, List.nil_append, List.append_nil, PeerV.segs]; omega))), ?_⟩
      clear hw
      refine congrArg Value.bool ?_
      first | exact decide_eq_decide.2 ((Int.ofNat_lt).trans (less_at (by omega) hI (by omega)).symm) | (have e : a = b := plc_eq (fun j hj => hI j (by omega)); subst e; simp [LessP])
end Go.Proofs.YtpfdblknaihidaaDoor
namespace Go.Esp
theorem rowsCells_len {sz : Nat} {rows : List Segs} (h : lens sz rows) : (rowsCells rows).length = rows.length * sz := Zaj h
theorem lens.take {sz : Nat} {rows : List Segs} (h : lens sz rows) (k : Nat) : lens sz (rows.take k) := fun r hr => h r (List.mem_of_mem_take hr)
theorem lens.drop {sz : Nat} {rows : List Segs} (h : lens sz rows) (k : Nat) : lens sz (rows.drop k) := fun r hr => h r (List.mem_of_mem_drop hr)
theorem rowsCells_take {sz : Nat} {rows : List Segs} (h : lens sz rows) {k : Nat} (hk : k ≤ rows.length) : rowsCells (rows.take k) = (rowsCells rows).take (k * sz) := by
  have e : rowsCells rows = rowsCells (rows.take k) ++ rowsCells (rows.drop k) := by rw [← Zax, List.take_append_drop]
  have hl : (rowsCells (rows.take k)).length = k * sz := by rw [Zaj (h.take k)]; simp [hk]
  rw [e, ← hl, List.take_left]
theorem rowsCells_drop {sz : Nat} {rows : List Segs} (h : lens sz rows) {k : Nat} (hk : k ≤ rows.length) : rowsCells (rows.drop k) = (rowsCells rows).drop (k * sz) := by
  have e : rowsCells rows = rowsCells (rows.take k) ++ rowsCells (rows.drop k) := by rw [← Zax, List.take_append_drop]
  have hl : (rowsCells (rows.take k)).length = k * sz := by rw [Zaj (h.take k)]; simp [hk]
  rw [e, ← hl, List.drop_left]
theorem SlM.take {M : Mem} {a : Option Addr} {rows : List Segs} {sz : Nat} (h : SlM M a rows sz) {k : Nat} (hk : k ≤ rows.length) : SlM M a (rows.take k) sz := by
  refine ⟨h.lens.take k, fun hn => ?_⟩
  obtain ⟨b, off, c, T, fz, h1, h2, h3⟩ := h.there (fun e => hn (by rw [e]; simp))
  refine ⟨b, off, c, T, fz, h1, h2, ?_⟩
  rw [rowsCells_take h.lens hk, ← h3, List.take_take, List.length_take, Nat.min_eq_left hk]
  congr 1
  have := Nat.mul_le_mul_right sz hk
  omega
def shiftA (a : Option Addr) (c k sz : Nat) : Option Addr := if c = k then a else a.map (·.add (k * sz))
theorem SlM.drop {M : Mem} {a : Option Addr} {rows : List Segs} {sz c : Nat} (h : SlM M a rows sz) {k : Nat} (hk : k ≤ rows.length) (hc : rows.length ≤ c) : SlM M (shiftA a c k sz) (rows.drop k) sz := by
  refine ⟨h.lens.drop k, fun hn => ?_⟩
  obtain ⟨b, off, x, T, fz, h1, h2, h3⟩ := h.there (fun e => hn (by rw [e]; simp))
  have hlt : k < rows.length := by
    rcases Nat.lt_or_ge k rows.length with h' | h'
    · exact h'
    · exact (hn (List.drop_eq_nil_of_le h')).elim
  refine ⟨b, off + k * sz, x, T, fz, ?_, h2, ?_⟩
  · unfold shiftA
    rw [if_neg (by omega), h1]; simp [Addr.add_lit]
  · rw [rowsCells_drop h.lens hk, ← h3, List.drop_take, List.drop_drop, List.length_drop, Nat.sub_mul]
theorem Zbf {r : Segs} (h : flat r) : ∀ u ∈ rowsCells [r], u.oneCell' = true := fun u hu => by
  simp only [rowsCells, List.append_nil] at hu
  exact h u hu
theorem Addr.add_zero' (a : Addr) : a.add 0 = a := by unfold Addr.add; simp
theorem pieceV_take {α : Type} {a : Option Addr} {sz c k : Nat} {l : List α} (hk : k ≤ l.length) : pieceV a sz 0 k c = Sl.val ⟨a, c, l.take k⟩ := by
  unfold pieceV
  simp only [Nat.zero_mul, Nat.sub_zero, Sl.val, List.length_take, Nat.min_eq_left hk]
  congr 1
  split
  · rfl
  · cases a with
    | none => rfl
    | some x => simp [Addr.add_zero']
theorem pieceV_drop {α : Type} {a : Option Addr} {sz c k : Nat} {l : List α} : pieceV a sz k l.length c = Sl.val ⟨shiftA a c k sz, c - k, l.drop k⟩ := by
  unfold pieceV shiftA
  simp only [Sl.val, List.length_drop]
theorem SlK.take {α : Type} {M : Mem} {f : α → Segs} {sz : Nat} {a : Option Addr} {c : Nat} {l : List α} (h : SlK M f sz ⟨a, c, l⟩) (k : Nat) (hk : k ≤ l.length) : SlK M f sz ⟨a, c, l.take k⟩ := by
  have h2 := h.h2; have h3 := h.h3
  simp only at h2 h3
  refine ⟨?_, ?_, ?_⟩
  · simp only [List.map_take]; exact h.h1.take (by simpa using hk)
  · simp only [List.length_take]; omega
  · simp only [List.length_take]; omega
theorem SlK.drop {α : Type} {M : Mem} {f : α → Segs} {sz : Nat} {a : Option Addr} {c : Nat} {l : List α} (h : SlK M f sz ⟨a, c, l⟩) (k : Nat) (hk : k ≤ l.length) : SlK M f sz ⟨shiftA a c k sz, c - k, l.drop k⟩ := by
  have h2 := h.h2; have h3 := h.h3
  simp only at h2 h3
  refine ⟨?_, ?_, ?_⟩
  · simp only [List.map_drop]; exact h.h1.drop (by simpa using hk) (by simpa using h3)
  · simp only [List.length_drop]; omega
  · simp only [List.length_drop]; omega
theorem OSl.caps {T sz l c : Nat} {a : Option Addr} {hs : Hp} {rows : List Segs} (h : OSl T sz (.slice a l c) hs rows) : rows.length ≤ c ∧ c ≤ maxLen ∧ l = rows.length := by
  generalize hv : Value.slice a l c = v at h
  cases h with
  | nil => cases hv; exact ⟨Nat.le_refl _, Nat.zero_le _, rfl⟩
  | own b c' _ cur g1 g2 g3 g4 g5 => cases hv; exact ⟨g2, g3, rfl⟩
theorem OSl.noneAll {α : Type} {T sz c : Nat} {f : α → Segs} {l : List α} {hs : Hp} (h : OSl T sz (.slice none l.length c) hs (l.map f)) : l = [] ∧ c = 0 ∧ hs = [] := by
  generalize hv : Value.slice none l.length c = v at h
  generalize hr : l.map f = r at h
  cases h with
  | nil => simp only [Value.slice.injEq] at hv; exact ⟨List.map_eq_nil_iff.1 hr, hv.2.2, rfl⟩
  | own => simp at hv
theorem OSl.someAll {T sz l c : Nat} {ad : Addr} {hs : Hp} {rows : List Segs} (h : OSl T sz (.slice (some ad) l c) hs rows) : ∃ b, ad = ⟨b, 0, none⟩ := by
  generalize hv : Value.slice (some ad) l c = v at h
  cases h with
  | nil => simp at hv
  | own b => simp only [Value.slice.injEq, Option.some.injEq] at hv; exact ⟨b, hv.1⟩
theorem OSl.freezeK {α : Type} {T sz : Nat} {v : Value} {hs : Hp} {f : α → Segs} {l : List α} {M : Mem} {H : Hp} (ho : OSl T sz v hs (l.map f)) {w : World} (hw : St M (hs ++ H) w) : ∃ (M' : Mem) (s : Sl α), M.le M' ∧ St M' H w ∧ v = s.val ∧ s.l = l ∧ SlK M' f sz s := by
  obtain ⟨M', a, c, h1, h2, h3, h4⟩ := ho.freeze hw
  rw [h3] at ho
  obtain ⟨g1, g2, _⟩ := ho.caps
  simp only [List.length_map] at g1
  exact ⟨M', ⟨a, c, l⟩, h1, h2, by rw [h3]; simp [Sl.val], rfl, h4, by simp only; omega, g1⟩
end Go.Esp
namespace Go.Esp
section
variable {P : Program} {n : Sh} {ops : Array Oper} {Q : Exit → Act → World → Prop} {rest : List Nat} {M M' : Mem} {H H' H0 : Hp} {e : Env} {J S : World → Prop} {A : As} {i : Nat}
  {dst : Option Tmp} {d : Tmp} {op : Op} {ty : TypeId} {pos : String} {af : Array Edge} {gd : Option (Nat × Bool)}
theorem rows_one {α : Type} {f : α → Segs} (hf : ∀ x, flat (f x)) : ∀ (l : List α), ∀ u ∈ rowsCells (l.map f), u.oneCell' = true
  | [], u, hu => by cases hu
  | x :: l, u, hu => by
    rcases List.mem_append.1 (show u ∈ Segs.cells (f x) ++ rowsCells (l.map f) from hu) with hu | hu
    · exact hf x u hu
    · exact rows_one hf l u hu
theorem SlM.none_nil {α : Type} {f : α → Segs} {sz : Nat} {l : List α} (h : SlM M Option.none (l.map f) sz) : l = [] := by
  cases l with
  | nil => rfl
  | cons x l => obtain ⟨b, off, c, T, fz, h1, _⟩ := h.there (by simp); cases h1
theorem SlM.src {ad : Addr} {rows : List Segs} {sz l c : Nat} (h : SlM M (some ad) rows sz) (h1 : ∀ u ∈ rowsCells rows, u.oneCell' = true) (hl : l = rows.length) : Src M H sz (.slice (some ad) l c) rows := by
  subst hl
  refine ⟨h.lens, h1, ad, c, rfl, fun w hw j u hu => ?_⟩
  obtain ⟨b, off, x, T, fz, e1, h2, h3⟩ := h.there (fun e => by rw [e] at hu; simp [rowsCells] at hu)
  cases e1
  rw [Addr.add_lit, cell_of_row (hw.mem _ _ h2)]
  rw [← h3, List.getElem?_take, List.getElem?_drop] at hu
  split at hu
  · simpa using hu
  · cases hu
theorem X_append_none {t E sz by_ : Nat} {x y : Operand} {a : Option Addr} {l c c' : Nat} {ats : Array TypeId} (hi : ops[i]? = some ⟨some d, .call ⟨.builtin .append, #[x, y], ats⟩, ty, pos, af, gd⟩) (hg : want ops e gd = some true)
    (hx : ev e x = some (.slice a l c)) (hy : ev e y = some (.slice Option.none 0 c')) (hat : ats = #[t, t]) (ht : slOf P t = some (E, sz, by_)) (hlc : l ≤ c) (hd : Nat.ble (d + 1) n.sz = true)
    (hk : XD P n ops Q rest (St M H) ⟨M, H⟩ ((d, .slice a l c) :: e)) (hnw : n.wrs.contains i = false := by rfl) : XD P n ops Q (i :: rest) J ⟨M, H⟩ e := by
  subst hat
  refine X_mut hi rfl hg (fun a' w ha hw => ?_) hnw
  obtain ⟨it, hu, hit, rfl, rfl⟩ := elemOf_spec ht
  have hr : (Builtin.append_ #[t, t] ty #[.slice a l c, .slice Option.none 0 c']).run P w = .ok (.slice a l c) w := by
    cases a <;> simp [Builtin.append_, run_underlying hu, sizeOf, typeInfo, hit, Builtin.lenOf, Builtin.firstCells, hlc, storeCells]
  unfold Oper.does
  have : (execOp a'.eval ⟨some d, .call ⟨.builtin .append, #[x, y], #[t, t]⟩, ty, pos, af, gd⟩).run P w = .ok (.value (.slice a l c)) w := by
    simp only [execOp, resolve, pure_bind, invoke]
    have : #[x, y].map a'.eval = #[.slice a l c, .slice Option.none 0 c'] := by simp [ha.ev hx, ha.ev hy]
    rw [this]
    exact Zbr hr
  rw [this]
  exact ⟨⟨M, H⟩, _, hw, ha.put hd _, hk⟩
theorem made_cells {z : Array Value} {zr : Segs} (hz : z.toList = Segs.cells zr) (hp : 0 < z.size) : ∀ (n : Nat), (madeCells z (n * z.size)).toList = rowsCells (List.replicate n zr)
  | 0 => by simp [madeCells, rowsCells]
  | n + 1 => by
    have ih := made_cells hz hp n
    rw [List.replicate_succ', Zax, ← ih]
    simp only [madeCells, Array.toList_map, Array.toList_range, rowsCells, List.append_nil, Nat.add_mul, Nat.one_mul] at *
    rw [List.range_add, List.map_append]
    congr 1
    rw [← hz, List.map_map]
    apply List.ext_getElem
    · simp
    · intro j h1 h2
      simp only [List.length_map, List.length_range] at h1
      simp only [List.getElem_map, List.getElem_range, Function.comp, Nat.mul_add_mod_self_right]
      rw [Nat.mod_eq_of_lt h1, getElem!_pos z j h1]
      simp
theorem X_makeSliceO {t E sz by_ k : Nat} {z : Value} {zr : Segs} {x y : Operand} (hi : ops[i]? = some ⟨some d, .makeSlice t x y, ty, pos, af, gd⟩) (hg : want ops e gd = some true)
    (hx : ev e x = some (.int .i64 (k : Int))) (hy : ev e y = some (.int .i64 (k : Int))) (ht : slOf P t = some (E, sz, by_)) (hz : zeroOf P E = some z) (hzr : z.cells.toList = Segs.cells zr) (hzs : z.cells.size = sz) (hsz : Nat.ble 1 sz = true)
    (hk9 : k * sz ≤ 16777216) (hkb : by_ * k ≤ 281474976710656) (hd : Nat.ble (d + 1) n.sz = true)
    (hk : ∀ (b : Nat) hs', OSl E sz (.slice (some ⟨b, 0, Option.none⟩) k k) hs' (List.replicate k zr) → XD P n ops Q rest J ⟨M, hs' ++ H⟩ ((d, .slice (some ⟨b, 0, Option.none⟩) k k) :: e)) : XD P n ops Q (i :: rest) J ⟨M, H⟩ e := by
  obtain ⟨it, hu, hit, rfl, rfl⟩ := elemOf_spec ht
  have hz' : it.zero = some z := by simpa [zeroOf, hit] using hz
  have hpos : 1 ≤ it.size := Nat.le_of_ble_eq_true hsz
  have hkl : k ≤ k * it.size := Nat.le_mul_of_pos_right k hpos
  have hb9 : (it.bytes : Int) * (k : Int) ≤ 281474976710656 := by
    have h9 : ((it.bytes * k : Nat) : Int) ≤ 281474976710656 := by omega
    simpa using h9
  have hlen : Segs.len zr = it.size := by rw [← hzs, ← Segs.cells_length, ← hzr]; simp
  have ho : ∀ b, OSl E it.size (.slice (some ⟨b, 0, Option.none⟩) k k) [(b, .cells (madeCells z.cells (k * it.size)) E (0, 0))] (List.replicate k zr) := fun b => by
    have hll : lens it.size (List.replicate k zr) := fun r hr => by rw [List.eq_of_mem_replicate hr]; exact hlen
    have hm := made_cells hzr (by omega) k
    rw [hzs] at hm
    have := OSl.own (T := E) (sz := it.size) b k (List.replicate k zr) (madeCells z.cells (k * it.size)) hll (by simp) (by simp only [maxLen]; omega) (by simp [madeCells]) (by
      rw [hm, ← Zaj hll]; exact List.take_length)
    simpa using this
  refine X_newV (x := .cells (madeCells z.cells (k * it.size)) E (0, 0)) (g := fun b => .slice (some ⟨b, 0, Option.none⟩) k k) hi rfl hg (fun a ha w => ?_) (e' := fun b => (d, .slice (some ⟨b, 0, Option.none⟩) k k) :: e) (fun a b ha => ha.put hd _) (fun b => hk b _ (ho b))
  have hr := run_makeSlice (P := P) (w := w) t E it z hu hit hz' .i64 .i64 (k : Int) (k : Int) (by omega) (by omega) (by simpa using hk9) hb9 (by omega)
  simp only [Int.toNat_natCast] at hr
  simp only [execOp, ha.ev hx, ha.ev hy]
  exact Zbr hr
theorem rowSplice {T sz b c k : Nat} {rows news : List Segs} {cur : Array Value} (h1 : lens sz rows) (h2 : lens sz news) (h3 : rows.length ≤ c) (h4 : c ≤ maxLen) (h5 : cur.size = c * sz) (h6 : cur.toList.take (rows.length * sz) = rowsCells rows) (hk : k + news.length ≤ rows.length) :
    OSl T sz (.slice (some ⟨b, 0, Option.none⟩) rows.length c) [(b, .cells (cur.toList.take (k * sz) ++ rowsCells news ++ cur.toList.drop (k * sz + (rowsCells news).length)).toArray T (0, 0))] (rows.take k ++ news ++ rows.drop (k + news.length)) := by
  have hnl : (rowsCells news).length = news.length * sz := Zaj h2
  have hle : k * sz + news.length * sz ≤ rows.length * sz := by rw [← Nat.add_mul]; exact Nat.mul_le_mul_right _ hk
  have hrc : rows.length * sz ≤ c * sz := Nat.mul_le_mul_right _ h3
  have hlen : (rows.take k ++ news ++ rows.drop (k + news.length)).length = rows.length := by simp; omega
  have hll : lens sz (rows.take k ++ news ++ rows.drop (k + news.length)) := ((h1.take k).append h2).append (h1.drop _)
  have := OSl.own (T := T) (sz := sz) b c (rows.take k ++ news ++ rows.drop (k + news.length)) (cur.toList.take (k * sz) ++ rowsCells news ++ cur.toList.drop (k * sz + (rowsCells news).length)).toArray hll (by omega) h4 (by
    simp only [List.size_toArray, List.length_append, List.length_take, List.length_drop, Array.length_toList]; omega) (by
    rw [hlen]
    simp only [List.toList_toArray]
    rw [Zax, Zax, rowsCells_take h1 (by omega), rowsCells_drop h1 hk, ← h6, hnl, List.take_take, Nat.min_eq_left (by omega), List.drop_take]
    rw [List.take_append, List.take_of_length_le (by simp only [List.length_append, List.length_take, Array.length_toList]; omega)]
    congr 1
    simp only [List.length_append, List.length_take, Array.length_toList, hnl]
    rw [Nat.min_eq_left (by omega), Nat.add_mul])
  rw [hlen] at this
  exact this
theorem X_storeO {t : TypeId} {x y : Operand} {b j sz c m l : Nat} {agg : Bool} {T : TypeId} {q : Segs} {v : Value} {hs : Hp} {rows : List Segs} (hi : ops[i]? = some ⟨Option.none, .store t x y, ty, pos, af, gd⟩) (hg : want ops e gd = some true)
    (hx : ev e x = some (eptr (some ⟨b, 0, Option.none⟩) j sz 0)) (hy : ev e y = some v) (hp : Parts v q) (hq : flat q) (hl : lay P t = some (agg, m)) (hn : Segs.len q = m) (hms : m = sz) (ho : OSl T sz (.slice (some ⟨b, 0, Option.none⟩) l c) hs rows) (hH : Rem hs H H0) (hj : j < rows.length)
    (hk : ∀ hs', OSl T sz (.slice (some ⟨b, 0, Option.none⟩) rows.length c) hs' (rows.set j q) → XD P n ops Q rest (St M (hs' ++ H0)) ⟨M, hs' ++ H0⟩ e) (hnw : n.wrs.contains i = false := by rfl) : XD P n ops Q (i :: rest) J ⟨M, H⟩ e := by
  subst hms
  refine X_mut hi rfl hg (fun a w ha hw => ?_) hnw
  obtain ⟨dd, it, hd, hit, hsz, hag⟩ := lay_spec hl
  obtain ⟨cur, rfl, rfl, hlr, hcap, hcm, hcs, htake⟩ := ho.inv
  have hst := hw.perm hH.perm
  have hb := hst.own b _ (List.mem_append_left _ (.head _))
  have hq1 : lens m [q] := fun r hr => by rw [List.mem_singleton.1 hr]; exact hn
  have hjl : j * m + m ≤ rows.length * m := by have := Nat.mul_le_mul_right m (show j + 1 ≤ rows.length from hj); rwa [Nat.add_mul, Nat.one_mul] at this
  have hrc : rows.length * m ≤ c * m := Nat.mul_le_mul_right _ hcap
  have hql : (Segs.cells q).length = m := by rw [Segs.cells_length, hn]
  have h2 := run_storeCells_at P b (j * m) T (Segs.cells q) 0 cur w hb (by omega) hq
  have ho' := rowSplice (T := T) (b := b) (k := j) hlr hq1 hcap hcm hcs htake (by simp; omega)
  have er : rows.take j ++ [q] ++ rows.drop (j + [q].length) = rows.set j q := by
    rw [List.set_eq_take_append_cons_drop, if_pos hj]; simp
  rw [er] at ho'
  simp only [rowsCells, List.append_nil] at ho'
  have hr : (Instr.storeAt t (.pointer (some ⟨b, 0 + (j * m + 0), Option.none⟩)) v).run P w = .ok () (w.setRow b (cur.toList.take (j * m) ++ Segs.cells q ++ cur.toList.drop (j * m + (Segs.cells q).length)).toArray) := by
    unfold Instr.storeAt
    rw [Sem.run_bind]
    show (Result.ok _ w).andThen _ = _
    rw [Result.andThen_ok]
    unfold storeVar
    rw [Sem.run_bind, run_sizeOf' hit, Result.andThen_ok]
    have hs : v.cells.size = it.size := by rw [hp.cells, hsz]; simp [Segs.cells_length, hn]
    simp only [hs, ne_eq, not_true_eq_false, if_false]
    rw [hp.cells, Nat.zero_add, Nat.add_zero]
    simpa using h2
  unfold Oper.does
  rw [eptr_some] at hx
  have : (execOp a.eval ⟨Option.none, .store t x y, ty, pos, af, gd⟩).run P w = .ok .skip (w.setRow b (cur.toList.take (j * m) ++ Segs.cells q ++ cur.toList.drop (j * m + (Segs.cells q).length)).toArray) := by
    simp only [execOp, ha.ev hx, ha.ev hy]
    rw [Zy hr]; rfl
  rw [this]
  refine ⟨⟨M, _⟩, e, ?_, ha, hk _ ho'⟩
  exact hst.upd .head (setRow_heap w b cur _ T _ hb) (fun c hc x hx => by rw [setRow_other w b c _ hc]; exact hx) (SameIO.refl _)
theorem XD_perm (hp : H.Perm H') (h : XD P n ops Q rest (St M H') ⟨M, H'⟩ e) : XD P n ops Q rest (St M H) ⟨M, H⟩ e := by
  have e1 : St M H = St M H' := funext fun w => propext ⟨fun h => h.perm0 hp, fun h => h.perm0 hp.symm⟩
  intro hSJ a ha
  have := h (fun u hu => hu) a ha
  rw [e1]
  exact WD.perm (A := ⟨M, H'⟩) (A' := ⟨M, H⟩) rfl hp.symm this
theorem X_appendK {α : Type} {f : α → Segs} {xs : List α} {t E sz by_ m c' : Nat} {z : Value} {x y : Operand} {v : Value} {a : Option Addr} {hs : Hp} {rows : List Segs} {ats : Array TypeId} (hi : ops[i]? = some ⟨some d, .call ⟨.builtin .append, #[x, y], ats⟩, ty, pos, af, gd⟩) (hg : want ops e gd = some true)
    (hx : ev e x = some v) (hy : ev e y = some (.slice a xs.length c')) (hat : ats = #[t, t]) (ht : slOf P t = some (E, sz, by_)) (hz : zeroOf P E = some z) (hzs : z.cells.size = sz) (hsz : Nat.ble 1 sz = true) (ho : OSl E sz v hs rows) (hH : Rem hs H H0)
    (hsrc : SlM M a (xs.map f) sz) (hf : ∀ x, flat (f x)) (hm : rows.length + xs.length ≤ m) (hbm : Nat.ble (m * (by_ + 1)) 140737488355328 = true) (hd : Nat.ble (d + 1) n.sz = true)
    (hk : ∀ v' hs', OSl E sz v' hs' (rows ++ xs.map f) → XD P n ops Q rest (St M (hs' ++ H0)) ⟨M, hs' ++ H0⟩ ((d, v') :: e)) (hnw : n.wrs.contains i = false := by rfl) : XD P n ops Q (i :: rest) J ⟨M, H⟩ e := by
  cases a with
  | some ad => exact Zca hi hg hx hy hat ht hz hzs hsz ho hH (SlM.src hsrc (rows_one hf _) (List.length_map ..).symm) (by simpa using hm) hbm hd hk hnw
  | none =>
    have hl := hsrc.none_nil
    subst hl
    obtain ⟨a1, c1, rfl⟩ := ho.val
    obtain ⟨g1, _, _⟩ := ho.caps
    have hk' := hk _ _ (by simpa using ho)
    exact X_append_none hi hg hx hy hat ht g1 hd (XD_perm hH.perm hk') hnw
theorem OSl.valAt {T sz n : Nat} {v : Value} {hs : Hp} {rows : List Segs} (h : OSl T sz v hs rows) (hn : rows.length = n) : ∃ a c, v = .slice a n c := by
  obtain ⟨a, c, h1⟩ := h.val
  exact ⟨a, c, by rw [h1, hn]⟩
theorem OSl.aZ {T sz l l' c : Nat} {a : Option Addr} {hs : Hp} {rows : List Segs} (h : OSl T sz (.slice a l c) hs rows) (hl : l' = rows.length) : OSl T sz (.slice a l' c) hs rows := by
  obtain ⟨_, _, e⟩ := h.caps
  rw [hl, ← e]; exact h
theorem OSl.srcAll {T sz b l c : Nat} {hs : Hp} {rows : List Segs} (h : OSl T sz (.slice (some ⟨b, 0, Option.none⟩) l c) hs rows) (hH : Rem hs H H0) (h1 : ∀ u ∈ rowsCells rows, u.oneCell' = true) : Src M H sz (.slice (some ⟨b, 0, Option.none⟩) l c) rows := by
  obtain ⟨_, _, e⟩ := h.caps
  subst e
  have := OSl.src (M := M) (k := 0) (c' := c) h hH h1
  simpa using this
end
end Go.Esp
namespace Go.Esp
def fingerAt (l : List PeerV) (p : PeerV) (k : Nat) : Int := ((ownerI l (p.id + powP k) : Nat) : Int)
def fingersR (l : List PeerV) (i : Int) : List Int × Int := if h : IsCircle l ∧ 0 ≤ i ∧ i < l.length then ((List.range 160).map (fingerAt l (l[i.toNat]'(by omega))), 0) else ([], 1)
def fillL (f : Nat → Int) (k : Nat) : List Int := (List.range 160).map fun j => if j < k then f j else 0
def IntsE (M : Mem) (v : Value) (r : List Int × Int) : Prop := ∃ s : Sl Int, v = .tuple #[s.val, .int .i64 r.2] ∧ s.l = r.1 ∧ SlK M (oneI .i64) 1 s
def arcR (l : List PeerV) (i : Int) : Plc × Plc × Int := if h : IsCircle l ∧ 0 ≤ i ∧ i < l.length then ((l[(i.toNat + l.length - 1) % l.length]'(Nat.mod_lt _ (by have := h.1.1; omega))).id, (l[i.toNat]'(by omega)).id, 0) else (0, 0, 1)
def ofArc (r : Plc × Plc × Int) : Value := .tuple #[aggV [idSeg r.1], aggV [idSeg r.2.1], .int .i64 r.2.2]
end Go.Esp
namespace Go.Esp
def D (a b : Plc) : Nat := (b - a).toNat
section
variable {l : List PeerV}
def idN (l : List PeerV) (i : Nat) : Nat := match l[i]? with
  | some p => p.id.toNat
  | none => 0
end
end Go.Esp
namespace Go.Esp
def copiesR (l : List PeerV) (x : Plc) (r : Int) : List Int × Int := if IsCircle l ∧ 1 ≤ r ∧ r ≤ 8 then ((List.range (min r.toNat l.length)).map fun k => (((ownerI l x + k) % l.length : Nat) : Int), 0) else ([], 1)
theorem copiesR_yes {l : List PeerV} {x : Plc} {r : Nat} (h : IsCircle l) (h1 : 1 ≤ r) (h2 : r ≤ 8) : copiesR l x (r : Int) = ((List.range (min r l.length)).map fun k => (((ownerI l x + k) % l.length : Nat) : Int), 0) := by
  unfold copiesR
  rw [if_pos ⟨h, by omega, by omega⟩]
  simp only [Int.toNat_natCast]
theorem copiesR_no {l : List PeerV} {x : Plc} {r : Int} (h : ¬ (IsCircle l ∧ 1 ≤ r ∧ r ≤ 8)) : copiesR l x r = ([], 1) := if_neg h
def sansI (l : List PeerV) (i : Nat) : List PeerV := l.take i ++ l.drop (i + 1)
end Go.Esp
namespace Go.Esp
section
variable {P : Program} {n : Sh} {ops : Array Oper} {Q : Exit → Act → World → Prop} {rest : List Nat} {M M' : Mem} {H H' H0 : Hp} {e : Env} {J S : World → Prop} {A : As} {i : Nat}
  {dst : Option Tmp} {d : Tmp} {op : Op} {ty : TypeId} {pos : String} {af : Array Edge} {gd : Option (Nat × Bool)}
theorem X_min {x y : Operand} {p q r : Int} {ats : Array TypeId} (hi : ops[i]? = some ⟨some d, .call ⟨.builtin .min, #[x, y], ats⟩, ty, pos, af, gd⟩) (hg : want ops e gd = some true)
    (hx : ev e x = some (.int .i64 p)) (hy : ev e y = some (.int .i64 q)) (hr : (if q < p then q else p) = r) (hd : Nat.ble (d + 1) n.sz = true) (hk : XD P n ops Q rest J A ((d, .int .i64 r) :: e)) : XD P n ops Q (i :: rest) J A e :=
  Zcf hi rfl hg (fun a' w ha _ => Zaw (by
    subst hr
    simp only [execOp, resolve]
    simp [invoke, builtin, Builtin.min_, Builtin.min2, ha.ev hx, ha.ev hy])) (fun a ha => ha.put hd _) hk
end
end Go.Esp
namespace Go.Esp
def noneP : PeerV := ⟨-1, 0⟩
def okAddr (a : Int) : Prop := 0 ≤ a ∧ a ≤ 999
instance (a : Int) : Decidable (okAddr a) := by unfold okAddr; exact inferInstance
end Go.Esp
namespace Go.Proofs.YtpfdblknaihidaaDoor
open Go.Esp
theorem F.bld39 : Bld Tryd.prog 39 [[.one (.int .i64 0)], [idSeg 0]] := by rw [idSeg0]; exact ⟨by kernel_rfl, by kernel_rfl⟩
theorem F.lay39 : lay Tryd.prog 39 = some (true, 21) := by kernel_rfl
theorem F.zero39 : zeroOf Tryd.prog 39 = some (aggV [.one (.int .i64 0), idSeg 0]) := by rw [idSeg0]; kernel_rfl
theorem None_ok (M : Mem) : Fs Tryd.prog 22 [] M (fun v => v =  (noneP.enc)) := by
  refine Zbd Tryd.func22 rfl Tryd.ntmps22 rfl ?_; intro H
  refine Zk ?_; refine Za (l := [0]) rfl ?_
  refine Zbm rfl rfl F.zero39 (by constructor) rfl ?_; intro b1
  refine Zg ?_; refine Ze ?_; refine Zk ?_; refine Za (l := [0, 1]) rfl ?_; refine Zcd rfl rfl F.bld39 (.cons rfl (by constructor) .nil) rfl rfl ?_; refine Zbi rfl rfl rfl rfl (by constructor) (by first | ((try simp only [cat, List.cons_append, List.nil_append, List.append_nil]); (repeat (first | exact Zag | refine Zau ?_ | (refine Zae ?_ ?_; rfl))); done) | exact PeerV.flat _ | exact PeerV.flat ⟨_, _⟩ | (simp [flat, cat, Segs.cells, Seg.cells, Value.oneCell']; done)) (by repeat first | exact Upd.head | apply Upd.tail | apply Upd.over) F.lay39 rfl rfl ?_; refine Zg ?_; refine Ze ?_; refine Zl (.cons (k := 0) rfl .nil) ?_; refine Zam ?_
  refine Zal (.inr rfl) (.cell rfl (by repeat first | exact List.Mem.head _ | refine List.Mem.tail _ ?_ | refine List.mem_append_right _ ?_) F.lay39 rfl rfl .nil) (fun w hw => ?_)
  refine ⟨_, rfl, (hw.cnt (by intro zz; first | exact Nat.le_refl _ | (simp only [Zh, Zf, Zi, cat, List.append_eq, List.append_assoc, List.cons_append, List.nil_append, List.append_nil]; omega) | (simp only [Zh, Zf, Zi, cat, List.append_eq, List.append_assoc, List.cons_append, List.nil_append, List.append_nil, PeerV.segs]; omega))), ?_⟩
  clear hw
  rfl
end Go.Proofs.YtpfdblknaihidaaDoor
namespace Go.Proofs.YtpfdblknaihidaaDoor
open Go.Esp
theorem F.elem22 : slOf Tryd.prog 22 = some (3, 1, 8) := by kernel_rfl
theorem F.elem23 : slOf Tryd.prog 23 = some (39, 21, 32) := by kernel_rfl
theorem F.foff39_0 : foff Tryd.prog 39 0 = some 0 := by kernel_rfl
theorem F.foff39_1 : foff Tryd.prog 39 1 = some 1 := by kernel_rfl
theorem F.lay23 : lay Tryd.prog 23 = some (false, 1) := by kernel_rfl
theorem F.lay3 : lay Tryd.prog 3 = some (false, 1) := by kernel_rfl
theorem F.lay34 : lay Tryd.prog 34 = some (true, 20) := by kernel_rfl
theorem F.ok17 : okFn Tryd.prog 17 = true := by kernel_rfl
theorem F.ok24 : okFn Tryd.prog 24 = true := by kernel_rfl
theorem F.ok25 : okFn Tryd.prog 25 = true := by kernel_rfl
theorem F.ok35 : okFn Tryd.prog 35 = true := by kernel_rfl
theorem F.ok36 : okFn Tryd.prog 36 = true := by kernel_rfl
theorem F.ok57 : okFn Tryd.prog 57 = true := by kernel_rfl
theorem F.ok58 : okFn Tryd.prog 58 = true := by kernel_rfl
theorem F.ok8 : okFn Tryd.prog 8 = true := by kernel_rfl
theorem F.zero3 : zeroOf Tryd.prog 3 = some ((.int .i64 0)) := by kernel_rfl
theorem IndexI_rd (M : Mem) (Hin : Hp) (l : Sl Int) (x : Int) (hl : RdS M Hin l.a (l.l.map (oneI .i64)) 1) (bl : l.l.length ≤ 9223372036854775807) : Fo Tryd.prog 36 [l.val, .int .i64 x] M Hin (fun M' v => M' = M ∧ v = .int .i64 (idxI x l.l)) := by
  have nl : (l.l.map (oneI .i64)).length = l.l.length := List.length_map ..
  refine fo_enter Tryd.func36 rfl Tryd.ntmps36 rfl ?_; intro H
  have hrd := hl.app H
  refine Zk ?_; refine Za (l := [0]) rfl ?_; refine Zc rfl rfl rfl rfl ?_; refine Zg ?_; refine Ze ?_; refine Zk ?_; refine Zk ?_; refine Za (l := [0, 1, 2]) rfl ?_; refine Zd rfl rfl rfl rfl ?_; refine Zat rfl rfl rfl rfl F.elem22 rfl ?_; refine Zd rfl rfl rfl rfl ?_; refine Zg ?_; refine Ze ?_; refine Zl (.cons (k := 8) rfl (.cons (k := 7) rfl (.cons (k := 4) rfl (.cons (k := 0) rfl (.cons (k := 1) rfl .nil))))) ?_; refine Zad ?_; refine Zl (.cons (k := 8) rfl (.cons (k := 7) rfl (.cons (k := 4) rfl (.cons (k := 0) rfl (.cons (k := 1) rfl .nil))))) ?_; refine Zbz (.succ .zero) (fun (k : Nat) z => z = [(8, .int .i64 (k : Int))] ∧ k ≤ l.l.length ∧ (x ∉ l.l.take k)) (fun k => l.l.length - k) (0) (⟨rfl, by omega, by simp⟩) ?_
  rintro k _ ⟨rfl, hk, hI⟩
  refine Zk ?_; refine Za (l := [0]) rfl ?_; refine Zaq rfl rfl rfl rfl rfl rfl ?_; refine Zg ?_; refine Ze ?_; refine Zk ?_
  refine Zai rfl (fun hc1 => ?_) (fun hc1 => ?_)
  · first | replace hc1 := dT hc1 | replace hc1 := dF hc1 | replace hc1 := nT hc1 | replace hc1 := nF hc1 | skip
    first
    | (exfalso; omega)
    | (exfalso; simp [eqX] at hc1; done)
    | contradiction
    | skip
      refine Zah ?_; refine Ze ?_; refine Zk ?_; refine Zad ?_; refine Zk ?_; refine Za (l := [0, 1]) rfl ?_; refine Zd rfl rfl rfl rfl ?_; refine Zc rfl rfl rfl rfl ?_; refine Zg ?_; refine Ze ?_; refine Zk ?_; refine Za (l := [0, 1, 2, 3, 4, 5]) rfl ?_; refine Zd rfl rfl rfl rfl ?_; refine Zd rfl rfl rfl rfl ?_; refine Zd rfl rfl rfl rfl ?_; refine Zab rfl rfl rfl rfl F.elem22 (by first | rfl | exact (Int.toNat_of_nonneg (by omega)).symm) (by first | omega | (simp; done) | (simp; omega)) (by first | exact ⟨_, _, rfl⟩ | assumption | exact SlM.plain (by assumption) (by first | (simp; done) | (simp; omega)) | exact RdS.plain (by assumption) (by first | (simp; done) | (simp; omega)) | exact OSl.plain (by assumption) (by first | (simp; done) | (simp; omega))) rfl ?_
      first | refine Zan rfl rfl rfl (by repeat first | exact List.Mem.head _ | refine List.Mem.tail _ ?_ | refine List.mem_append_right _ ?_) F.lay3 rfl rfl rfl ?_ | refine Zv rfl rfl rfl (by first | assumption | exact SlM.mono (by assumption) (by assumption)) (by first | exact Zb (by omega) | exact List.getElem?_eq_getElem (by omega) | exact rfl | exact Zb (by first | (simp; done) | (simp; omega))) F.lay3 rfl rfl rfl ?_ | refine Zu rfl rfl rfl (by assumption) (by first | exact Zb (by omega) | exact List.getElem?_eq_getElem (by omega) | exact rfl | exact Zb (by first | (simp; done) | (simp; omega))) F.lay3 rfl rfl rfl ?_ | refine Zs rfl rfl rfl (by first | assumption | exact Mem.get_of (by assumption) (by repeat first | assumption | refine Mem.le.trans (by assumption) ?_)) F.lay3 rfl rfl rfl ?_ | refine Zp rfl rfl rfl (by assumption) (by repeat first | exact Rem.here _ | exact Rem.two | apply Rem.skip | apply Rem.over) (by first | exact Zb (by omega) | exact List.getElem?_eq_getElem (by omega) | exact rfl | exact Zb (by first | (simp; done) | (simp; omega))) F.lay3 rfl rfl rfl ?_ | refine Zr rfl rfl rfl (by repeat first | exact List.Mem.head _ | refine List.Mem.tail _ ?_ | refine List.mem_append_right _ ?_) F.lay3 (by first | exact Zbw (by first | omega | decide) | exact Zbk (by first | omega | decide)) rfl ?_
      refine Zaq rfl rfl rfl rfl rfl rfl ?_; refine Zg ?_; refine Ze ?_
      refine Zai rfl (fun hc2 => ?_) (fun hc2 => ?_)
      · first | replace hc2 := dT hc2 | replace hc2 := dF hc2 | replace hc2 := nT hc2 | replace hc2 := nF hc2 | skip
        first
        | (exfalso; omega)
        | (exfalso; simp [eqX] at hc2; done)
        | contradiction
        | skip
          refine Zk ?_; refine Za (l := [0, 1]) rfl ?_; refine Zd rfl rfl rfl rfl ?_; refine Zc rfl rfl rfl rfl ?_; refine Zg ?_; refine Ze ?_; refine Zam ?_; refine Zbe ?_; refine Zar ?_; refine Zar ?_; refine Zbe ?_; refine Zar ?_
          refine Zal (.inr rfl) (.tmp rfl .nil) (fun w hw => ?_)
          refine ⟨_, M, rfl, Mem.le.refl M, hw.cnt (by intro zz; first | exact Nat.le_refl _ | (simp only [Zh, Zf, Zi, cat, List.append_eq, List.append_assoc, List.cons_append, List.nil_append, List.append_nil]; omega)), rfl, ?_⟩
          refine congrArg (Value.int .i64) ?_
          first | exact (idxI_at (by omega) hI (by assumption)).symm | (have hk9 : k = l.l.length := (by omega); subst hk9; rw [List.take_length] at hI; exact (idxI_none hI).symm)
      · first | replace hc2 := dT hc2 | replace hc2 := dF hc2 | replace hc2 := nT hc2 | replace hc2 := nF hc2 | skip
        first
        | (exfalso; omega)
        | (exfalso; simp [eqX] at hc2; done)
        | contradiction
        | skip
          refine Zah ?_; refine Zbs ?_; refine Ze ?_; refine Za (l := [0, 1]) rfl ?_; refine Zav rfl rfl rfl rfl rfl (by first | exact Zaa (by decide) (by omega) | exact Zm (by decide) (by omega) | exact Zo (by decide) (by omega) | exact Zn (by decide) (by omega) | exact Zt _ | exact Zz _ | exact Zq _ | exact rfl) rfl ?_; refine Zd rfl rfl rfl rfl ?_; refine Zg ?_; refine Zbp (a' := [(8, _)]) (k + 1) (.cons (k := 8) rfl (.cons (k := 7) rfl (.cons (k := 4) rfl (.cons (k := 0) rfl (.cons (k := 1) rfl (.nil)))))) (fun w hw => by first | exact hw | exact hw.cnt (by intro zz; first | exact Nat.le_refl _ | (simp only [Zh, Zf, Zi, cat, List.append_eq, List.append_assoc, List.cons_append, List.nil_append, List.append_nil]; omega) | (simp only [Zh, Zf, Zi, cat, List.append_eq, List.append_assoc, List.cons_append, List.nil_append, List.append_nil, PeerV.segs]; omega))) ?_ ?_
          · refine ⟨rfl, by omega, ?_⟩
            exact not_take_succ (by omega) hI (by assumption)
          · omega
  · first | replace hc1 := dT hc1 | replace hc1 := dF hc1 | replace hc1 := nT hc1 | replace hc1 := nF hc1 | skip
    first
    | (exfalso; omega)
    | (exfalso; simp [eqX] at hc1; done)
    | contradiction
    | skip
      refine Zbl ?_; refine Zao ?_; refine Zao ?_; refine Zbx ?_; refine Ze ?_; refine Zl (.cons (k := 4) rfl .nil) ?_; refine Zk ?_; refine Za (l := [0]) rfl ?_; refine Zc rfl rfl rfl rfl ?_; refine Zg ?_; refine Ze ?_; refine Zam ?_
      refine Zal (.inr rfl) (.tmp rfl .nil) (fun w hw => ?_)
      refine ⟨_, M, rfl, Mem.le.refl M, hw.cnt (by intro zz; first | exact Nat.le_refl _ | (simp only [Zh, Zf, Zi, cat, List.append_eq, List.append_assoc, List.cons_append, List.nil_append, List.append_nil]; omega)), rfl, ?_⟩
      refine congrArg (Value.int .i64) ?_
      first | exact (idxI_at (by omega) hI (by assumption)).symm | (have hk9 : k = l.l.length := (by omega); subst hk9; rw [List.take_length] at hI; exact (idxI_none hI).symm)
theorem ContainsI_rd (M : Mem) (Hin : Hp) (l : Sl Int) (x : Int) (hl : RdS M Hin l.a (l.l.map (oneI .i64)) 1) (bl : l.l.length ≤ 9223372036854775807) : Fo Tryd.prog 24 [l.val, .int .i64 x] M Hin (fun M' v => M' = M ∧ v = .bool (decide (x ∈ l.l))) := by
  refine fo_enter Tryd.func24 rfl Tryd.ntmps24 rfl ?_; intro H
  refine Zk ?_; refine Za (l := [0]) rfl ?_; refine Zc rfl rfl rfl rfl ?_; refine Zg ?_; refine Ze ?_; refine Zk ?_; refine Za (l := [0, 1, 2, 3, 4]) rfl ?_; refine Zd rfl rfl rfl rfl ?_; refine Zd rfl rfl rfl rfl ?_; refine X_fo rfl rfl F.ok36 rfl (IndexI_rd _ Hin ⟨_, _, _⟩ _ hl bl) (by repeat first | exact Rem.here _ | exact Rem.two | apply Rem.skip | apply Rem.over) (putE_some rfl) ?_
  rintro _ M1 _ ⟨hM1, rfl⟩; subst M1
  refine Zaq rfl rfl rfl rfl rfl rfl ?_; refine Zc rfl rfl rfl rfl ?_; refine Zg ?_; refine Ze ?_; refine Zl (.cons (k := 4) rfl .nil) ?_; refine Zam ?_
  refine Zal (.inr rfl) (.tmp rfl .nil) (fun w hw => ?_)
  exact ⟨_, M, rfl, Mem.le.refl M, hw.cnt (by intro zz; first | exact Nat.le_refl _ | (simp only [Zh, Zf, Zi, cat, List.append_eq, List.append_assoc, List.cons_append, List.nil_append, List.append_nil]; omega)), rfl, congrArg Value.bool (by simp [idxI_nn])⟩
theorem Circ_ok (M : Mem) (l : (Sl PeerV)) (hl0 : SlK M PeerV.segs 21 l) : Fs Tryd.prog 8 [Sl.val l] M (fun v => v = Value.bool (decide (IsCircle l.l))) := by
  obtain ⟨l_a, l_c, l_l⟩ := l
  have k_l : SlK M PeerV.segs 21 ⟨l_a, l_c, l_l⟩ := hl0
  have s_l : SlM M l_a (l_l.map PeerV.segs) 21 := k_l.h1
  have n_l : (l_l.map PeerV.segs).length = l_l.length := List.length_map ..
  have m_l : l_l.length ≤ 9223372036854775807 := k_l.h2
  have c_l : l_l.length ≤ l_c := k_l.h3
  refine Zbd Tryd.func8 rfl Tryd.ntmps8 rfl ?_; intro H
  refine Zk ?_; refine Za (l := [0]) rfl ?_; refine Zc rfl rfl rfl rfl ?_; refine Zg ?_; refine Ze ?_; refine Zk ?_; refine Zk ?_; refine Za (l := [0, 1, 2, 3, 4, 5, 6, 7]) rfl ?_; refine Zd rfl rfl rfl rfl ?_; refine Zat rfl rfl rfl rfl F.elem23 rfl ?_; refine Zaq rfl rfl rfl rfl rfl rfl ?_; refine Zd rfl rfl rfl rfl ?_
  refine Zbb 9 rfl (fun hc1 => ?_) (fun hc1 => ?_)
  · first | replace hc1 := dT hc1 | replace hc1 := dF hc1 | replace hc1 := nT hc1 | replace hc1 := nF hc1 | skip
    try simp only [PeerV.eta] at hc1
    first
    | (exfalso; omega)
    | (exfalso; simp [eqX] at hc1; done)
    | contradiction
    | skip
      refine Zj rfl rfl rfl ?_; refine Zj rfl rfl rfl ?_; refine Zj rfl rfl rfl ?_; refine Zx rfl rfl rfl rfl rfl ?_; refine Zg ?_; refine Ze ?_; refine Zl (.cons (k := 13) rfl (.cons (k := 2) rfl (.cons (k := 0) rfl .nil))) ?_; refine Zcg rfl ?_; refine Zk ?_; refine Za (l := [0]) rfl ?_; refine Zc rfl rfl rfl rfl ?_; refine Zg ?_; refine Ze ?_; refine Zl (.cons (k := 2) rfl (.cons (k := 0) rfl .nil)) ?_; refine Zam ?_; refine Zar ?_
      refine Zal (.inr rfl) (.tmp rfl .nil) (fun w hw => ?_)
      refine ⟨_, rfl, (hw.cnt (by intro zz; first | exact Nat.le_refl _ | (simp only [Zh, Zf, Zi, cat, List.append_eq, List.append_assoc, List.cons_append, List.nil_append, List.append_nil]; omega) | (simp only [Zh, Zf, Zi, cat, List.append_eq, List.append_assoc, List.cons_append, List.nil_append, List.append_nil, PeerV.segs]; omega))), ?_⟩
      clear hw
      refine congrArg Value.bool ?_
      first | (have hd := Zbh (l := l_l) (k := k) (by omega); have hp := Zbt (l := l_l); grind [IsCircle]) | (have hk9 : k = l_l.length := (by omega); subst hk9; grind [IsCircle, List.take_length]) | grind [IsCircle]
  · first | replace hc1 := dT hc1 | replace hc1 := dF hc1 | replace hc1 := nT hc1 | replace hc1 := nF hc1 | skip
    try simp only [PeerV.eta] at hc1
    first
    | (exfalso; omega)
    | (exfalso; simp [eqX] at hc1; done)
    | contradiction
    | skip
      refine Zd rfl rfl rfl rfl ?_; refine Zat rfl rfl rfl rfl F.elem23 rfl ?_; refine Zaq rfl rfl rfl rfl rfl rfl ?_; refine Zx rfl rfl rfl rfl rfl ?_; refine Zg ?_; refine Ze ?_; refine Zl (.cons (k := 13) rfl (.cons (k := 2) rfl (.cons (k := 0) rfl .nil))) ?_
      refine Zai rfl (fun hc2 => ?_) (fun hc2 => ?_)
      · first | replace hc2 := dT hc2 | replace hc2 := dF hc2 | replace hc2 := nT hc2 | replace hc2 := nF hc2 | skip
        try simp only [PeerV.eta] at hc2
        first
        | (exfalso; omega)
        | (exfalso; simp [eqX] at hc2; done)
        | contradiction
        | skip
          refine Zk ?_; refine Za (l := [0]) rfl ?_; refine Zc rfl rfl rfl rfl ?_; refine Zg ?_; refine Ze ?_; refine Zl (.cons (k := 2) rfl (.cons (k := 0) rfl .nil)) ?_; refine Zam ?_; refine Zar ?_
          refine Zal (.inr rfl) (.tmp rfl .nil) (fun w hw => ?_)
          refine ⟨_, rfl, (hw.cnt (by intro zz; first | exact Nat.le_refl _ | (simp only [Zh, Zf, Zi, cat, List.append_eq, List.append_assoc, List.cons_append, List.nil_append, List.append_nil]; omega) | (simp only [Zh, Zf, Zi, cat, List.append_eq, List.append_assoc, List.cons_append, List.nil_append, List.append_nil, PeerV.segs]; omega))), ?_⟩
          clear hw
          refine congrArg Value.bool ?_
          first | (have hd := Zbh (l := l_l) (k := k) (by omega); have hp := Zbt (l := l_l); grind [IsCircle]) | (have hk9 : k = l_l.length := (by omega); subst hk9; grind [IsCircle, List.take_length]) | grind [IsCircle]
      · first | replace hc2 := dT hc2 | replace hc2 := dF hc2 | replace hc2 := nT hc2 | replace hc2 := nF hc2 | skip
        try simp only [PeerV.eta] at hc2
        first
        | (exfalso; omega)
        | (exfalso; simp [eqX] at hc2; done)
        | contradiction
        | skip
          refine Zah ?_; refine Ze ?_; refine Zl (.cons (k := 2) rfl (.cons (k := 0) rfl .nil)) ?_; refine Zk ?_; refine Za (l := [0]) rfl ?_; refine Zc rfl rfl rfl rfl ?_; refine Zg ?_; refine Ze ?_; refine Zk ?_; refine Zk ?_; refine Za (l := [0, 1, 2]) rfl ?_; refine Zd rfl rfl rfl rfl ?_; refine Zat rfl rfl rfl rfl F.elem23 rfl ?_; refine Zd rfl rfl rfl rfl ?_; refine Zg ?_; refine Ze ?_; refine Zad ?_; refine Zl (.cons (k := 16) rfl (.cons (k := 3) rfl (.cons (k := 15) rfl (.cons (k := 14) rfl (.cons (k := 2) rfl (.cons (k := 0) rfl .nil)))))) ?_; refine Zbu (Hin := []) (.succ (.succ .zero)) (by repeat first | exact Rem.here _ | exact Rem.two | apply Rem.skip | apply Rem.over) (fun (k : Nat) M1 h1 z => ∃ v, M1 = M ∧ z = [(16, .int .i64 (k : Int)), (3, v)] ∧ k ≤ l_l.length ∧ CircOk (l_l.take k) ∧ OSl 3 1 v h1 (((l_l.take k).map PeerV.addr).map (oneI .i64))) (fun k => l_l.length - k) (0) (⟨_, rfl, rfl, by omega, by simp [CircOk], OSl.nil⟩) ?_
          rintro k M1 h1 z hm1 ⟨v1, hM1, rfl, hk, hI, ho⟩
          subst hM1
          obtain ⟨ad1, cp1, rfl⟩ := ho.valL
          have hlk : (l_l.take k).length = k := by rw [List.length_take]; omega
          have hlm : (((l_l.take k).map PeerV.addr).map (oneI .i64)).length = k := by simp; omega
          refine Zk ?_; refine Za (l := [0]) rfl ?_; refine Zaq rfl rfl rfl rfl rfl rfl ?_; refine Zg ?_; refine Ze ?_; refine Zk ?_
          refine Zai rfl (fun hc3 => ?_) (fun hc3 => ?_)
          · first | replace hc3 := dT hc3 | replace hc3 := dF hc3 | replace hc3 := nT hc3 | replace hc3 := nF hc3 | skip
            try simp only [PeerV.eta] at hc3
            first
            | (exfalso; omega)
            | (exfalso; simp [eqX] at hc3; done)
            | contradiction
            | skip
              refine Zah ?_; refine Ze ?_; refine Zk ?_; refine Zad ?_; refine Zk ?_; refine Za (l := [0, 1, 2, 3, 4, 5]) rfl ?_; refine Zd rfl rfl rfl rfl ?_; refine Zab rfl rfl rfl rfl F.elem23 (by first | rfl | exact (Int.toNat_of_nonneg (by omega)).symm) (by first | omega | (simp; done) | (simp; omega)) (by first | exact ⟨_, _, rfl⟩ | assumption | exact SlM.plain (by assumption) (by first | (simp; done) | (simp; omega)) | exact RdS.plain (by assumption) (by first | (simp; done) | (simp; omega)) | exact OSl.plain (by assumption) (by first | (simp; done) | (simp; omega))) rfl ?_
              first | refine Zan rfl rfl rfl (by repeat first | exact List.Mem.head _ | refine List.Mem.tail _ ?_ | refine List.mem_append_right _ ?_) F.lay39 rfl rfl rfl ?_ | refine Zv rfl rfl rfl (by first | assumption | exact SlM.mono (by assumption) (by assumption)) (by first | exact Zb (by omega) | exact List.getElem?_eq_getElem (by omega) | exact rfl | exact Zb (by first | (simp; done) | (simp; omega))) F.lay39 rfl rfl rfl ?_ | refine Zu rfl rfl rfl (by assumption) (by first | exact Zb (by omega) | exact List.getElem?_eq_getElem (by omega) | exact rfl | exact Zb (by first | (simp; done) | (simp; omega))) F.lay39 rfl rfl rfl ?_ | refine Zs rfl rfl rfl (by first | assumption | exact Mem.get_of (by assumption) (by repeat first | assumption | refine Mem.le.trans (by assumption) ?_)) F.lay39 rfl rfl rfl ?_ | refine Zp rfl rfl rfl (by assumption) (by repeat first | exact Rem.here _ | exact Rem.two | apply Rem.skip | apply Rem.over) (by first | exact Zb (by omega) | exact List.getElem?_eq_getElem (by omega) | exact rfl | exact Zb (by first | (simp; done) | (simp; omega))) F.lay39 rfl rfl rfl ?_
              refine Zbm rfl rfl F.zero39 (by constructor) rfl ?_; intro b4
              refine Zc rfl rfl rfl rfl ?_; refine Zbi rfl rfl rfl rfl (by constructor) (by first | ((try simp only [cat, List.cons_append, List.nil_append, List.append_nil]); (repeat (first | exact Zag | refine Zau ?_ | (refine Zae ?_ ?_; rfl))); done) | exact PeerV.flat _ | exact PeerV.flat ⟨_, _⟩ | (simp [flat, cat, Segs.cells, Seg.cells, Value.oneCell']; done)) (by repeat first | exact Upd.head | apply Upd.tail | apply Upd.over) F.lay39 rfl rfl ?_; refine Zg ?_; refine Ze ?_; refine Zk ?_; refine Zk ?_; refine Zaf (l := [0, 1, 2, 3, 4, 5, 6, 7, 8, 9, 10, 11, 12, 13, 14, 15, 16, 17, 18, 19, 20, 21, 22, 23, 24, 25, 26, 27, 28, 29]) #[0, 1, 3, 7, 15, 31, 63, 127, 255, 511, 511, 1535, 4095, 8191, 16383, 32767, 65535, 131071, 262143, 262143, 786431, 2097151, 4194303, 8388607, 262143, 17039359, 67108863, 134217727, 268435455, 536870911] _ rfl (by kernel_rfl) (by kernel_rfl) St.drawn (fun _ h => h) ?_
              first | refine Zak rfl rfl rfl F.foff39_0 rfl ?_ | refine Zac rfl rfl rfl (by first | exact ⟨_, _, rfl⟩ | assumption | exact SlM.plain (by assumption) (by first | (simp; done) | (simp; omega)) | exact RdS.plain (by assumption) (by first | (simp; done) | (simp; omega)) | exact OSl.plain (by assumption) (by first | (simp; done) | (simp; omega))) F.foff39_0 rfl ?_
              first | refine Zan rfl rfl rfl (by repeat first | exact List.Mem.head _ | refine List.Mem.tail _ ?_ | refine List.mem_append_right _ ?_) F.lay3 rfl rfl rfl ?_ | refine Zv rfl rfl rfl (by first | assumption | exact SlM.mono (by assumption) (by assumption)) (by first | exact Zb (by omega) | exact List.getElem?_eq_getElem (by omega) | exact rfl | exact Zb (by first | (simp; done) | (simp; omega))) F.lay3 rfl rfl rfl ?_ | refine Zu rfl rfl rfl (by assumption) (by first | exact Zb (by omega) | exact List.getElem?_eq_getElem (by omega) | exact rfl | exact Zb (by first | (simp; done) | (simp; omega))) F.lay3 rfl rfl rfl ?_ | refine Zs rfl rfl rfl (by first | assumption | exact Mem.get_of (by assumption) (by repeat first | assumption | refine Mem.le.trans (by assumption) ?_)) F.lay3 rfl rfl rfl ?_ | refine Zp rfl rfl rfl (by assumption) (by repeat first | exact Rem.here _ | exact Rem.two | apply Rem.skip | apply Rem.over) (by first | exact Zb (by omega) | exact List.getElem?_eq_getElem (by omega) | exact rfl | exact Zb (by first | (simp; done) | (simp; omega))) F.lay3 rfl rfl rfl ?_ | refine Zr rfl rfl rfl (by repeat first | exact List.Mem.head _ | refine List.Mem.tail _ ?_ | refine List.mem_append_right _ ?_) F.lay3 (by first | exact Zbw (by first | omega | decide) | exact Zbk (by first | omega | decide)) rfl ?_
              refine Zaq rfl rfl rfl rfl rfl rfl ?_; refine Zd rfl rfl rfl rfl ?_
              refine Zbb 24 rfl (fun hc5 => ?_) (fun hc5 => ?_)
              · first | replace hc5 := dT hc5 | replace hc5 := dF hc5 | replace hc5 := nT hc5 | replace hc5 := nF hc5 | skip
                try simp only [PeerV.eta] at hc5
                first
                | (exfalso; omega)
                | (exfalso; simp [eqX] at hc5; done)
                | contradiction
                | skip
                  refine Zj rfl rfl rfl ?_; refine Zj rfl rfl rfl ?_; refine Zj rfl rfl rfl ?_; refine Zx rfl rfl rfl rfl rfl ?_; refine Zd rfl rfl rfl rfl ?_; refine Zj rfl rfl rfl ?_; refine Zj rfl rfl rfl ?_; refine Zj rfl rfl rfl ?_; refine Zj rfl rfl rfl ?_; refine Zx rfl rfl rfl rfl rfl ?_; refine Zd rfl rfl rfl rfl ?_; refine Zj rfl rfl rfl ?_; refine Zj rfl rfl rfl ?_; refine Zj rfl rfl rfl ?_; refine Zj rfl rfl rfl ?_; refine Zj rfl rfl rfl ?_; refine Zj rfl rfl rfl ?_; refine Zj rfl rfl rfl ?_; refine Zj rfl rfl rfl ?_; refine Zj rfl rfl rfl ?_; refine Zj rfl rfl rfl ?_; refine Zj rfl rfl rfl ?_; refine Zj rfl rfl rfl ?_; refine Zj rfl rfl rfl ?_; refine Zj rfl rfl rfl ?_; refine Zx rfl rfl rfl rfl rfl ?_; refine Zg ?_; refine Ze ?_; refine Zcg rfl ?_; refine Zk ?_
                  refine Za (l := [0]) rfl ?_; refine Zc rfl rfl rfl rfl ?_; refine Zg ?_; refine Ze ?_; refine Zam ?_; refine Zar ?_; refine Zbe ?_; refine Zar ?_; refine Zar ?_; refine Zbe ?_; refine Zar ?_
                  refine Zal (.inr rfl) (.tmp rfl .nil) (fun w hw => ?_)
                  refine ⟨_, rfl, (hw.cnt (by intro zz; first | exact Nat.le_refl _ | (simp only [Zh, Zf, Zi, cat, List.append_eq, List.append_assoc, List.cons_append, List.nil_append, List.append_nil]; omega) | (simp only [Zh, Zf, Zi, cat, List.append_eq, List.append_assoc, List.cons_append, List.nil_append, List.append_nil, PeerV.segs]; omega))), ?_⟩
                  clear hw
                  refine congrArg Value.bool ?_
                  first | (have hd := Zbh (l := l_l) (k := k) (by omega); have hp := Zbt (l := l_l); grind [IsCircle]) | (have hk9 : k = l_l.length := (by omega); subst hk9; grind [IsCircle, List.take_length]) | grind [IsCircle]
              · first | replace hc5 := dT hc5 | replace hc5 := dF hc5 | replace hc5 := nT hc5 | replace hc5 := nF hc5 | skip
                try simp only [PeerV.eta] at hc5
                first
                | (exfalso; omega)
                | (exfalso; simp [eqX] at hc5; done)
                | contradiction
                | skip
                  first | refine Zak rfl rfl rfl F.foff39_0 rfl ?_ | refine Zac rfl rfl rfl (by first | exact ⟨_, _, rfl⟩ | assumption | exact SlM.plain (by assumption) (by first | (simp; done) | (simp; omega)) | exact RdS.plain (by assumption) (by first | (simp; done) | (simp; omega)) | exact OSl.plain (by assumption) (by first | (simp; done) | (simp; omega))) F.foff39_0 rfl ?_
                  first | refine Zan rfl rfl rfl (by repeat first | exact List.Mem.head _ | refine List.Mem.tail _ ?_ | refine List.mem_append_right _ ?_) F.lay3 rfl rfl rfl ?_ | refine Zv rfl rfl rfl (by first | assumption | exact SlM.mono (by assumption) (by assumption)) (by first | exact Zb (by omega) | exact List.getElem?_eq_getElem (by omega) | exact rfl | exact Zb (by first | (simp; done) | (simp; omega))) F.lay3 rfl rfl rfl ?_ | refine Zu rfl rfl rfl (by assumption) (by first | exact Zb (by omega) | exact List.getElem?_eq_getElem (by omega) | exact rfl | exact Zb (by first | (simp; done) | (simp; omega))) F.lay3 rfl rfl rfl ?_ | refine Zs rfl rfl rfl (by first | assumption | exact Mem.get_of (by assumption) (by repeat first | assumption | refine Mem.le.trans (by assumption) ?_)) F.lay3 rfl rfl rfl ?_ | refine Zp rfl rfl rfl (by assumption) (by repeat first | exact Rem.here _ | exact Rem.two | apply Rem.skip | apply Rem.over) (by first | exact Zb (by omega) | exact List.getElem?_eq_getElem (by omega) | exact rfl | exact Zb (by first | (simp; done) | (simp; omega))) F.lay3 rfl rfl rfl ?_ | refine Zr rfl rfl rfl (by repeat first | exact List.Mem.head _ | refine List.Mem.tail _ ?_ | refine List.mem_append_right _ ?_) F.lay3 (by first | exact Zbw (by first | omega | decide) | exact Zbk (by first | omega | decide)) rfl ?_
                  refine Zaq rfl rfl rfl rfl rfl rfl ?_; refine Zx rfl rfl rfl rfl rfl ?_; refine Zd rfl rfl rfl rfl ?_
                  refine Zbb 29 rfl (fun hc6 => ?_) (fun hc6 => ?_)
                  · first | replace hc6 := dT hc6 | replace hc6 := dF hc6 | replace hc6 := nT hc6 | replace hc6 := nF hc6 | skip
                    try simp only [PeerV.eta] at hc6
                    first
                    | (exfalso; omega)
                    | (exfalso; simp [eqX] at hc6; done)
                    | contradiction
                    | skip
                      refine Zj rfl rfl rfl ?_; refine Zj rfl rfl rfl ?_; refine Zj rfl rfl rfl ?_; refine Zj rfl rfl rfl ?_; refine Zx rfl rfl rfl rfl rfl ?_; refine Zd rfl rfl rfl rfl ?_; refine Zj rfl rfl rfl ?_; refine Zj rfl rfl rfl ?_; refine Zj rfl rfl rfl ?_; refine Zj rfl rfl rfl ?_; refine Zj rfl rfl rfl ?_; refine Zj rfl rfl rfl ?_; refine Zj rfl rfl rfl ?_; refine Zj rfl rfl rfl ?_; refine Zj rfl rfl rfl ?_; refine Zj rfl rfl rfl ?_; refine Zj rfl rfl rfl ?_; refine Zj rfl rfl rfl ?_; refine Zj rfl rfl rfl ?_; refine Zj rfl rfl rfl ?_; refine Zx rfl rfl rfl rfl rfl ?_; refine Zg ?_; refine Ze ?_; refine Zcg rfl ?_; refine Zk ?_; refine Za (l := [0]) rfl ?_; refine Zc rfl rfl rfl rfl ?_; refine Zg ?_; refine Ze ?_; refine Zam ?_; refine Zar ?_; refine Zbe ?_
                      refine Zar ?_; refine Zar ?_; refine Zbe ?_; refine Zar ?_
                      refine Zal (.inr rfl) (.tmp rfl .nil) (fun w hw => ?_)
                      refine ⟨_, rfl, (hw.cnt (by intro zz; first | exact Nat.le_refl _ | (simp only [Zh, Zf, Zi, cat, List.append_eq, List.append_assoc, List.cons_append, List.nil_append, List.append_nil]; omega) | (simp only [Zh, Zf, Zi, cat, List.append_eq, List.append_assoc, List.cons_append, List.nil_append, List.append_nil, PeerV.segs]; omega))), ?_⟩
                      clear hw
                      refine congrArg Value.bool ?_
                      first | (have hd := Zbh (l := l_l) (k := k) (by omega); have hp := Zbt (l := l_l); grind [IsCircle]) | (have hk9 : k = l_l.length := (by omega); subst hk9; grind [IsCircle, List.take_length]) | grind [IsCircle]
                  · first | replace hc6 := dT hc6 | replace hc6 := dF hc6 | replace hc6 := nT hc6 | replace hc6 := nF hc6 | skip
                    try simp only [PeerV.eta] at hc6
                    first
                    | (exfalso; omega)
                    | (exfalso; simp [eqX] at hc6; done)
                    | contradiction
                    | skip
                      refine Zd rfl rfl rfl rfl ?_
                      first | refine Zak rfl rfl rfl F.foff39_0 rfl ?_ | refine Zac rfl rfl rfl (by first | exact ⟨_, _, rfl⟩ | assumption | exact SlM.plain (by assumption) (by first | (simp; done) | (simp; omega)) | exact RdS.plain (by assumption) (by first | (simp; done) | (simp; omega)) | exact OSl.plain (by assumption) (by first | (simp; done) | (simp; omega))) F.foff39_0 rfl ?_
                      first | refine Zan rfl rfl rfl (by repeat first | exact List.Mem.head _ | refine List.Mem.tail _ ?_ | refine List.mem_append_right _ ?_) F.lay3 rfl rfl rfl ?_ | refine Zv rfl rfl rfl (by first | assumption | exact SlM.mono (by assumption) (by assumption)) (by first | exact Zb (by omega) | exact List.getElem?_eq_getElem (by omega) | exact rfl | exact Zb (by first | (simp; done) | (simp; omega))) F.lay3 rfl rfl rfl ?_ | refine Zu rfl rfl rfl (by assumption) (by first | exact Zb (by omega) | exact List.getElem?_eq_getElem (by omega) | exact rfl | exact Zb (by first | (simp; done) | (simp; omega))) F.lay3 rfl rfl rfl ?_ | refine Zs rfl rfl rfl (by first | assumption | exact Mem.get_of (by assumption) (by repeat first | assumption | refine Mem.le.trans (by assumption) ?_)) F.lay3 rfl rfl rfl ?_ | refine Zp rfl rfl rfl (by assumption) (by repeat first | exact Rem.here _ | exact Rem.two | apply Rem.skip | apply Rem.over) (by first | exact Zb (by omega) | exact List.getElem?_eq_getElem (by omega) | exact rfl | exact Zb (by first | (simp; done) | (simp; omega))) F.lay3 rfl rfl rfl ?_ | refine Zr rfl rfl rfl (by repeat first | exact List.Mem.head _ | refine List.Mem.tail _ ?_ | refine List.mem_append_right _ ?_) F.lay3 (by first | exact Zbw (by first | omega | decide) | exact Zbk (by first | omega | decide)) rfl ?_
                      refine X_fo rfl rfl F.ok24 rfl (ContainsI_rd _ h1 ⟨ad1, cp1, (l_l.take k).map PeerV.addr⟩ _ (ho.rd _) (by simp; omega)) (by repeat first | exact Rem.here _ | exact Rem.two | apply Rem.skip | apply Rem.over) (putE_some rfl) ?_
                      rintro _ M1 _ ⟨hM1, rfl⟩; subst M1
                      refine Zx rfl rfl rfl rfl rfl ?_; refine Zd rfl rfl rfl rfl ?_
                      refine Zbb 35 rfl (fun hc7 => ?_) (fun hc7 => ?_)
                      · first | replace hc7 := dT hc7 | replace hc7 := dF hc7 | replace hc7 := nT hc7 | replace hc7 := nF hc7 | skip
                        try simp only [PeerV.eta] at hc7
                        first
                        | (exfalso; omega)
                        | (exfalso; simp [eqX] at hc7; done)
                        | contradiction
                        | skip
                          refine Zj rfl rfl rfl ?_; refine Zj rfl rfl rfl ?_; refine Zj rfl rfl rfl ?_; refine Zj rfl rfl rfl ?_; refine Zj rfl rfl rfl ?_; refine Zj rfl rfl rfl ?_; refine Zj rfl rfl rfl ?_; refine Zj rfl rfl rfl ?_; refine Zj rfl rfl rfl ?_; refine Zj rfl rfl rfl ?_; refine Zj rfl rfl rfl ?_; refine Zj rfl rfl rfl ?_; refine Zj rfl rfl rfl ?_; refine Zj rfl rfl rfl ?_; refine Zx rfl rfl rfl rfl rfl ?_; refine Zg ?_; refine Ze ?_; refine Zcg rfl ?_; refine Zk ?_; refine Za (l := [0]) rfl ?_; refine Zc rfl rfl rfl rfl ?_; refine Zg ?_; refine Ze ?_; refine Zam ?_; refine Zar ?_; refine Zbe ?_; refine Zar ?_; refine Zar ?_; refine Zbe ?_; refine Zar ?_
                          refine Zal (.inr rfl) (.tmp rfl .nil) (fun w hw => ?_)
                          refine ⟨_, rfl, (hw.cnt (by intro zz; first | exact Nat.le_refl _ | (simp only [Zh, Zf, Zi, cat, List.append_eq, List.append_assoc, List.cons_append, List.nil_append, List.append_nil]; omega) | (simp only [Zh, Zf, Zi, cat, List.append_eq, List.append_assoc, List.cons_append, List.nil_append, List.append_nil, PeerV.segs]; omega))), ?_⟩
                          clear hw
                          refine congrArg Value.bool ?_
                          first | (have hd := Zbh (l := l_l) (k := k) (by omega); have hp := Zbt (l := l_l); grind [IsCircle]) | (have hk9 : k = l_l.length := (by omega); subst hk9; grind [IsCircle, List.take_length]) | grind [IsCircle]
                      · first | replace hc7 := dT hc7 | replace hc7 := dF hc7 | replace hc7 := nT hc7 | replace hc7 := nF hc7 | skip
                        try simp only [PeerV.eta] at hc7
                        first
                        | (exfalso; omega)
                        | (exfalso; simp [eqX] at hc7; done)
                        | contradiction
                        | skip
                          refine Zd rfl rfl rfl rfl ?_; refine Zaq rfl rfl rfl rfl rfl rfl ?_; refine Zd rfl rfl rfl rfl ?_
                          refine Zbb 38 rfl (fun hc8 => ?_) (fun hc8 => ?_)
                          · first | replace hc8 := dT hc8 | replace hc8 := dF hc8 | replace hc8 := nT hc8 | replace hc8 := nF hc8 | skip
                            try simp only [PeerV.eta] at hc8
                            first
                            | (exfalso; omega)
                            | (exfalso; simp [eqX] at hc8; done)
                            | contradiction
                            | skip
                              refine Zd rfl rfl rfl rfl ?_; refine Zd rfl rfl rfl rfl ?_; refine Zav rfl rfl rfl rfl rfl (by first | exact Zaa (by decide) (by omega) | exact Zm (by decide) (by omega) | exact Zo (by decide) (by omega) | exact Zn (by decide) (by omega) | exact Zt _ | exact Zz _ | exact Zq _ | exact rfl) rfl ?_; refine Zab rfl rfl rfl rfl F.elem23 (by first | rfl | exact (Int.toNat_of_nonneg (by omega)).symm) (by first | omega | (simp; done) | (simp; omega)) (by first | exact ⟨_, _, rfl⟩ | assumption | exact SlM.plain (by assumption) (by first | (simp; done) | (simp; omega)) | exact RdS.plain (by assumption) (by first | (simp; done) | (simp; omega)) | exact OSl.plain (by assumption) (by first | (simp; done) | (simp; omega))) rfl ?_
                              first | refine Zak rfl rfl rfl F.foff39_1 rfl ?_ | refine Zac rfl rfl rfl (by first | exact ⟨_, _, rfl⟩ | assumption | exact SlM.plain (by assumption) (by first | (simp; done) | (simp; omega)) | exact RdS.plain (by assumption) (by first | (simp; done) | (simp; omega)) | exact OSl.plain (by assumption) (by first | (simp; done) | (simp; omega))) F.foff39_1 rfl ?_
                              first | refine Zan rfl rfl rfl (by repeat first | exact List.Mem.head _ | refine List.Mem.tail _ ?_ | refine List.mem_append_right _ ?_) F.lay34 rfl rfl rfl ?_ | refine Zv rfl rfl rfl (by first | assumption | exact SlM.mono (by assumption) (by assumption)) (by first | exact Zb (by omega) | exact List.getElem?_eq_getElem (by omega) | exact rfl | exact Zb (by first | (simp; done) | (simp; omega))) F.lay34 rfl rfl rfl ?_ | refine Zu rfl rfl rfl (by assumption) (by first | exact Zb (by omega) | exact List.getElem?_eq_getElem (by omega) | exact rfl | exact Zb (by first | (simp; done) | (simp; omega))) F.lay34 rfl rfl rfl ?_ | refine Zs rfl rfl rfl (by first | assumption | exact Mem.get_of (by assumption) (by repeat first | assumption | refine Mem.le.trans (by assumption) ?_)) F.lay34 rfl rfl rfl ?_ | refine Zp rfl rfl rfl (by assumption) (by repeat first | exact Rem.here _ | exact Rem.two | apply Rem.skip | apply Rem.over) (by first | exact Zb (by omega) | exact List.getElem?_eq_getElem (by omega) | exact rfl | exact Zb (by first | (simp; done) | (simp; omega))) F.lay34 rfl rfl rfl ?_
                              first | refine Zak rfl rfl rfl F.foff39_1 rfl ?_ | refine Zac rfl rfl rfl (by first | exact ⟨_, _, rfl⟩ | assumption | exact SlM.plain (by assumption) (by first | (simp; done) | (simp; omega)) | exact RdS.plain (by assumption) (by first | (simp; done) | (simp; omega)) | exact OSl.plain (by assumption) (by first | (simp; done) | (simp; omega))) F.foff39_1 rfl ?_
                              first | refine Zan rfl rfl rfl (by repeat first | exact List.Mem.head _ | refine List.Mem.tail _ ?_ | refine List.mem_append_right _ ?_) F.lay34 rfl rfl rfl ?_ | refine Zv rfl rfl rfl (by first | assumption | exact SlM.mono (by assumption) (by assumption)) (by first | exact Zb (by omega) | exact List.getElem?_eq_getElem (by omega) | exact rfl | exact Zb (by first | (simp; done) | (simp; omega))) F.lay34 rfl rfl rfl ?_ | refine Zu rfl rfl rfl (by assumption) (by first | exact Zb (by omega) | exact List.getElem?_eq_getElem (by omega) | exact rfl | exact Zb (by first | (simp; done) | (simp; omega))) F.lay34 rfl rfl rfl ?_ | refine Zs rfl rfl rfl (by first | assumption | exact Mem.get_of (by assumption) (by repeat first | assumption | refine Mem.le.trans (by assumption) ?_)) F.lay34 rfl rfl rfl ?_ | refine Zp rfl rfl rfl (by assumption) (by repeat first | exact Rem.here _ | exact Rem.two | apply Rem.skip | apply Rem.over) (by first | exact Zb (by omega) | exact List.getElem?_eq_getElem (by omega) | exact rfl | exact Zb (by first | (simp; done) | (simp; omega))) F.lay34 rfl rfl rfl ?_
                              refine X_fs rfl rfl F.ok25 rfl (Less_ok _ _ _) rfl ?_
                              rintro _ rfl
                              refine X_not rfl rfl rfl rfl ?_; refine Zx rfl rfl rfl rfl rfl ?_; refine Zx rfl rfl rfl rfl rfl ?_; refine Zg ?_; refine Ze ?_
                              refine Zai rfl (fun hc9 => ?_) (fun hc9 => ?_)
                              · first | replace hc9 := dT hc9 | replace hc9 := dF hc9 | replace hc9 := nT hc9 | replace hc9 := nF hc9 | skip
                                try simp only [PeerV.eta] at hc9
                                first
                                | (exfalso; omega)
                                | (exfalso; simp [eqX] at hc9; done)
                                | contradiction
                                | skip
                                  refine Zk ?_; refine Za (l := [0]) rfl ?_; refine Zc rfl rfl rfl rfl ?_; refine Zg ?_; refine Ze ?_; refine Zam ?_; refine Zar ?_; refine Zbe ?_; refine Zar ?_; refine Zar ?_; refine Zbe ?_; refine Zar ?_
                                  refine Zal (.inr rfl) (.tmp rfl .nil) (fun w hw => ?_)
                                  refine ⟨_, rfl, (hw.cnt (by intro zz; first | exact Nat.le_refl _ | (simp only [Zh, Zf, Zi, cat, List.append_eq, List.append_assoc, List.cons_append, List.nil_append, List.append_nil]; omega) | (simp only [Zh, Zf, Zi, cat, List.append_eq, List.append_assoc, List.cons_append, List.nil_append, List.append_nil, PeerV.segs]; omega))), ?_⟩
                                  clear hw
                                  refine congrArg Value.bool ?_
                                  first | (have hd := Zbh (l := l_l) (k := k) (by omega); have hp := Zbt (l := l_l); grind [IsCircle]) | (have hk9 : k = l_l.length := (by omega); subst hk9; grind [IsCircle, List.take_length]) | grind [IsCircle]
                              · first | replace hc9 := dT hc9 | replace hc9 := dF hc9 | replace hc9 := nT hc9 | replace hc9 := nF hc9 | skip
                                try simp only [PeerV.eta] at hc9
                                first
                                | (exfalso; omega)
                                | (exfalso; simp [eqX] at hc9; done)
                                | contradiction
                                | skip
                                  refine Zah ?_; refine Ze ?_; refine Za (l := [0, 1, 2, 3, 4, 5]) rfl ?_; refine Zd rfl rfl rfl rfl ?_
                                  first | refine Zak rfl rfl rfl F.foff39_0 rfl ?_ | refine Zac rfl rfl rfl (by first | exact ⟨_, _, rfl⟩ | assumption | exact SlM.plain (by assumption) (by first | (simp; done) | (simp; omega)) | exact RdS.plain (by assumption) (by first | (simp; done) | (simp; omega)) | exact OSl.plain (by assumption) (by first | (simp; done) | (simp; omega))) F.foff39_0 rfl ?_
                                  first | refine Zan rfl rfl rfl (by repeat first | exact List.Mem.head _ | refine List.Mem.tail _ ?_ | refine List.mem_append_right _ ?_) F.lay3 rfl rfl rfl ?_ | refine Zv rfl rfl rfl (by first | assumption | exact SlM.mono (by assumption) (by assumption)) (by first | exact Zb (by omega) | exact List.getElem?_eq_getElem (by omega) | exact rfl | exact Zb (by first | (simp; done) | (simp; omega))) F.lay3 rfl rfl rfl ?_ | refine Zu rfl rfl rfl (by assumption) (by first | exact Zb (by omega) | exact List.getElem?_eq_getElem (by omega) | exact rfl | exact Zb (by first | (simp; done) | (simp; omega))) F.lay3 rfl rfl rfl ?_ | refine Zs rfl rfl rfl (by first | assumption | exact Mem.get_of (by assumption) (by repeat first | assumption | refine Mem.le.trans (by assumption) ?_)) F.lay3 rfl rfl rfl ?_ | refine Zp rfl rfl rfl (by assumption) (by repeat first | exact Rem.here _ | exact Rem.two | apply Rem.skip | apply Rem.over) (by first | exact Zb (by omega) | exact List.getElem?_eq_getElem (by omega) | exact rfl | exact Zb (by first | (simp; done) | (simp; omega))) F.lay3 rfl rfl rfl ?_ | refine Zr rfl rfl rfl (by repeat first | exact List.Mem.head _ | refine List.Mem.tail _ ?_ | refine List.mem_append_right _ ?_) F.lay3 (by first | exact Zbw (by first | omega | decide) | exact Zbk (by first | omega | decide)) rfl ?_
                                  refine Zba rfl rfl F.elem22 F.zero3 rfl rfl (.cons rfl (by constructor) .nil) rfl rfl (by simp only [List.map_cons, List.map_nil] <;> rfl) rfl ?_; intro b10 hob11
                                  refine Zca (m := 1000000) rfl rfl rfl rfl rfl F.elem22 F.zero3 (by first | rfl | exact Zbo rfl) rfl (by first | assumption | exact OSl.nil) (by repeat first | exact Rem.here _ | exact Rem.two | apply Rem.skip | apply Rem.over) (Src.own hob11.lens (by first | exact PeerV.flat1 _ | exact PeerV.flat1 ⟨_, _⟩ | (refine Zbf ?_; (repeat (first | exact Zag | refine Zau ?_ | (refine Zae ?_ ?_; rfl))); done) | (refine Zbf ?_; exact PeerV.flat _) | (simp [rowsCells, Segs.cells, Seg.cells, Value.oneCell']; done)) rfl (by repeat first | exact List.Mem.head _ | refine List.Mem.tail _ ?_ | refine List.mem_append_right _ ?_)) (by first | omega | (simp; done) | (simp; omega)) (by decide) rfl ?_; intro v14 hs13 ho12; obtain ⟨adv14, cpv14, rfl⟩ := ho12.val
                                  refine Zc rfl rfl rfl rfl ?_; refine Zg ?_; refine Zbs ?_; refine Ze ?_; refine Za (l := [0, 1]) rfl ?_; refine Zav rfl rfl rfl rfl rfl (by first | exact Zaa (by decide) (by omega) | exact Zm (by decide) (by omega) | exact Zo (by decide) (by omega) | exact Zn (by decide) (by omega) | exact Zt _ | exact Zz _ | exact Zq _ | exact rfl) rfl ?_; refine Zd rfl rfl rfl rfl ?_; refine Zg ?_; refine Zbj (a' := [(16, _), (3, _)]) (k + 1) (hs13) (.cons (k := 16) rfl (.cons (k := 3) rfl (.cons (k := 15) rfl (.cons (k := 14) rfl (.cons (k := 2) rfl (.cons (k := 0) rfl (.nil))))))) (by first | exact Mem.le.refl _ | assumption | (repeat first | assumption | refine Mem.le.trans (by assumption) ?_)) (fun w hw => by first | exact hw | exact hw.cnt (by intro zz; first | exact Nat.le_refl _ | (simp only [Zh, Zf, Zi, cat, List.append_eq, List.append_assoc, List.cons_append, List.nil_append, List.append_nil]; omega) | (simp only [Zh, Zf, Zi, cat, List.append_eq, List.append_assoc, List.cons_append, List.nil_append, List.append_nil, PeerV.segs]; omega))) ?_ ?_
                                  · refine ⟨_, rfl, rfl, by omega, ?_, ?_⟩
                                    · have hd := Zbh (l := l_l) (k := k) (by omega); grind
                                    · have e9 : (((l_l.take (k + 1)).map PeerV.addr).map (oneI .i64)) = (((l_l.take k).map PeerV.addr).map (oneI .i64)) ++ [oneI .i64 l_l[k].addr] := by rw [take_map_succ _ (by omega), List.map_append]; rfl
                                      rw [e9]; assumption
                                  · omega
                          · first | replace hc8 := dT hc8 | replace hc8 := dF hc8 | replace hc8 := nT hc8 | replace hc8 := nF hc8 | skip
                            try simp only [PeerV.eta] at hc8
                            first
                            | (exfalso; omega)
                            | (exfalso; simp [eqX] at hc8; done)
                            | contradiction
                            | skip
                              refine Zj rfl rfl rfl ?_; refine Zj rfl rfl rfl ?_; refine Zj rfl rfl rfl ?_; refine Zj rfl rfl rfl ?_; refine Zj rfl rfl rfl ?_; refine Zj rfl rfl rfl ?_; refine Zj rfl rfl rfl ?_; refine Zj rfl rfl rfl ?_; refine Zj rfl rfl rfl ?_; refine Zj rfl rfl rfl ?_; refine Zx rfl rfl rfl rfl rfl ?_; refine Zx rfl rfl rfl rfl rfl ?_; refine Zg ?_; refine Ze ?_; refine C_false rfl ?_; refine Zah ?_; refine Ze ?_; refine Za (l := [0, 1, 2, 3, 4, 5]) rfl ?_; refine Zd rfl rfl rfl rfl ?_
                              first | refine Zak rfl rfl rfl F.foff39_0 rfl ?_ | refine Zac rfl rfl rfl (by first | exact ⟨_, _, rfl⟩ | assumption | exact SlM.plain (by assumption) (by first | (simp; done) | (simp; omega)) | exact RdS.plain (by assumption) (by first | (simp; done) | (simp; omega)) | exact OSl.plain (by assumption) (by first | (simp; done) | (simp; omega))) F.foff39_0 rfl ?_
                              first | refine Zan rfl rfl rfl (by repeat first | exact List.Mem.head _ | refine List.Mem.tail _ ?_ | refine List.mem_append_right _ ?_) F.lay3 rfl rfl rfl ?_ | refine Zv rfl rfl rfl (by first | assumption | exact SlM.mono (by assumption) (by assumption)) (by first | exact Zb (by omega) | exact List.getElem?_eq_getElem (by omega) | exact rfl | exact Zb (by first | (simp; done) | (simp; omega))) F.lay3 rfl rfl rfl ?_ | refine Zu rfl rfl rfl (by assumption) (by first | exact Zb (by omega) | exact List.getElem?_eq_getElem (by omega) | exact rfl | exact Zb (by first | (simp; done) | (simp; omega))) F.lay3 rfl rfl rfl ?_ | refine Zs rfl rfl rfl (by first | assumption | exact Mem.get_of (by assumption) (by repeat first | assumption | refine Mem.le.trans (by assumption) ?_)) F.lay3 rfl rfl rfl ?_ | refine Zp rfl rfl rfl (by assumption) (by repeat first | exact Rem.here _ | exact Rem.two | apply Rem.skip | apply Rem.over) (by first | exact Zb (by omega) | exact List.getElem?_eq_getElem (by omega) | exact rfl | exact Zb (by first | (simp; done) | (simp; omega))) F.lay3 rfl rfl rfl ?_ | refine Zr rfl rfl rfl (by repeat first | exact List.Mem.head _ | refine List.Mem.tail _ ?_ | refine List.mem_append_right _ ?_) F.lay3 (by first | exact Zbw (by first | omega | decide) | exact Zbk (by first | omega | decide)) rfl ?_
                              refine Zba rfl rfl F.elem22 F.zero3 rfl rfl (.cons rfl (by constructor) .nil) rfl rfl (by simp only [List.map_cons, List.map_nil] <;> rfl) rfl ?_; intro b15 hob16
                              refine Zca (m := 1000000) rfl rfl rfl rfl rfl F.elem22 F.zero3 (by first | rfl | exact Zbo rfl) rfl (by first | assumption | exact OSl.nil) (by repeat first | exact Rem.here _ | exact Rem.two | apply Rem.skip | apply Rem.over) (Src.own hob16.lens (by first | exact PeerV.flat1 _ | exact PeerV.flat1 ⟨_, _⟩ | (refine Zbf ?_; (repeat (first | exact Zag | refine Zau ?_ | (refine Zae ?_ ?_; rfl))); done) | (refine Zbf ?_; exact PeerV.flat _) | (simp [rowsCells, Segs.cells, Seg.cells, Value.oneCell']; done)) rfl (by repeat first | exact List.Mem.head _ | refine List.Mem.tail _ ?_ | refine List.mem_append_right _ ?_)) (by first | omega | (simp; done) | (simp; omega)) (by decide) rfl ?_; intro v19 hs18 ho17; obtain ⟨adv19, cpv19, rfl⟩ := ho17.val
                              refine Zc rfl rfl rfl rfl ?_; refine Zg ?_; refine Zbs ?_; refine Ze ?_; refine Za (l := [0, 1]) rfl ?_; refine Zav rfl rfl rfl rfl rfl (by first | exact Zaa (by decide) (by omega) | exact Zm (by decide) (by omega) | exact Zo (by decide) (by omega) | exact Zn (by decide) (by omega) | exact Zt _ | exact Zz _ | exact Zq _ | exact rfl) rfl ?_; refine Zd rfl rfl rfl rfl ?_; refine Zg ?_; refine Zbj (a' := [(16, _), (3, _)]) (k + 1) (hs18) (.cons (k := 16) rfl (.cons (k := 3) rfl (.cons (k := 15) rfl (.cons (k := 14) rfl (.cons (k := 2) rfl (.cons (k := 0) rfl (.nil))))))) (by first | exact Mem.le.refl _ | assumption | (repeat first | assumption | refine Mem.le.trans (by assumption) ?_)) (fun w hw => by first | exact hw | exact hw.cnt (by intro zz; first | exact Nat.le_refl _ | (simp only [Zh, Zf, Zi, cat, List.append_eq, List.append_assoc, List.cons_append, List.nil_append, List.append_nil]; omega) | (simp only [Zh, Zf, Zi, cat, List.append_eq, List.append_assoc, List.cons_append, List.nil_append, List.append_nil, PeerV.segs]; omega))) ?_ ?_
                              · refine ⟨_, rfl, rfl, by omega, ?_, ?_⟩
                                · have hd := Zbh (l := l_l) (k := k) (by omega); grind
                                · have e9 : (((l_l.take (k + 1)).map PeerV.addr).map (oneI .i64)) = (((l_l.take k).map PeerV.addr).map (oneI .i64)) ++ [oneI .i64 l_l[k].addr] := by rw [take_map_succ _ (by omega), List.map_append]; rfl
                                  rw [e9]; assumption
                              · omega
          · first | replace hc3 := dT hc3 | replace hc3 := dF hc3 | replace hc3 := nT hc3 | replace hc3 := nF hc3 | skip
            try simp only [PeerV.eta] at hc3
            first
            | (exfalso; omega)
            | (exfalso; simp [eqX] at hc3; done)
            | contradiction
            | skip
              refine Zbl ?_; refine Zao ?_; refine Zao ?_; refine Zbx ?_; refine Ze ?_; refine Zl (.cons (k := 2) rfl .nil) ?_; refine Zk ?_; refine Za (l := [0]) rfl ?_; refine Zc rfl rfl rfl rfl ?_; refine Zg ?_; refine Ze ?_; refine Zam ?_
              refine Zal (.inr rfl) (.tmp rfl .nil) (fun w hw => ?_)
              refine ⟨_, rfl, (hw.cnt (by intro zz; first | exact Nat.le_refl _ | (simp only [Zh, Zf, Zi, cat, List.append_eq, List.append_assoc, List.cons_append, List.nil_append, List.append_nil]; omega) | (simp only [Zh, Zf, Zi, cat, List.append_eq, List.append_assoc, List.cons_append, List.nil_append, List.append_nil, PeerV.segs]; omega))), ?_⟩
              clear hw
              refine congrArg Value.bool ?_
              first | (have hd := Zbh (l := l_l) (k := k) (by omega); have hp := Zbt (l := l_l); grind [IsCircle]) | (have hk9 : k = l_l.length := (by omega); subst hk9; grind [IsCircle, List.take_length]) | grind [IsCircle]
theorem rCirc_ok (M : Mem) (l : (Sl PeerV)) (hl0 : SlK M PeerV.segs 21 l) : Fs Tryd.prog 9 [Sl.val l] M (fun v => v = Value.bool (decide (IsCircle l.l))) := by
  obtain ⟨l_a, l_c, l_l⟩ := l
  have k_l : SlK M PeerV.segs 21 ⟨l_a, l_c, l_l⟩ := hl0
  have s_l : SlM M l_a (l_l.map PeerV.segs) 21 := k_l.h1
  have n_l : (l_l.map PeerV.segs).length = l_l.length := List.length_map ..
  have m_l : l_l.length ≤ 9223372036854775807 := k_l.h2
  have c_l : l_l.length ≤ l_c := k_l.h3
  refine Zbd Tryd.func9 rfl Tryd.ntmps9 rfl ?_; intro H
  refine Zk ?_; refine Za (l := [0]) rfl ?_; refine Zc rfl rfl rfl rfl ?_; refine Zg ?_; refine Ze ?_; refine Zk ?_; refine Zk ?_; refine Za (l := [0, 1, 2, 3, 4, 5, 6, 7]) rfl ?_; refine Zd rfl rfl rfl rfl ?_; refine Zat rfl rfl rfl rfl F.elem23 rfl ?_; refine Zaq rfl rfl rfl rfl rfl rfl ?_; refine Zd rfl rfl rfl rfl ?_
  refine Zbb 8 rfl (fun hc1 => ?_) (fun hc1 => ?_)
  · first | replace hc1 := dT hc1 | replace hc1 := dF hc1 | replace hc1 := nT hc1 | replace hc1 := nF hc1 | skip
    try simp only [PeerV.eta] at hc1
    first
    | (exfalso; omega)
    | (exfalso; simp [eqX] at hc1; done)
    | contradiction
    | skip
      refine Zj rfl rfl rfl ?_; refine Zj rfl rfl rfl ?_; refine Zj rfl rfl rfl ?_; refine Zx rfl rfl rfl rfl rfl ?_; refine Zg ?_; refine Ze ?_; refine Zl (.cons (k := 12) rfl (.cons (k := 2) rfl (.cons (k := 0) rfl .nil))) ?_; refine Zcg rfl ?_; refine Zk ?_; refine Za (l := [0]) rfl ?_; refine Zc rfl rfl rfl rfl ?_; refine Zg ?_; refine Ze ?_; refine Zl (.cons (k := 2) rfl (.cons (k := 0) rfl .nil)) ?_; refine Zam ?_; refine Zar ?_
      refine Zal (.inr rfl) (.tmp rfl .nil) (fun w hw => ?_)
      refine ⟨_, rfl, (hw.cnt (by intro zz; first | exact Nat.le_refl _ | (simp only [Zh, Zf, Zi, cat, List.append_eq, List.append_assoc, List.cons_append, List.nil_append, List.append_nil]; omega) | (simp only [Zh, Zf, Zi, cat, List.append_eq, List.append_assoc, List.cons_append, List.nil_append, List.append_nil, PeerV.segs]; omega))), ?_⟩
      clear hw
      refine congrArg Value.bool ?_
      first | (have hd := Zbh (l := l_l) (k := k) (by omega); have hp := Zbt (l := l_l); grind [IsCircle, mem_map_take]) | (have hk9 : k = l_l.length := (by omega); subst hk9; grind [IsCircle, List.take_length]) | grind [IsCircle]
  · first | replace hc1 := dT hc1 | replace hc1 := dF hc1 | replace hc1 := nT hc1 | replace hc1 := nF hc1 | skip
    try simp only [PeerV.eta] at hc1
    first
    | (exfalso; omega)
    | (exfalso; simp [eqX] at hc1; done)
    | contradiction
    | skip
      refine Zd rfl rfl rfl rfl ?_; refine Zat rfl rfl rfl rfl F.elem23 rfl ?_; refine Zaq rfl rfl rfl rfl rfl rfl ?_; refine Zx rfl rfl rfl rfl rfl ?_; refine Zg ?_; refine Ze ?_; refine Zl (.cons (k := 12) rfl (.cons (k := 2) rfl (.cons (k := 0) rfl .nil))) ?_
      refine Zai rfl (fun hc2 => ?_) (fun hc2 => ?_)
      · first | replace hc2 := dT hc2 | replace hc2 := dF hc2 | replace hc2 := nT hc2 | replace hc2 := nF hc2 | skip
        try simp only [PeerV.eta] at hc2
        first
        | (exfalso; omega)
        | (exfalso; simp [eqX] at hc2; done)
        | contradiction
        | skip
          refine Zk ?_; refine Za (l := [0]) rfl ?_; refine Zc rfl rfl rfl rfl ?_; refine Zg ?_; refine Ze ?_; refine Zl (.cons (k := 2) rfl (.cons (k := 0) rfl .nil)) ?_; refine Zam ?_; refine Zar ?_
          refine Zal (.inr rfl) (.tmp rfl .nil) (fun w hw => ?_)
          refine ⟨_, rfl, (hw.cnt (by intro zz; first | exact Nat.le_refl _ | (simp only [Zh, Zf, Zi, cat, List.append_eq, List.append_assoc, List.cons_append, List.nil_append, List.append_nil]; omega) | (simp only [Zh, Zf, Zi, cat, List.append_eq, List.append_assoc, List.cons_append, List.nil_append, List.append_nil, PeerV.segs]; omega))), ?_⟩
          clear hw
          refine congrArg Value.bool ?_
          first | (have hd := Zbh (l := l_l) (k := k) (by omega); have hp := Zbt (l := l_l); grind [IsCircle, mem_map_take]) | (have hk9 : k = l_l.length := (by omega); subst hk9; grind [IsCircle, List.take_length]) | grind [IsCircle]
      · first | replace hc2 := dT hc2 | replace hc2 := dF hc2 | replace hc2 := nT hc2 | replace hc2 := nF hc2 | skip
        try simp only [PeerV.eta] at hc2
        first
        | (exfalso; omega)
        | (exfalso; simp [eqX] at hc2; done)
        | contradiction
        | skip
          refine Zah ?_; refine Ze ?_; refine Zl (.cons (k := 2) rfl (.cons (k := 0) rfl .nil)) ?_; refine Zk ?_; refine Zk ?_; refine Za (l := [0]) rfl ?_; refine Zc rfl rfl rfl rfl ?_; refine Zg ?_; refine Ze ?_; refine Zad ?_; refine Zl (.cons (k := 3) rfl (.cons (k := 2) rfl (.cons (k := 0) rfl .nil))) ?_; refine Zbz (.succ .zero) (fun (k : Nat) z => z = [(3, .int .i64 (k : Int))] ∧ k ≤ l_l.length ∧ ((1 ≤ l_l.length ∧ l_l.length ≤ 16) ∧ CircOk (l_l.take k))) (fun k => l_l.length - k) (0) (⟨rfl, by omega, by (refine ⟨by omega, ?_⟩; simp [CircOk])⟩) ?_
          rintro k _ ⟨rfl, hk, hI⟩
          have hlk : (l_l.take k).length = k := by rw [List.length_take]; omega
          refine Zk ?_; refine Zk ?_; refine Za (l := [0, 1, 2, 3]) rfl ?_; refine Zd rfl rfl rfl rfl ?_; refine Zd rfl rfl rfl rfl ?_; refine Zat rfl rfl rfl rfl F.elem23 rfl ?_; refine Zaq rfl rfl rfl rfl rfl rfl ?_; refine Zg ?_; refine Ze ?_
          refine Zai rfl (fun hc3 => ?_) (fun hc3 => ?_)
          · first | replace hc3 := dT hc3 | replace hc3 := dF hc3 | replace hc3 := nT hc3 | replace hc3 := nF hc3 | skip
            try simp only [PeerV.eta] at hc3
            first
            | (exfalso; omega)
            | (exfalso; simp [eqX] at hc3; done)
            | contradiction
            | skip
              refine Zah ?_; refine Ze ?_; refine Zk ?_; refine Zad ?_; refine Zk ?_; refine Zk ?_; refine Zaf (l := [0, 1, 2, 3, 4, 5, 6, 7, 8, 9, 10, 11, 12, 13, 14, 15, 16, 17, 18, 19, 20, 21, 22, 23, 24, 25, 26, 27, 28, 29, 30, 31, 32]) #[0, 0, 3, 7, 15, 31, 63, 127, 127, 511, 1023, 2047, 4095, 8191, 16383, 32767, 65535, 131071, 262143, 262143, 786431, 2097151, 4194303, 8388607, 262143, 262143, 50593791, 117702655, 251920383, 536870911, 1073741823, 2147483647, 4294967295] _ rfl (by kernel_rfl) (by kernel_rfl) St.drawn (fun _ h => h) ?_; refine Zd rfl rfl rfl rfl ?_; refine Zd rfl rfl rfl rfl ?_; refine Zab rfl rfl rfl rfl F.elem23 (by first | rfl | exact (Int.toNat_of_nonneg (by omega)).symm) (by first | omega | (simp; done) | (simp; omega)) (by first | exact ⟨_, _, rfl⟩ | assumption | exact SlM.plain (by assumption) (by first | (simp; done) | (simp; omega)) | exact RdS.plain (by assumption) (by first | (simp; done) | (simp; omega)) | exact OSl.plain (by assumption) (by first | (simp; done) | (simp; omega))) rfl ?_
              first | refine Zak rfl rfl rfl F.foff39_0 rfl ?_ | refine Zac rfl rfl rfl (by first | exact ⟨_, _, rfl⟩ | assumption | exact SlM.plain (by assumption) (by first | (simp; done) | (simp; omega)) | exact RdS.plain (by assumption) (by first | (simp; done) | (simp; omega)) | exact OSl.plain (by assumption) (by first | (simp; done) | (simp; omega))) F.foff39_0 rfl ?_
              first | refine Zan rfl rfl rfl (by repeat first | exact List.Mem.head _ | refine List.Mem.tail _ ?_ | refine List.mem_append_right _ ?_) F.lay3 rfl rfl rfl ?_ | refine Zv rfl rfl rfl (by first | assumption | exact SlM.mono (by assumption) (by assumption)) (by first | exact Zb (by omega) | exact List.getElem?_eq_getElem (by omega) | exact rfl | exact Zb (by first | (simp; done) | (simp; omega))) F.lay3 rfl rfl rfl ?_ | refine Zu rfl rfl rfl (by assumption) (by first | exact Zb (by omega) | exact List.getElem?_eq_getElem (by omega) | exact rfl | exact Zb (by first | (simp; done) | (simp; omega))) F.lay3 rfl rfl rfl ?_ | refine Zs rfl rfl rfl (by first | assumption | exact Mem.get_of (by assumption) (by repeat first | assumption | refine Mem.le.trans (by assumption) ?_)) F.lay3 rfl rfl rfl ?_ | refine Zp rfl rfl rfl (by assumption) (by repeat first | exact Rem.here _ | exact Rem.two | apply Rem.skip | apply Rem.over) (by first | exact Zb (by omega) | exact List.getElem?_eq_getElem (by omega) | exact rfl | exact Zb (by first | (simp; done) | (simp; omega))) F.lay3 rfl rfl rfl ?_ | refine Zr rfl rfl rfl (by repeat first | exact List.Mem.head _ | refine List.Mem.tail _ ?_ | refine List.mem_append_right _ ?_) F.lay3 (by first | exact Zbw (by first | omega | decide) | exact Zbk (by first | omega | decide)) rfl ?_
              refine Zaq rfl rfl rfl rfl rfl rfl ?_; refine Zd rfl rfl rfl rfl ?_
              refine Zbb 25 rfl (fun hc4 => ?_) (fun hc4 => ?_)
              · first | replace hc4 := dT hc4 | replace hc4 := dF hc4 | replace hc4 := nT hc4 | replace hc4 := nF hc4 | skip
                try simp only [PeerV.eta] at hc4
                first
                | (exfalso; omega)
                | (exfalso; simp [eqX] at hc4; done)
                | contradiction
                | skip
                  refine Zj rfl rfl rfl ?_; refine Zj rfl rfl rfl ?_; refine Zj rfl rfl rfl ?_; refine Zj rfl rfl rfl ?_; refine Zj rfl rfl rfl ?_; refine Zj rfl rfl rfl ?_; refine Zx rfl rfl rfl rfl rfl ?_; refine Zd rfl rfl rfl rfl ?_; refine Zj rfl rfl rfl ?_; refine Zj rfl rfl rfl ?_; refine Zj rfl rfl rfl ?_; refine Zj rfl rfl rfl ?_; refine Zj rfl rfl rfl ?_; refine Zj rfl rfl rfl ?_; refine Zj rfl rfl rfl ?_; refine Zj rfl rfl rfl ?_; refine Zj rfl rfl rfl ?_; refine Zj rfl rfl rfl ?_; refine Zj rfl rfl rfl ?_; refine Zj rfl rfl rfl ?_; refine Zj rfl rfl rfl ?_; refine Zj rfl rfl rfl ?_; refine Zj rfl rfl rfl ?_; refine Zj rfl rfl rfl ?_; refine Zj rfl rfl rfl ?_; refine Zx rfl rfl rfl rfl rfl ?_; refine Zg ?_; refine Ze ?_; refine Zcg rfl ?_; refine Zk ?_; refine Za (l := [0]) rfl ?_
                  refine Zc rfl rfl rfl rfl ?_; refine Zg ?_; refine Ze ?_; refine Zam ?_; refine Zar ?_; refine Zbe ?_; refine Zar ?_; refine Zar ?_; refine Zbe ?_; refine Zar ?_
                  refine Zal (.inr rfl) (.tmp rfl .nil) (fun w hw => ?_)
                  refine ⟨_, rfl, (hw.cnt (by intro zz; first | exact Nat.le_refl _ | (simp only [Zh, Zf, Zi, cat, List.append_eq, List.append_assoc, List.cons_append, List.nil_append, List.append_nil]; omega) | (simp only [Zh, Zf, Zi, cat, List.append_eq, List.append_assoc, List.cons_append, List.nil_append, List.append_nil, PeerV.segs]; omega))), ?_⟩
                  clear hw
                  refine congrArg Value.bool ?_
                  first | (have hd := Zbh (l := l_l) (k := k) (by omega); have hp := Zbt (l := l_l); grind [IsCircle, mem_map_take]) | (have hk9 : k = l_l.length := (by omega); subst hk9; grind [IsCircle, List.take_length]) | grind [IsCircle]
              · first | replace hc4 := dT hc4 | replace hc4 := dF hc4 | replace hc4 := nT hc4 | replace hc4 := nF hc4 | skip
                try simp only [PeerV.eta] at hc4
                first
                | (exfalso; omega)
                | (exfalso; simp [eqX] at hc4; done)
                | contradiction
                | skip
                  refine Zd rfl rfl rfl rfl ?_; refine Zd rfl rfl rfl rfl ?_; refine Zab rfl rfl rfl rfl F.elem23 (by first | rfl | exact (Int.toNat_of_nonneg (by omega)).symm) (by first | omega | (simp; done) | (simp; omega)) (by first | exact ⟨_, _, rfl⟩ | assumption | exact SlM.plain (by assumption) (by first | (simp; done) | (simp; omega)) | exact RdS.plain (by assumption) (by first | (simp; done) | (simp; omega)) | exact OSl.plain (by assumption) (by first | (simp; done) | (simp; omega))) rfl ?_
                  first | refine Zak rfl rfl rfl F.foff39_0 rfl ?_ | refine Zac rfl rfl rfl (by first | exact ⟨_, _, rfl⟩ | assumption | exact SlM.plain (by assumption) (by first | (simp; done) | (simp; omega)) | exact RdS.plain (by assumption) (by first | (simp; done) | (simp; omega)) | exact OSl.plain (by assumption) (by first | (simp; done) | (simp; omega))) F.foff39_0 rfl ?_
                  first | refine Zan rfl rfl rfl (by repeat first | exact List.Mem.head _ | refine List.Mem.tail _ ?_ | refine List.mem_append_right _ ?_) F.lay3 rfl rfl rfl ?_ | refine Zv rfl rfl rfl (by first | assumption | exact SlM.mono (by assumption) (by assumption)) (by first | exact Zb (by omega) | exact List.getElem?_eq_getElem (by omega) | exact rfl | exact Zb (by first | (simp; done) | (simp; omega))) F.lay3 rfl rfl rfl ?_ | refine Zu rfl rfl rfl (by assumption) (by first | exact Zb (by omega) | exact List.getElem?_eq_getElem (by omega) | exact rfl | exact Zb (by first | (simp; done) | (simp; omega))) F.lay3 rfl rfl rfl ?_ | refine Zs rfl rfl rfl (by first | assumption | exact Mem.get_of (by assumption) (by repeat first | assumption | refine Mem.le.trans (by assumption) ?_)) F.lay3 rfl rfl rfl ?_ | refine Zp rfl rfl rfl (by assumption) (by repeat first | exact Rem.here _ | exact Rem.two | apply Rem.skip | apply Rem.over) (by first | exact Zb (by omega) | exact List.getElem?_eq_getElem (by omega) | exact rfl | exact Zb (by first | (simp; done) | (simp; omega))) F.lay3 rfl rfl rfl ?_ | refine Zr rfl rfl rfl (by repeat first | exact List.Mem.head _ | refine List.Mem.tail _ ?_ | refine List.mem_append_right _ ?_) F.lay3 (by first | exact Zbw (by first | omega | decide) | exact Zbk (by first | omega | decide)) rfl ?_
                  refine Zaq rfl rfl rfl rfl rfl rfl ?_; refine Zx rfl rfl rfl rfl rfl ?_; refine Zd rfl rfl rfl rfl ?_
                  refine Zbb 33 rfl (fun hc5 => ?_) (fun hc5 => ?_)
                  · first | replace hc5 := dT hc5 | replace hc5 := dF hc5 | replace hc5 := nT hc5 | replace hc5 := nF hc5 | skip
                    try simp only [PeerV.eta] at hc5
                    first
                    | (exfalso; omega)
                    | (exfalso; simp [eqX] at hc5; done)
                    | contradiction
                    | skip
                      refine Zj rfl rfl rfl ?_; refine Zj rfl rfl rfl ?_; refine Zj rfl rfl rfl ?_; refine Zj rfl rfl rfl ?_; refine Zj rfl rfl rfl ?_; refine Zj rfl rfl rfl ?_; refine Zj rfl rfl rfl ?_; refine Zj rfl rfl rfl ?_; refine Zj rfl rfl rfl ?_; refine Zj rfl rfl rfl ?_; refine Zj rfl rfl rfl ?_; refine Zj rfl rfl rfl ?_; refine Zj rfl rfl rfl ?_; refine Zj rfl rfl rfl ?_; refine Zj rfl rfl rfl ?_; refine Zj rfl rfl rfl ?_; refine Zj rfl rfl rfl ?_; refine Zx rfl rfl rfl rfl rfl ?_; refine Zg ?_; refine Ze ?_; refine Zcg rfl ?_; refine Zk ?_; refine Za (l := [0]) rfl ?_; refine Zc rfl rfl rfl rfl ?_; refine Zg ?_; refine Ze ?_; refine Zam ?_; refine Zar ?_; refine Zbe ?_; refine Zar ?_; refine Zar ?_; refine Zbe ?_; refine Zar ?_
                      refine Zal (.inr rfl) (.tmp rfl .nil) (fun w hw => ?_)
                      refine ⟨_, rfl, (hw.cnt (by intro zz; first | exact Nat.le_refl _ | (simp only [Zh, Zf, Zi, cat, List.append_eq, List.append_assoc, List.cons_append, List.nil_append, List.append_nil]; omega) | (simp only [Zh, Zf, Zi, cat, List.append_eq, List.append_assoc, List.cons_append, List.nil_append, List.append_nil, PeerV.segs]; omega))), ?_⟩
                      clear hw
                      refine congrArg Value.bool ?_
                      first | (have hd := Zbh (l := l_l) (k := k) (by omega); have hp := Zbt (l := l_l); grind [IsCircle, mem_map_take]) | (have hk9 : k = l_l.length := (by omega); subst hk9; grind [IsCircle, List.take_length]) | grind [IsCircle]
                  · first | replace hc5 := dT hc5 | replace hc5 := dF hc5 | replace hc5 := nT hc5 | replace hc5 := nF hc5 | skip
                    try simp only [PeerV.eta] at hc5
                    first
                    | (exfalso; omega)
                    | (exfalso; simp [eqX] at hc5; done)
                    | contradiction
                    | skip
                      refine Zd rfl rfl rfl rfl ?_; refine Zaq rfl rfl rfl rfl rfl rfl ?_; refine Zd rfl rfl rfl rfl ?_
                      refine Zbb 36 rfl (fun hc6 => ?_) (fun hc6 => ?_)
                      · first | replace hc6 := dT hc6 | replace hc6 := dF hc6 | replace hc6 := nT hc6 | replace hc6 := nF hc6 | skip
                        try simp only [PeerV.eta] at hc6
                        first
                        | (exfalso; omega)
                        | (exfalso; simp [eqX] at hc6; done)
                        | contradiction
                        | skip
                          refine Zd rfl rfl rfl rfl ?_; refine Zd rfl rfl rfl rfl ?_; refine Zav rfl rfl rfl rfl rfl (by first | exact Zaa (by decide) (by omega) | exact Zm (by decide) (by omega) | exact Zo (by decide) (by omega) | exact Zn (by decide) (by omega) | exact Zt _ | exact Zz _ | exact Zq _ | exact rfl) rfl ?_; refine Zab rfl rfl rfl rfl F.elem23 (by first | rfl | exact (Int.toNat_of_nonneg (by omega)).symm) (by first | omega | (simp; done) | (simp; omega)) (by first | exact ⟨_, _, rfl⟩ | assumption | exact SlM.plain (by assumption) (by first | (simp; done) | (simp; omega)) | exact RdS.plain (by assumption) (by first | (simp; done) | (simp; omega)) | exact OSl.plain (by assumption) (by first | (simp; done) | (simp; omega))) rfl ?_
                          first | refine Zak rfl rfl rfl F.foff39_1 rfl ?_ | refine Zac rfl rfl rfl (by first | exact ⟨_, _, rfl⟩ | assumption | exact SlM.plain (by assumption) (by first | (simp; done) | (simp; omega)) | exact RdS.plain (by assumption) (by first | (simp; done) | (simp; omega)) | exact OSl.plain (by assumption) (by first | (simp; done) | (simp; omega))) F.foff39_1 rfl ?_
                          first | refine Zan rfl rfl rfl (by repeat first | exact List.Mem.head _ | refine List.Mem.tail _ ?_ | refine List.mem_append_right _ ?_) F.lay34 rfl rfl rfl ?_ | refine Zv rfl rfl rfl (by first | assumption | exact SlM.mono (by assumption) (by assumption)) (by first | exact Zb (by omega) | exact List.getElem?_eq_getElem (by omega) | exact rfl | exact Zb (by first | (simp; done) | (simp; omega))) F.lay34 rfl rfl rfl ?_ | refine Zu rfl rfl rfl (by assumption) (by first | exact Zb (by omega) | exact List.getElem?_eq_getElem (by omega) | exact rfl | exact Zb (by first | (simp; done) | (simp; omega))) F.lay34 rfl rfl rfl ?_ | refine Zs rfl rfl rfl (by first | assumption | exact Mem.get_of (by assumption) (by repeat first | assumption | refine Mem.le.trans (by assumption) ?_)) F.lay34 rfl rfl rfl ?_ | refine Zp rfl rfl rfl (by assumption) (by repeat first | exact Rem.here _ | exact Rem.two | apply Rem.skip | apply Rem.over) (by first | exact Zb (by omega) | exact List.getElem?_eq_getElem (by omega) | exact rfl | exact Zb (by first | (simp; done) | (simp; omega))) F.lay34 rfl rfl rfl ?_
                          refine Zd rfl rfl rfl rfl ?_; refine Zd rfl rfl rfl rfl ?_; refine Zab rfl rfl rfl rfl F.elem23 (by first | rfl | exact (Int.toNat_of_nonneg (by omega)).symm) (by first | omega | (simp; done) | (simp; omega)) (by first | exact ⟨_, _, rfl⟩ | assumption | exact SlM.plain (by assumption) (by first | (simp; done) | (simp; omega)) | exact RdS.plain (by assumption) (by first | (simp; done) | (simp; omega)) | exact OSl.plain (by assumption) (by first | (simp; done) | (simp; omega))) rfl ?_
                          first | refine Zak rfl rfl rfl F.foff39_1 rfl ?_ | refine Zac rfl rfl rfl (by first | exact ⟨_, _, rfl⟩ | assumption | exact SlM.plain (by assumption) (by first | (simp; done) | (simp; omega)) | exact RdS.plain (by assumption) (by first | (simp; done) | (simp; omega)) | exact OSl.plain (by assumption) (by first | (simp; done) | (simp; omega))) F.foff39_1 rfl ?_
                          first | refine Zan rfl rfl rfl (by repeat first | exact List.Mem.head _ | refine List.Mem.tail _ ?_ | refine List.mem_append_right _ ?_) F.lay34 rfl rfl rfl ?_ | refine Zv rfl rfl rfl (by first | assumption | exact SlM.mono (by assumption) (by assumption)) (by first | exact Zb (by omega) | exact List.getElem?_eq_getElem (by omega) | exact rfl | exact Zb (by first | (simp; done) | (simp; omega))) F.lay34 rfl rfl rfl ?_ | refine Zu rfl rfl rfl (by assumption) (by first | exact Zb (by omega) | exact List.getElem?_eq_getElem (by omega) | exact rfl | exact Zb (by first | (simp; done) | (simp; omega))) F.lay34 rfl rfl rfl ?_ | refine Zs rfl rfl rfl (by first | assumption | exact Mem.get_of (by assumption) (by repeat first | assumption | refine Mem.le.trans (by assumption) ?_)) F.lay34 rfl rfl rfl ?_ | refine Zp rfl rfl rfl (by assumption) (by repeat first | exact Rem.here _ | exact Rem.two | apply Rem.skip | apply Rem.over) (by first | exact Zb (by omega) | exact List.getElem?_eq_getElem (by omega) | exact rfl | exact Zb (by first | (simp; done) | (simp; omega))) F.lay34 rfl rfl rfl ?_
                          refine X_fs rfl rfl F.ok17 rfl (rLess_ok _ _ _) rfl ?_
                          rintro _ rfl
                          refine X_not rfl rfl rfl rfl ?_; refine Zx rfl rfl rfl rfl rfl ?_; refine Zx rfl rfl rfl rfl rfl ?_; refine Zg ?_; refine Ze ?_
                          refine Zai rfl (fun hc7 => ?_) (fun hc7 => ?_)
                          · first | replace hc7 := dT hc7 | replace hc7 := dF hc7 | replace hc7 := nT hc7 | replace hc7 := nF hc7 | skip
                            try simp only [PeerV.eta] at hc7
                            first
                            | (exfalso; omega)
                            | (exfalso; simp [eqX] at hc7; done)
                            | contradiction
                            | skip
                              refine Zk ?_; refine Za (l := [0]) rfl ?_; refine Zc rfl rfl rfl rfl ?_; refine Zg ?_; refine Ze ?_; refine Zam ?_; refine Zar ?_; refine Zbe ?_; refine Zar ?_; refine Zar ?_; refine Zbe ?_; refine Zar ?_
                              refine Zal (.inr rfl) (.tmp rfl .nil) (fun w hw => ?_)
                              refine ⟨_, rfl, (hw.cnt (by intro zz; first | exact Nat.le_refl _ | (simp only [Zh, Zf, Zi, cat, List.append_eq, List.append_assoc, List.cons_append, List.nil_append, List.append_nil]; omega) | (simp only [Zh, Zf, Zi, cat, List.append_eq, List.append_assoc, List.cons_append, List.nil_append, List.append_nil, PeerV.segs]; omega))), ?_⟩
                              clear hw
                              refine congrArg Value.bool ?_
                              first | (have hd := Zbh (l := l_l) (k := k) (by omega); have hp := Zbt (l := l_l); grind [IsCircle, mem_map_take]) | (have hk9 : k = l_l.length := (by omega); subst hk9; grind [IsCircle, List.take_length]) | grind [IsCircle]
                          · first | replace hc7 := dT hc7 | replace hc7 := dF hc7 | replace hc7 := nT hc7 | replace hc7 := nF hc7 | skip
                            try simp only [PeerV.eta] at hc7
                            first
                            | (exfalso; omega)
                            | (exfalso; simp [eqX] at hc7; done)
                            | contradiction
                            | skip
                              refine Zah ?_; refine Ze ?_; refine Zk ?_; refine Za (l := [0]) rfl ?_; refine Zc rfl rfl rfl rfl ?_; refine Zg ?_; refine Ze ?_; refine Zad ?_; refine Zl (.cons (k := 4) rfl (.cons (k := 51) rfl (.cons (k := 50) rfl (.cons (k := 49) rfl (.cons (k := 48) rfl (.cons (k := 47) rfl (.cons (k := 46) rfl (.cons (k := 45) rfl (.cons (k := 44) rfl (.cons (k := 43) rfl (.cons (k := 42) rfl (.cons (k := 41) rfl (.cons (k := 40) rfl (.cons (k := 39) rfl (.cons (k := 38) rfl (.cons (k := 37) rfl (.cons (k := 36) rfl (.cons (k := 35) rfl (.cons (k := 34) rfl (.cons (k := 33) rfl (.cons (k := 32) rfl (.cons (k := 31) rfl (.cons (k := 30) rfl (.cons (k := 29) rfl (.cons (k := 28) rfl (.cons (k := 27) rfl (.cons (k := 26) rfl (.cons (k := 25) rfl (.cons (k := 24) rfl (.cons (k := 23) rfl (.cons (k := 22) rfl (.cons (k := 21) rfl (.cons (k := 20) rfl (.cons (k := 19) rfl (.cons (k := 16) rfl (.cons (k := 15) rfl (.cons (k := 14) rfl (.cons (k := 13) rfl (.cons (k := 3) rfl (.cons (k := 2) rfl (.cons (k := 0) rfl .nil))))))))))))))))))))))))))))))))))))))))) ?_
                              refine Zbz (.succ .zero) (fun (j : Nat) z => z = [(4, .int .i64 (j : Int))] ∧ j ≤ k ∧ l_l[k].addr ∉ (l_l.take j).map PeerV.addr) (fun j => k - j) (0) (⟨rfl, by omega, by simp⟩) ?_
                              rintro j _ ⟨rfl, hj, hJ⟩
                              refine Zk ?_; refine Zk ?_; refine Za (l := [0, 1, 2]) rfl ?_; refine Zd rfl rfl rfl rfl ?_; refine Zd rfl rfl rfl rfl ?_; refine Zaq rfl rfl rfl rfl rfl rfl ?_; refine Zg ?_; refine Ze ?_
                              refine Zai rfl (fun hc8 => ?_) (fun hc8 => ?_)
                              · first | replace hc8 := dT hc8 | replace hc8 := dF hc8 | replace hc8 := nT hc8 | replace hc8 := nF hc8 | skip
                                try simp only [PeerV.eta] at hc8
                                first
                                | (exfalso; omega)
                                | (exfalso; simp [eqX] at hc8; done)
                                | contradiction
                                | skip
                                  refine Zah ?_; refine Ze ?_; refine Zk ?_; refine Zad ?_; refine Zk ?_; refine Zaf (l := [0, 1, 2, 3, 4, 5, 6, 7, 8, 9, 10]) #[0, 0, 3, 7, 15, 0, 0, 96, 224, 480, 1023] _ rfl (by kernel_rfl) (by kernel_rfl) St.drawn (fun _ h => h) ?_; refine Zd rfl rfl rfl rfl ?_; refine Zd rfl rfl rfl rfl ?_; refine Zab rfl rfl rfl rfl F.elem23 (by first | rfl | exact (Int.toNat_of_nonneg (by omega)).symm) (by first | omega | (simp; done) | (simp; omega)) (by first | exact ⟨_, _, rfl⟩ | assumption | exact SlM.plain (by assumption) (by first | (simp; done) | (simp; omega)) | exact RdS.plain (by assumption) (by first | (simp; done) | (simp; omega)) | exact OSl.plain (by assumption) (by first | (simp; done) | (simp; omega))) rfl ?_
                                  first | refine Zak rfl rfl rfl F.foff39_0 rfl ?_ | refine Zac rfl rfl rfl (by first | exact ⟨_, _, rfl⟩ | assumption | exact SlM.plain (by assumption) (by first | (simp; done) | (simp; omega)) | exact RdS.plain (by assumption) (by first | (simp; done) | (simp; omega)) | exact OSl.plain (by assumption) (by first | (simp; done) | (simp; omega))) F.foff39_0 rfl ?_
                                  first | refine Zan rfl rfl rfl (by repeat first | exact List.Mem.head _ | refine List.Mem.tail _ ?_ | refine List.mem_append_right _ ?_) F.lay3 rfl rfl rfl ?_ | refine Zv rfl rfl rfl (by first | assumption | exact SlM.mono (by assumption) (by assumption)) (by first | exact Zb (by omega) | exact List.getElem?_eq_getElem (by omega) | exact rfl | exact Zb (by first | (simp; done) | (simp; omega))) F.lay3 rfl rfl rfl ?_ | refine Zu rfl rfl rfl (by assumption) (by first | exact Zb (by omega) | exact List.getElem?_eq_getElem (by omega) | exact rfl | exact Zb (by first | (simp; done) | (simp; omega))) F.lay3 rfl rfl rfl ?_ | refine Zs rfl rfl rfl (by first | assumption | exact Mem.get_of (by assumption) (by repeat first | assumption | refine Mem.le.trans (by assumption) ?_)) F.lay3 rfl rfl rfl ?_ | refine Zp rfl rfl rfl (by assumption) (by repeat first | exact Rem.here _ | exact Rem.two | apply Rem.skip | apply Rem.over) (by first | exact Zb (by omega) | exact List.getElem?_eq_getElem (by omega) | exact rfl | exact Zb (by first | (simp; done) | (simp; omega))) F.lay3 rfl rfl rfl ?_ | refine Zr rfl rfl rfl (by repeat first | exact List.Mem.head _ | refine List.Mem.tail _ ?_ | refine List.mem_append_right _ ?_) F.lay3 (by first | exact Zbw (by first | omega | decide) | exact Zbk (by first | omega | decide)) rfl ?_
                                  refine Zd rfl rfl rfl rfl ?_; refine Zd rfl rfl rfl rfl ?_; refine Zab rfl rfl rfl rfl F.elem23 (by first | rfl | exact (Int.toNat_of_nonneg (by omega)).symm) (by first | omega | (simp; done) | (simp; omega)) (by first | exact ⟨_, _, rfl⟩ | assumption | exact SlM.plain (by assumption) (by first | (simp; done) | (simp; omega)) | exact RdS.plain (by assumption) (by first | (simp; done) | (simp; omega)) | exact OSl.plain (by assumption) (by first | (simp; done) | (simp; omega))) rfl ?_
                                  first | refine Zak rfl rfl rfl F.foff39_0 rfl ?_ | refine Zac rfl rfl rfl (by first | exact ⟨_, _, rfl⟩ | assumption | exact SlM.plain (by assumption) (by first | (simp; done) | (simp; omega)) | exact RdS.plain (by assumption) (by first | (simp; done) | (simp; omega)) | exact OSl.plain (by assumption) (by first | (simp; done) | (simp; omega))) F.foff39_0 rfl ?_
                                  first | refine Zan rfl rfl rfl (by repeat first | exact List.Mem.head _ | refine List.Mem.tail _ ?_ | refine List.mem_append_right _ ?_) F.lay3 rfl rfl rfl ?_ | refine Zv rfl rfl rfl (by first | assumption | exact SlM.mono (by assumption) (by assumption)) (by first | exact Zb (by omega) | exact List.getElem?_eq_getElem (by omega) | exact rfl | exact Zb (by first | (simp; done) | (simp; omega))) F.lay3 rfl rfl rfl ?_ | refine Zu rfl rfl rfl (by assumption) (by first | exact Zb (by omega) | exact List.getElem?_eq_getElem (by omega) | exact rfl | exact Zb (by first | (simp; done) | (simp; omega))) F.lay3 rfl rfl rfl ?_ | refine Zs rfl rfl rfl (by first | assumption | exact Mem.get_of (by assumption) (by repeat first | assumption | refine Mem.le.trans (by assumption) ?_)) F.lay3 rfl rfl rfl ?_ | refine Zp rfl rfl rfl (by assumption) (by repeat first | exact Rem.here _ | exact Rem.two | apply Rem.skip | apply Rem.over) (by first | exact Zb (by omega) | exact List.getElem?_eq_getElem (by omega) | exact rfl | exact Zb (by first | (simp; done) | (simp; omega))) F.lay3 rfl rfl rfl ?_ | refine Zr rfl rfl rfl (by repeat first | exact List.Mem.head _ | refine List.Mem.tail _ ?_ | refine List.mem_append_right _ ?_) F.lay3 (by first | exact Zbw (by first | omega | decide) | exact Zbk (by first | omega | decide)) rfl ?_
                                  refine Zaq rfl rfl rfl rfl rfl rfl ?_; refine Zg ?_; refine Ze ?_
                                  refine Zai rfl (fun hc9 => ?_) (fun hc9 => ?_)
                                  · first | replace hc9 := dT hc9 | replace hc9 := dF hc9 | replace hc9 := nT hc9 | replace hc9 := nF hc9 | skip
                                    try simp only [PeerV.eta] at hc9
                                    first
                                    | (exfalso; omega)
                                    | (exfalso; simp [eqX] at hc9; done)
                                    | contradiction
                                    | skip
                                      refine Zk ?_; refine Za (l := [0]) rfl ?_; refine Zc rfl rfl rfl rfl ?_; refine Zg ?_; refine Ze ?_; refine Zam ?_; refine Zbe ?_; refine Zar ?_; refine Zar ?_; refine Zbe ?_; refine Zbe ?_; refine Zar ?_; refine Zar ?_; refine Zbe ?_; refine Zar ?_
                                      refine Zal (.inr rfl) (.tmp rfl .nil) (fun w hw => ?_)
                                      refine ⟨_, rfl, (hw.cnt (by intro zz; first | exact Nat.le_refl _ | (simp only [Zh, Zf, Zi, cat, List.append_eq, List.append_assoc, List.cons_append, List.nil_append, List.append_nil]; omega) | (simp only [Zh, Zf, Zi, cat, List.append_eq, List.append_assoc, List.cons_append, List.nil_append, List.append_nil, PeerV.segs]; omega))), ?_⟩
                                      clear hw
                                      refine congrArg Value.bool ?_
                                      first | (have hd := Zbh (l := l_l) (k := k) (by omega); have hp := Zbt (l := l_l); grind [IsCircle, mem_map_take]) | (have hk9 : k = l_l.length := (by omega); subst hk9; grind [IsCircle, List.take_length]) | grind [IsCircle]
                                  · first | replace hc9 := dT hc9 | replace hc9 := dF hc9 | replace hc9 := nT hc9 | replace hc9 := nF hc9 | skip
                                    try simp only [PeerV.eta] at hc9
                                    first
                                    | (exfalso; omega)
                                    | (exfalso; simp [eqX] at hc9; done)
                                    | contradiction
                                    | skip
                                      refine Zah ?_; refine Zbs ?_; refine Ze ?_; refine Za (l := [0, 1, 2]) rfl ?_; refine Zd rfl rfl rfl rfl ?_; refine Zav rfl rfl rfl rfl rfl (by first | exact Zaa (by decide) (by omega) | exact Zm (by decide) (by omega) | exact Zo (by decide) (by omega) | exact Zn (by decide) (by omega) | exact Zt _ | exact Zz _ | exact Zq _ | exact rfl) rfl ?_; refine Zc rfl rfl rfl rfl ?_; refine Zg ?_; refine Zbp (a' := [(4, _)]) (j + 1) (.cons (k := 4) rfl (.cons (k := 51) rfl (.cons (k := 50) rfl (.cons (k := 49) rfl (.cons (k := 48) rfl (.cons (k := 47) rfl (.cons (k := 46) rfl (.cons (k := 45) rfl (.cons (k := 44) rfl (.cons (k := 43) rfl (.cons (k := 42) rfl (.cons (k := 41) rfl (.cons (k := 40) rfl (.cons (k := 39) rfl (.cons (k := 38) rfl (.cons (k := 37) rfl (.cons (k := 36) rfl (.cons (k := 35) rfl (.cons (k := 34) rfl (.cons (k := 33) rfl (.cons (k := 32) rfl (.cons (k := 31) rfl (.cons (k := 30) rfl (.cons (k := 29) rfl (.cons (k := 28) rfl (.cons (k := 27) rfl (.cons (k := 26) rfl (.cons (k := 25) rfl (.cons (k := 24) rfl (.cons (k := 23) rfl (.cons (k := 22) rfl (.cons (k := 21) rfl (.cons (k := 20) rfl (.cons (k := 19) rfl (.cons (k := 16) rfl (.cons (k := 15) rfl (.cons (k := 14) rfl (.cons (k := 13) rfl (.cons (k := 3) rfl (.cons (k := 2) rfl (.cons (k := 0) rfl (.nil)))))))))))))))))))))))))))))))))))))))))) (fun w hw => by first | exact hw | exact hw.cnt (by intro zz; first | exact Nat.le_refl _ | (simp only [Zh, Zf, Zi, cat, List.append_eq, List.append_assoc, List.cons_append, List.nil_append, List.append_nil]; omega) | (simp only [Zh, Zf, Zi, cat, List.append_eq, List.append_assoc, List.cons_append, List.nil_append, List.append_nil, PeerV.segs]; omega))) ?_ ?_
                                      · refine ⟨rfl, by omega, ?_⟩
                                        exact not_mem_step (by omega) hJ (by assumption)
                                      · omega
                              · first | replace hc8 := dT hc8 | replace hc8 := dF hc8 | replace hc8 := nT hc8 | replace hc8 := nF hc8 | skip
                                try simp only [PeerV.eta] at hc8
                                first
                                | (exfalso; omega)
                                | (exfalso; simp [eqX] at hc8; done)
                                | contradiction
                                | skip
                                  refine Zbl ?_; refine Zao ?_; refine Zao ?_; refine Zbx ?_; refine Zbs ?_; refine Ze ?_; refine Za (l := [0, 1, 2]) rfl ?_; refine Zd rfl rfl rfl rfl ?_; refine Zav rfl rfl rfl rfl rfl (by first | exact Zaa (by decide) (by omega) | exact Zm (by decide) (by omega) | exact Zo (by decide) (by omega) | exact Zn (by decide) (by omega) | exact Zt _ | exact Zz _ | exact Zq _ | exact rfl) rfl ?_; refine Zc rfl rfl rfl rfl ?_; refine Zg ?_; refine Zbp (a' := [(3, _)]) (k + 1) (.cons (k := 3) rfl (.cons (k := 2) rfl (.cons (k := 0) rfl (.nil)))) (fun w hw => by first | exact hw | exact hw.cnt (by intro zz; first | exact Nat.le_refl _ | (simp only [Zh, Zf, Zi, cat, List.append_eq, List.append_assoc, List.cons_append, List.nil_append, List.append_nil]; omega) | (simp only [Zh, Zf, Zi, cat, List.append_eq, List.append_assoc, List.cons_append, List.nil_append, List.append_nil, PeerV.segs]; omega))) ?_ ?_
                                  · refine ⟨rfl, by omega, ?_⟩
                                    have hd := Zbh (l := l_l) (k := k) (by omega); have hj9 : j = k := (by omega); subst hj9; grind
                                  · omega
                      · first | replace hc6 := dT hc6 | replace hc6 := dF hc6 | replace hc6 := nT hc6 | replace hc6 := nF hc6 | skip
                        try simp only [PeerV.eta] at hc6
                        first
                        | (exfalso; omega)
                        | (exfalso; simp [eqX] at hc6; done)
                        | contradiction
                        | skip
                          refine Zj rfl rfl rfl ?_; refine Zj rfl rfl rfl ?_; refine Zj rfl rfl rfl ?_; refine Zj rfl rfl rfl ?_; refine Zj rfl rfl rfl ?_; refine Zj rfl rfl rfl ?_; refine Zj rfl rfl rfl ?_; refine Zj rfl rfl rfl ?_; refine Zj rfl rfl rfl ?_; refine Zj rfl rfl rfl ?_; refine Zj rfl rfl rfl ?_; refine Zj rfl rfl rfl ?_; refine Zj rfl rfl rfl ?_; refine Zx rfl rfl rfl rfl rfl ?_; refine Zx rfl rfl rfl rfl rfl ?_; refine Zg ?_; refine Ze ?_; refine C_false rfl ?_; refine Zah ?_; refine Ze ?_; refine Zk ?_; refine Za (l := [0]) rfl ?_; refine Zc rfl rfl rfl rfl ?_; refine Zg ?_; refine Ze ?_; refine Zad ?_; refine Zl (.cons (k := 4) rfl (.cons (k := 51) rfl (.cons (k := 50) rfl (.cons (k := 49) rfl (.cons (k := 48) rfl (.cons (k := 47) rfl (.cons (k := 46) rfl (.cons (k := 45) rfl (.cons (k := 44) rfl (.cons (k := 43) rfl (.cons (k := 42) rfl (.cons (k := 41) rfl (.cons (k := 40) rfl (.cons (k := 39) rfl (.cons (k := 38) rfl (.cons (k := 37) rfl (.cons (k := 36) rfl (.cons (k := 35) rfl (.cons (k := 34) rfl (.cons (k := 33) rfl (.cons (k := 32) rfl (.cons (k := 31) rfl (.cons (k := 30) rfl (.cons (k := 29) rfl (.cons (k := 28) rfl (.cons (k := 27) rfl (.cons (k := 26) rfl (.cons (k := 25) rfl (.cons (k := 24) rfl (.cons (k := 23) rfl (.cons (k := 22) rfl (.cons (k := 21) rfl (.cons (k := 20) rfl (.cons (k := 19) rfl (.cons (k := 16) rfl (.cons (k := 15) rfl (.cons (k := 14) rfl (.cons (k := 13) rfl (.cons (k := 3) rfl (.cons (k := 2) rfl (.cons (k := 0) rfl .nil))))))))))))))))))))))))))))))))))))))))) ?_
                          refine Zbz (.succ .zero) (fun (j : Nat) z => z = [(4, .int .i64 (j : Int))] ∧ j ≤ k ∧ l_l[k].addr ∉ (l_l.take j).map PeerV.addr) (fun j => k - j) (0) (⟨rfl, by omega, by simp⟩) ?_
                          rintro j _ ⟨rfl, hj, hJ⟩
                          refine Zk ?_; refine Zk ?_; refine Za (l := [0, 1, 2]) rfl ?_; refine Zd rfl rfl rfl rfl ?_; refine Zd rfl rfl rfl rfl ?_; refine Zaq rfl rfl rfl rfl rfl rfl ?_; refine Zg ?_; refine Ze ?_
                          refine Zai rfl (fun hc10 => ?_) (fun hc10 => ?_)
                          · first | replace hc10 := dT hc10 | replace hc10 := dF hc10 | replace hc10 := nT hc10 | replace hc10 := nF hc10 | skip
                            try simp only [PeerV.eta] at hc10
                            first
                            | (exfalso; omega)
                            | (exfalso; simp [eqX] at hc10; done)
                            | contradiction
                            | skip
                              refine Zah ?_; refine Ze ?_; refine Zk ?_; refine Zad ?_; refine Zk ?_; refine Zaf (l := [0, 1, 2, 3, 4, 5, 6, 7, 8, 9, 10]) #[0, 0, 3, 7, 15, 0, 0, 96, 224, 480, 1023] _ rfl (by kernel_rfl) (by kernel_rfl) St.drawn (fun _ h => h) ?_; refine Zd rfl rfl rfl rfl ?_; refine Zd rfl rfl rfl rfl ?_; refine Zab rfl rfl rfl rfl F.elem23 (by first | rfl | exact (Int.toNat_of_nonneg (by omega)).symm) (by first | omega | (simp; done) | (simp; omega)) (by first | exact ⟨_, _, rfl⟩ | assumption | exact SlM.plain (by assumption) (by first | (simp; done) | (simp; omega)) | exact RdS.plain (by assumption) (by first | (simp; done) | (simp; omega)) | exact OSl.plain (by assumption) (by first | (simp; done) | (simp; omega))) rfl ?_
                              first | refine Zak rfl rfl rfl F.foff39_0 rfl ?_ | refine Zac rfl rfl rfl (by first | exact ⟨_, _, rfl⟩ | assumption | exact SlM.plain (by assumption) (by first | (simp; done) | (simp; omega)) | exact RdS.plain (by assumption) (by first | (simp; done) | (simp; omega)) | exact OSl.plain (by assumption) (by first | (simp; done) | (simp; omega))) F.foff39_0 rfl ?_
                              first | refine Zan rfl rfl rfl (by repeat first | exact List.Mem.head _ | refine List.Mem.tail _ ?_ | refine List.mem_append_right _ ?_) F.lay3 rfl rfl rfl ?_ | refine Zv rfl rfl rfl (by first | assumption | exact SlM.mono (by assumption) (by assumption)) (by first | exact Zb (by omega) | exact List.getElem?_eq_getElem (by omega) | exact rfl | exact Zb (by first | (simp; done) | (simp; omega))) F.lay3 rfl rfl rfl ?_ | refine Zu rfl rfl rfl (by assumption) (by first | exact Zb (by omega) | exact List.getElem?_eq_getElem (by omega) | exact rfl | exact Zb (by first | (simp; done) | (simp; omega))) F.lay3 rfl rfl rfl ?_ | refine Zs rfl rfl rfl (by first | assumption | exact Mem.get_of (by assumption) (by repeat first | assumption | refine Mem.le.trans (by assumption) ?_)) F.lay3 rfl rfl rfl ?_ | refine Zp rfl rfl rfl (by assumption) (by repeat first | exact Rem.here _ | exact Rem.two | apply Rem.skip | apply Rem.over) (by first | exact Zb (by omega) | exact List.getElem?_eq_getElem (by omega) | exact rfl | exact Zb (by first | (simp; done) | (simp; omega))) F.lay3 rfl rfl rfl ?_ | refine Zr rfl rfl rfl (by repeat first | exact List.Mem.head _ | refine List.Mem.tail _ ?_ | refine List.mem_append_right _ ?_) F.lay3 (by first | exact Zbw (by first | omega | decide) | exact Zbk (by first | omega | decide)) rfl ?_
                              refine Zd rfl rfl rfl rfl ?_; refine Zd rfl rfl rfl rfl ?_; refine Zab rfl rfl rfl rfl F.elem23 (by first | rfl | exact (Int.toNat_of_nonneg (by omega)).symm) (by first | omega | (simp; done) | (simp; omega)) (by first | exact ⟨_, _, rfl⟩ | assumption | exact SlM.plain (by assumption) (by first | (simp; done) | (simp; omega)) | exact RdS.plain (by assumption) (by first | (simp; done) | (simp; omega)) | exact OSl.plain (by assumption) (by first | (simp; done) | (simp; omega))) rfl ?_
                              first | refine Zak rfl rfl rfl F.foff39_0 rfl ?_ | refine Zac rfl rfl rfl (by first | exact ⟨_, _, rfl⟩ | assumption | exact SlM.plain (by assumption) (by first | (simp; done) | (simp; omega)) | exact RdS.plain (by assumption) (by first | (simp; done) | (simp; omega)) | exact OSl.plain (by assumption) (by first | (simp; done) | (simp; omega))) F.foff39_0 rfl ?_
                              first | refine Zan rfl rfl rfl (by repeat first | exact List.Mem.head _ | refine List.Mem.tail _ ?_ | refine List.mem_append_right _ ?_) F.lay3 rfl rfl rfl ?_ | refine Zv rfl rfl rfl (by first | assumption | exact SlM.mono (by assumption) (by assumption)) (by first | exact Zb (by omega) | exact List.getElem?_eq_getElem (by omega) | exact rfl | exact Zb (by first | (simp; done) | (simp; omega))) F.lay3 rfl rfl rfl ?_ | refine Zu rfl rfl rfl (by assumption) (by first | exact Zb (by omega) | exact List.getElem?_eq_getElem (by omega) | exact rfl | exact Zb (by first | (simp; done) | (simp; omega))) F.lay3 rfl rfl rfl ?_ | refine Zs rfl rfl rfl (by first | assumption | exact Mem.get_of (by assumption) (by repeat first | assumption | refine Mem.le.trans (by assumption) ?_)) F.lay3 rfl rfl rfl ?_ | refine Zp rfl rfl rfl (by assumption) (by repeat first | exact Rem.here _ | exact Rem.two | apply Rem.skip | apply Rem.over) (by first | exact Zb (by omega) | exact List.getElem?_eq_getElem (by omega) | exact rfl | exact Zb (by first | (simp; done) | (simp; omega))) F.lay3 rfl rfl rfl ?_ | refine Zr rfl rfl rfl (by repeat first | exact List.Mem.head _ | refine List.Mem.tail _ ?_ | refine List.mem_append_right _ ?_) F.lay3 (by first | exact Zbw (by first | omega | decide) | exact Zbk (by first | omega | decide)) rfl ?_
                              refine Zaq rfl rfl rfl rfl rfl rfl ?_; refine Zg ?_; refine Ze ?_
                              refine Zai rfl (fun hc11 => ?_) (fun hc11 => ?_)
                              · first | replace hc11 := dT hc11 | replace hc11 := dF hc11 | replace hc11 := nT hc11 | replace hc11 := nF hc11 | skip
                                try simp only [PeerV.eta] at hc11
                                first
                                | (exfalso; omega)
                                | (exfalso; simp [eqX] at hc11; done)
                                | contradiction
                                | skip
                                  refine Zk ?_; refine Za (l := [0]) rfl ?_; refine Zc rfl rfl rfl rfl ?_; refine Zg ?_; refine Ze ?_; refine Zam ?_; refine Zbe ?_; refine Zar ?_; refine Zar ?_; refine Zbe ?_; refine Zbe ?_; refine Zar ?_; refine Zar ?_; refine Zbe ?_; refine Zar ?_
                                  refine Zal (.inr rfl) (.tmp rfl .nil) (fun w hw => ?_)
                                  refine ⟨_, rfl, (hw.cnt (by intro zz; first | exact Nat.le_refl _ | (simp only [Zh, Zf, Zi, cat, List.append_eq, List.append_assoc, List.cons_append, List.nil_append, List.append_nil]; omega) | (simp only [Zh, Zf, Zi, cat, List.append_eq, List.append_assoc, List.cons_append, List.nil_append, List.append_nil, PeerV.segs]; omega))), ?_⟩
                                  clear hw
                                  refine congrArg Value.bool ?_
                                  first | (have hd := Zbh (l := l_l) (k := k) (by omega); have hp := Zbt (l := l_l); grind [IsCircle, mem_map_take]) | (have hk9 : k = l_l.length := (by omega); subst hk9; grind [IsCircle, List.take_length]) | grind [IsCircle]
                              · first | replace hc11 := dT hc11 | replace hc11 := dF hc11 | replace hc11 := nT hc11 | replace hc11 := nF hc11 | skip
                                try simp only [PeerV.eta] at hc11
                                first
                                | (exfalso; omega)
                                | (exfalso; simp [eqX] at hc11; done)
                                | contradiction
                                | skip
                                  refine Zah ?_; refine Zbs ?_; refine Ze ?_; refine Za (l := [0, 1, 2]) rfl ?_; refine Zd rfl rfl rfl rfl ?_; refine Zav rfl rfl rfl rfl rfl (by first | exact Zaa (by decide) (by omega) | exact Zm (by decide) (by omega) | exact Zo (by decide) (by omega) | exact Zn (by decide) (by omega) | exact Zt _ | exact Zz _ | exact Zq _ | exact rfl) rfl ?_; refine Zc rfl rfl rfl rfl ?_; refine Zg ?_; refine Zbp (a' := [(4, _)]) (j + 1) (.cons (k := 4) rfl (.cons (k := 51) rfl (.cons (k := 50) rfl (.cons (k := 49) rfl (.cons (k := 48) rfl (.cons (k := 47) rfl (.cons (k := 46) rfl (.cons (k := 45) rfl (.cons (k := 44) rfl (.cons (k := 43) rfl (.cons (k := 42) rfl (.cons (k := 41) rfl (.cons (k := 40) rfl (.cons (k := 39) rfl (.cons (k := 38) rfl (.cons (k := 37) rfl (.cons (k := 36) rfl (.cons (k := 35) rfl (.cons (k := 34) rfl (.cons (k := 33) rfl (.cons (k := 32) rfl (.cons (k := 31) rfl (.cons (k := 30) rfl (.cons (k := 29) rfl (.cons (k := 28) rfl (.cons (k := 27) rfl (.cons (k := 26) rfl (.cons (k := 25) rfl (.cons (k := 24) rfl (.cons (k := 23) rfl (.cons (k := 22) rfl (.cons (k := 21) rfl (.cons (k := 20) rfl (.cons (k := 19) rfl (.cons (k := 16) rfl (.cons (k := 15) rfl (.cons (k := 14) rfl (.cons (k := 13) rfl (.cons (k := 3) rfl (.cons (k := 2) rfl (.cons (k := 0) rfl (.nil)))))))))))))))))))))))))))))))))))))))))) (fun w hw => by first | exact hw | exact hw.cnt (by intro zz; first | exact Nat.le_refl _ | (simp only [Zh, Zf, Zi, cat, List.append_eq, List.append_assoc, List.cons_append, List.nil_append, List.append_nil]; omega) | (simp only [Zh, Zf, Zi, cat, List.append_eq, List.append_assoc, List.cons_append, List.nil_append, List.append_nil, PeerV.segs]; omega))) ?_ ?_
                                  · refine ⟨rfl, by omega, ?_⟩
                                    exact not_mem_step (by omega) hJ (by assumption)
                                  · omega
                          · first | replace hc10 := dT hc10 | replace hc10 := dF hc10 | replace hc10 := nT hc10 | replace hc10 := nF hc10 | skip
                            try simp only [PeerV.eta] at hc10
                            first
                            | (exfalso; omega)
                            | (exfalso; simp [eqX] at hc10; done)
                            | contradiction
                            | skip
                              refine Zbl ?_; refine Zao ?_; refine Zao ?_; refine Zbx ?_; refine Zbs ?_; refine Ze ?_; refine Za (l := [0, 1, 2]) rfl ?_; refine Zd rfl rfl rfl rfl ?_; refine Zav rfl rfl rfl rfl rfl (by first | exact Zaa (by decide) (by omega) | exact Zm (by decide) (by omega) | exact Zo (by decide) (by omega) | exact Zn (by decide) (by omega) | exact Zt _ | exact Zz _ | exact Zq _ | exact rfl) rfl ?_; refine Zc rfl rfl rfl rfl ?_; refine Zg ?_; refine Zbp (a' := [(3, _)]) (k + 1) (.cons (k := 3) rfl (.cons (k := 2) rfl (.cons (k := 0) rfl (.nil)))) (fun w hw => by first | exact hw | exact hw.cnt (by intro zz; first | exact Nat.le_refl _ | (simp only [Zh, Zf, Zi, cat, List.append_eq, List.append_assoc, List.cons_append, List.nil_append, List.append_nil]; omega) | (simp only [Zh, Zf, Zi, cat, List.append_eq, List.append_assoc, List.cons_append, List.nil_append, List.append_nil, PeerV.segs]; omega))) ?_ ?_
                              · refine ⟨rfl, by omega, ?_⟩
                                have hd := Zbh (l := l_l) (k := k) (by omega); have hj9 : j = k := (by omega); subst hj9; grind
                              · omega
          · first | replace hc3 := dT hc3 | replace hc3 := dF hc3 | replace hc3 := nT hc3 | replace hc3 := nF hc3 | skip
            try simp only [PeerV.eta] at hc3
            first
            | (exfalso; omega)
            | (exfalso; simp [eqX] at hc3; done)
            | contradiction
            | skip
              refine Zbl ?_; refine Zao ?_; refine Zao ?_; refine Zbx ?_; refine Ze ?_; refine Zl (.cons (k := 2) rfl .nil) ?_; refine Zk ?_; refine Za (l := [0]) rfl ?_; refine Zc rfl rfl rfl rfl ?_; refine Zg ?_; refine Ze ?_; refine Zam ?_
              refine Zal (.inr rfl) (.tmp rfl .nil) (fun w hw => ?_)
              refine ⟨_, rfl, (hw.cnt (by intro zz; first | exact Nat.le_refl _ | (simp only [Zh, Zf, Zi, cat, List.append_eq, List.append_assoc, List.cons_append, List.nil_append, List.append_nil]; omega) | (simp only [Zh, Zf, Zi, cat, List.append_eq, List.append_assoc, List.cons_append, List.nil_append, List.append_nil, PeerV.segs]; omega))), ?_⟩
              clear hw
              refine congrArg Value.bool ?_
              first | (have hd := Zbh (l := l_l) (k := k) (by omega); have hp := Zbt (l := l_l); grind [IsCircle, mem_map_take]) | (have hk9 : k = l_l.length := (by omega); subst hk9; grind [IsCircle, List.take_length]) | grind [IsCircle]
theorem Search_ok (M : Mem) (Hin : Hp) (g : FuncId) (caps : List Value) (p : Nat → Bool) (n : Nat) (hn : n ≤ 1000000000) (hok : okFn Tryd.prog g = true) (hc : ∀ i, i < n → Fo Tryd.prog g ([.int .i64 (i : Int)] ++ caps) M Hin (fun M' v => M' = M ∧ v = .bool (p i))) (hmono : ∀ i j, i ≤ j → j < n → p i = true → p j = true) : Fo Tryd.prog 57 [.int .i64 (n : Int), .func (.func g) #[] caps.toArray] M Hin (fun M' v => M' = M ∧ v = .int .i64 (firstP p n : Nat)) := by
  refine fo_enter Tryd.func57 rfl Tryd.ntmps57 rfl ?_; intro H
  refine Zk ?_; refine Za (l := [0]) rfl ?_; refine Zc rfl rfl rfl rfl ?_; refine Zg ?_; refine Ze ?_; refine Zk ?_; refine Za (l := [0, 1, 2]) rfl ?_; refine Zd rfl rfl rfl rfl ?_; refine Zc rfl rfl rfl rfl ?_; refine Zc rfl rfl rfl rfl ?_; refine Zg ?_; refine Ze ?_; refine Zl (.cons (k := 6) rfl (.cons (k := 5) rfl (.cons (k := 4) rfl (.cons (k := 1) rfl .nil)))) ?_; refine Zk ?_; refine Zad ?_; refine Zl (.cons (k := 5) rfl (.cons (k := 6) rfl (.cons (k := 4) rfl (.cons (k := 1) rfl .nil)))) ?_; refine Zbz (.succ (.succ .zero)) (fun (x : Nat × Nat) z => z = [(5, .int .i64 (x.1 : Int)), (6, .int .i64 (x.2 : Int))] ∧ x.1 ≤ x.2 ∧ x.2 ≤ n ∧ (∀ y, y < x.1 → p y = false) ∧ (x.2 < n → p x.2 = true)) (fun x => x.2 - x.1) ((0, n)) (⟨rfl, Nat.zero_le _, Nat.le_refl _, fun y h => (by cases h), fun h => (by omega)⟩) ?_
  rintro ⟨a, b⟩ z ⟨hz, h1, h2, h3, h4⟩
  simp only at hz h1 h2 h3 h4
  subst hz
  refine Zk ?_; refine Zk ?_; refine Za (l := [0, 1, 2]) rfl ?_; refine Zd rfl rfl rfl rfl ?_; refine Zd rfl rfl rfl rfl ?_; refine Zaq rfl rfl rfl rfl rfl rfl ?_; refine Zg ?_; refine Ze ?_
  refine Zai rfl (fun hc1 => ?_) (fun hc1 => ?_)
  · try simp only [Bool.not_eq_true', Bool.not_eq_false'] at hc1
    first | replace hc1 := dT hc1 | replace hc1 := dF hc1 | have hP := hc1
    first
    | (exfalso; omega)
    | (exfalso; simp [eqX] at hc1; done)
    | contradiction
    | skip
      refine Zah ?_; refine Ze ?_; refine Zad ?_; refine Zk ?_; refine Za (l := [0, 1, 2, 3, 4, 5, 6]) rfl ?_; refine Zd rfl rfl rfl rfl ?_; refine Zd rfl rfl rfl rfl ?_; refine Zav rfl rfl rfl rfl rfl (by first | exact Zaa (by decide) (by omega) | exact Zm (by decide) (by omega) | exact Zo (by decide) (by omega) | exact Zn (by decide) (by omega) | exact Zt _ | exact Zz _ | exact Zq _ | exact rfl) rfl ?_; refine Zci rfl rfl rfl Tryd.underlying3 Tryd.underlying63 (by first | exact Zaa (by decide) (by omega) | exact Zm (by decide) (by omega) | exact Zo (by decide) (by omega) | exact Zn (by decide) (by omega) | exact Zt _ | exact Zz _ | exact Zq _ | exact rfl) rfl ?_; refine X_shift rfl rfl rfl rfl (by decide) (shr_lit 1 (by decide)) rfl rfl ?_; refine Zci rfl rfl rfl Tryd.underlying63 Tryd.underlying3 (by first | exact Zaa (by decide) (by omega) | exact Zm (by decide) (by omega) | exact Zo (by decide) (by omega) | exact Zn (by decide) (by omega) | exact Zt _ | exact Zz _ | exact Zq _ | exact rfl) rfl ?_
      have e9 : ((a : Int) + (b : Int)) / 2 ^ 1 = (((a + b) / 2 : Nat) : Int) := by omega
      rw [e9]
      refine Zc rfl rfl rfl rfl ?_; refine Zg ?_; refine Ze ?_; refine Zk ?_; refine Za (l := [0, 1, 2, 3]) rfl ?_; refine Zd rfl rfl rfl rfl ?_; refine Zd rfl rfl rfl rfl ?_
      have hab : a < b := by omega
      refine X_foV rfl rfl rfl hok rfl rfl (hc ((a + b) / 2) (by omega)) (by repeat first | exact Rem.here _ | exact Rem.two | apply Rem.skip | apply Rem.over) (putE_some rfl) ?_
      rintro _ M1 _ ⟨hM1, rfl⟩; subst M1
      refine X_not rfl rfl rfl rfl ?_; refine Zg ?_; refine Ze ?_
      refine Zai rfl (fun hc2 => ?_) (fun hc2 => ?_)
      · try simp only [Bool.not_eq_true', Bool.not_eq_false'] at hc2
        first | replace hc2 := dT hc2 | replace hc2 := dF hc2 | have hP := hc2
        first
        | (exfalso; omega)
        | (exfalso; simp [eqX] at hc2; done)
        | contradiction
        | skip
          refine Za (l := [0, 1, 2]) rfl ?_; refine Zd rfl rfl rfl rfl ?_; refine Zav rfl rfl rfl rfl rfl (by first | exact Zaa (by decide) (by omega) | exact Zm (by decide) (by omega) | exact Zo (by decide) (by omega) | exact Zn (by decide) (by omega) | exact Zt _ | exact Zz _ | exact Zq _ | exact rfl) rfl ?_; refine Zc rfl rfl rfl rfl ?_; refine Zg ?_; refine Zbs ?_; refine Zbp (a' := [(5, _), (6, _)]) (((a + b) / 2 + 1, b)) (.cons (k := 5) rfl (.cons (k := 6) rfl (.cons (k := 4) rfl (.cons (k := 1) rfl (.nil))))) (fun w hw => by first | exact hw | exact hw.cnt (by intro zz; first | exact Nat.le_refl _ | (simp only [Zh, Zf, Zi, cat, List.append_eq, List.append_assoc, List.cons_append, List.nil_append, List.append_nil]; omega) | (simp only [Zh, Zf, Zi, cat, List.append_eq, List.append_assoc, List.cons_append, List.nil_append, List.append_nil, PeerV.segs]; omega))) ?_ ?_
          · refine ⟨rfl, (by show (a + b) / 2 + 1 ≤ b; omega), h2, fun y hy => ?_, h4⟩
            have hy2 : y < (a + b) / 2 + 1 := hy
            cases hpy : p y with
            | false => rfl
            | true => have := hmono y ((a + b) / 2) (by omega) (by omega) hpy; simp_all
          · show b - ((a + b) / 2 + 1) < b - a; omega
      · try simp only [Bool.not_eq_true', Bool.not_eq_false'] at hc2
        first | replace hc2 := dT hc2 | replace hc2 := dF hc2 | have hP := hc2
        first
        | (exfalso; omega)
        | (exfalso; simp [eqX] at hc2; done)
        | contradiction
        | skip
          refine Za (l := [0, 1]) rfl ?_; refine Zd rfl rfl rfl rfl ?_; refine Zc rfl rfl rfl rfl ?_; refine Zg ?_; refine Zbs ?_; refine Zbp (a' := [(5, _), (6, _)]) ((a, (a + b) / 2)) (.cons (k := 5) rfl (.cons (k := 6) rfl (.cons (k := 4) rfl (.cons (k := 1) rfl (.nil))))) (fun w hw => by first | exact hw | exact hw.cnt (by intro zz; first | exact Nat.le_refl _ | (simp only [Zh, Zf, Zi, cat, List.append_eq, List.append_assoc, List.cons_append, List.nil_append, List.append_nil]; omega) | (simp only [Zh, Zf, Zi, cat, List.append_eq, List.append_assoc, List.cons_append, List.nil_append, List.append_nil, PeerV.segs]; omega))) ?_ ?_
          · exact ⟨rfl, (by show a ≤ (a + b) / 2; omega), (by show (a + b) / 2 ≤ n; omega), h3, fun _ => by simpa using hP⟩
          · show (a + b) / 2 - a < b - a; omega
  · try simp only [Bool.not_eq_true', Bool.not_eq_false'] at hc1
    first | replace hc1 := dT hc1 | replace hc1 := dF hc1 | have hP := hc1
    first
    | (exfalso; omega)
    | (exfalso; simp [eqX] at hc1; done)
    | contradiction
    | skip
      refine Zbl ?_; refine Zao ?_; refine Zao ?_; refine Zbx ?_; refine Ze ?_; refine Zl (.cons (k := 5) rfl (.cons (k := 4) rfl .nil)) ?_; refine Zk ?_; refine Za (l := [0, 1]) rfl ?_; refine Zd rfl rfl rfl rfl ?_; refine Zc rfl rfl rfl rfl ?_; refine Zg ?_; refine Ze ?_; refine Zl (.cons (k := 4) rfl .nil) ?_; refine Zam ?_
      refine Zal (.inr rfl) (.tmp rfl .nil) (fun w hw => ?_)
      refine ⟨_, M, rfl, Mem.le.refl M, hw.cnt (by intro zz; first | exact Nat.le_refl _ | (simp only [Zh, Zf, Zi, cat, List.append_eq, List.append_assoc, List.cons_append, List.nil_append, List.append_nil]; omega)), rfl, ?_⟩
      refine congrArg (Value.int .i64) ?_
      have e : a = b := by omega
      subst e
      exact congrArg Nat.cast (firstP_at h2 h3 h4).symm
theorem own1_ok (M : Mem) (b1 b2 : Nat) (l : Sl PeerV) (x : Plc) (s_l : SlM M l.a (l.l.map PeerV.segs) 21) (i : Nat) (hi : i < l.l.length) : Fo Tryd.prog 58 ([.int .i64 (i : Int)] ++ [.pointer (some ⟨b1, 0, none⟩), .pointer (some ⟨b2, 0, none⟩)]) M [(b2, rowO [idSeg x] 34), (b1, rowO [.one l.val] 23)] (fun M' v => M' = M ∧ v = .bool (pO l.l x i)) := by
  obtain ⟨l_a, l_c, l_l⟩ := l
  simp only at s_l hi
  have n_l : (l_l.map PeerV.segs).length = l_l.length := List.length_map ..
  refine fo_enter Tryd.func58 rfl Tryd.ntmps58 rfl ?_; intro H
  refine Zk ?_; refine Za (l := [0]) rfl ?_; refine Zc rfl rfl rfl rfl ?_; refine Zg ?_; refine Ze ?_; refine Zk ?_; refine Zaf (l := [0, 1, 2, 3, 4, 5, 6, 7, 8]) #[0, 0, 3, 7, 15, 0, 63, 127, 255] _ rfl (by kernel_rfl) (by kernel_rfl) St.drawn (fun _ h => h) ?_
  first | refine Zan rfl rfl rfl (by repeat first | exact List.Mem.head _ | refine List.Mem.tail _ ?_ | refine List.mem_append_right _ ?_) F.lay23 rfl rfl rfl ?_ | refine Zv rfl rfl rfl (by first | assumption | exact SlM.mono (by assumption) (by assumption)) (by first | exact Zb (by omega) | exact List.getElem?_eq_getElem (by omega) | exact rfl | exact Zb (by first | (simp; done) | (simp; omega))) F.lay23 rfl rfl rfl ?_ | refine Zu rfl rfl rfl (by assumption) (by first | exact Zb (by omega) | exact List.getElem?_eq_getElem (by omega) | exact rfl | exact Zb (by first | (simp; done) | (simp; omega))) F.lay23 rfl rfl rfl ?_ | refine Zs rfl rfl rfl (by first | assumption | exact Mem.get_of (by assumption) (by repeat first | assumption | refine Mem.le.trans (by assumption) ?_)) F.lay23 rfl rfl rfl ?_ | refine Zp rfl rfl rfl (by assumption) (by repeat first | exact Rem.here _ | exact Rem.two | apply Rem.skip | apply Rem.over) (by first | exact Zb (by omega) | exact List.getElem?_eq_getElem (by omega) | exact rfl | exact Zb (by first | (simp; done) | (simp; omega))) F.lay23 rfl rfl rfl ?_ | refine Zr rfl rfl rfl (by repeat first | exact List.Mem.head _ | refine List.Mem.tail _ ?_ | refine List.mem_append_right _ ?_) F.lay23 (by first | exact Zbw (by first | omega | decide) | exact Zbk (by first | omega | decide)) rfl ?_
  refine Zd rfl rfl rfl rfl ?_; refine Zab rfl rfl rfl rfl F.elem23 (by first | rfl | exact (Int.toNat_of_nonneg (by omega)).symm) (by first | omega | (simp; done) | (simp; omega)) (by first | exact ⟨_, _, rfl⟩ | assumption | exact SlM.plain (by assumption) (by first | (simp; done) | (simp; omega)) | exact RdS.plain (by assumption) (by first | (simp; done) | (simp; omega)) | exact OSl.plain (by assumption) (by first | (simp; done) | (simp; omega))) rfl ?_
  first | refine Zak rfl rfl rfl F.foff39_1 rfl ?_ | refine Zac rfl rfl rfl (by first | exact ⟨_, _, rfl⟩ | assumption | exact SlM.plain (by assumption) (by first | (simp; done) | (simp; omega)) | exact RdS.plain (by assumption) (by first | (simp; done) | (simp; omega)) | exact OSl.plain (by assumption) (by first | (simp; done) | (simp; omega))) F.foff39_1 rfl ?_
  first | refine Zan rfl rfl rfl (by repeat first | exact List.Mem.head _ | refine List.Mem.tail _ ?_ | refine List.mem_append_right _ ?_) F.lay34 rfl rfl rfl ?_ | refine Zv rfl rfl rfl (by first | assumption | exact SlM.mono (by assumption) (by assumption)) (by first | exact Zb (by omega) | exact List.getElem?_eq_getElem (by omega) | exact rfl | exact Zb (by first | (simp; done) | (simp; omega))) F.lay34 rfl rfl rfl ?_ | refine Zu rfl rfl rfl (by assumption) (by first | exact Zb (by omega) | exact List.getElem?_eq_getElem (by omega) | exact rfl | exact Zb (by first | (simp; done) | (simp; omega))) F.lay34 rfl rfl rfl ?_ | refine Zs rfl rfl rfl (by first | assumption | exact Mem.get_of (by assumption) (by repeat first | assumption | refine Mem.le.trans (by assumption) ?_)) F.lay34 rfl rfl rfl ?_ | refine Zp rfl rfl rfl (by assumption) (by repeat first | exact Rem.here _ | exact Rem.two | apply Rem.skip | apply Rem.over) (by first | exact Zb (by omega) | exact List.getElem?_eq_getElem (by omega) | exact rfl | exact Zb (by first | (simp; done) | (simp; omega))) F.lay34 rfl rfl rfl ?_
  first | refine Zan rfl rfl rfl (by repeat first | exact List.Mem.head _ | refine List.Mem.tail _ ?_ | refine List.mem_append_right _ ?_) F.lay34 rfl rfl rfl ?_ | refine Zv rfl rfl rfl (by first | assumption | exact SlM.mono (by assumption) (by assumption)) (by first | exact Zb (by omega) | exact List.getElem?_eq_getElem (by omega) | exact rfl | exact Zb (by first | (simp; done) | (simp; omega))) F.lay34 rfl rfl rfl ?_ | refine Zu rfl rfl rfl (by assumption) (by first | exact Zb (by omega) | exact List.getElem?_eq_getElem (by omega) | exact rfl | exact Zb (by first | (simp; done) | (simp; omega))) F.lay34 rfl rfl rfl ?_ | refine Zs rfl rfl rfl (by first | assumption | exact Mem.get_of (by assumption) (by repeat first | assumption | refine Mem.le.trans (by assumption) ?_)) F.lay34 rfl rfl rfl ?_ | refine Zp rfl rfl rfl (by assumption) (by repeat first | exact Rem.here _ | exact Rem.two | apply Rem.skip | apply Rem.over) (by first | exact Zb (by omega) | exact List.getElem?_eq_getElem (by omega) | exact rfl | exact Zb (by first | (simp; done) | (simp; omega))) F.lay34 rfl rfl rfl ?_
  refine X_fs rfl rfl F.ok25 rfl (Less_ok _ _ _) rfl ?_
  rintro _ rfl
  refine X_not rfl rfl rfl rfl ?_; refine Zc rfl rfl rfl rfl ?_; refine Zg ?_; refine Ze ?_; refine Zl (.cons (k := 4) rfl .nil) ?_; refine Zam ?_
  refine Zal (.inr rfl) (.tmp rfl .nil) (fun w hw => ?_)
  exact ⟨_, M, rfl, Mem.le.refl M, hw.cnt (by intro zz; first | exact Nat.le_refl _ | (simp only [Zh, Zf, Zi, cat, List.append_eq, List.append_assoc, List.cons_append, List.nil_append, List.append_nil]; omega)), rfl, congrArg Value.bool (by rw [pO_at hi]; simp)⟩
theorem owner_ok (M : Mem) (l : (Sl PeerV)) (x : Plc) (hl0 : SlK M PeerV.segs 21 l) (hc : IsCircle l.l) : Fs Tryd.prog 35 [Sl.val l, aggV [idSeg x]] M (fun v => v = Value.int .i64 (((ownerI l.l x : Nat) : Int))) := by
  obtain ⟨l_a, l_c, l_l⟩ := l
  have k_l : SlK M PeerV.segs 21 ⟨l_a, l_c, l_l⟩ := hl0
  have s_l : SlM M l_a (l_l.map PeerV.segs) 21 := k_l.h1
  have n_l : (l_l.map PeerV.segs).length = l_l.length := List.length_map ..
  have m_l : l_l.length ≤ 9223372036854775807 := k_l.h2
  have c_l : l_l.length ≤ l_c := k_l.h3
  have hc1 := hc.1
  simp only at hc1
  refine Zbd Tryd.func35 rfl Tryd.ntmps35 rfl ?_; intro H
  refine Zk ?_; refine Za (l := [0, 1, 2]) rfl ?_
  refine Zcj rfl rfl rfl (by constructor) rfl ?_; intro b1
  refine Zcj rfl rfl rfl (by constructor) rfl ?_; intro b2
  refine Zc rfl rfl rfl rfl ?_; refine Zg ?_; refine Ze ?_; refine Zl (.cons (k := 4) rfl (.cons (k := 3) rfl (.cons (k := 2) rfl .nil))) ?_; refine Zk ?_; refine Zaf (l := [0, 1, 2, 3, 4, 5, 6, 7]) #[0, 1, 0, 7, 0, 16, 63, 127] _ rfl (by kernel_rfl) (by kernel_rfl) St.drawn (fun _ h => h) ?_
  first | refine Zan rfl rfl rfl (by repeat first | exact List.Mem.head _ | refine List.Mem.tail _ ?_ | refine List.mem_append_right _ ?_) F.lay23 rfl rfl rfl ?_ | refine Zv rfl rfl rfl (by first | assumption | exact SlM.mono (by assumption) (by assumption)) (by first | exact Zb (by omega) | exact List.getElem?_eq_getElem (by omega) | exact rfl | exact Zb (by first | (simp; done) | (simp; omega))) F.lay23 rfl rfl rfl ?_ | refine Zu rfl rfl rfl (by assumption) (by first | exact Zb (by omega) | exact List.getElem?_eq_getElem (by omega) | exact rfl | exact Zb (by first | (simp; done) | (simp; omega))) F.lay23 rfl rfl rfl ?_ | refine Zs rfl rfl rfl (by first | assumption | exact Mem.get_of (by assumption) (by repeat first | assumption | refine Mem.le.trans (by assumption) ?_)) F.lay23 rfl rfl rfl ?_ | refine Zp rfl rfl rfl (by assumption) (by repeat first | exact Rem.here _ | exact Rem.two | apply Rem.skip | apply Rem.over) (by first | exact Zb (by omega) | exact List.getElem?_eq_getElem (by omega) | exact rfl | exact Zb (by first | (simp; done) | (simp; omega))) F.lay23 rfl rfl rfl ?_ | refine Zr rfl rfl rfl (by repeat first | exact List.Mem.head _ | refine List.Mem.tail _ ?_ | refine List.mem_append_right _ ?_) F.lay23 (by first | exact Zbw (by first | omega | decide) | exact Zbk (by first | omega | decide)) rfl ?_
  refine Zat rfl rfl rfl rfl F.elem23 rfl ?_; refine X_makeFunc rfl rfl rfl rfl rfl ?_; refine X_fo rfl rfl F.ok57 rfl (Search_ok _ _ 58 [_, _] (pO l_l x) l_l.length (by omega) F.ok58 (fun i hi => own1_ok M _ _ ⟨l_a, l_c, l_l⟩ x s_l i hi) (pO_mono hc.2)) (by repeat first | exact Rem.here _ | exact Rem.two | apply Rem.skip | apply Rem.over) (putE_some rfl) ?_
  rintro _ M1 _ ⟨hM1, rfl⟩; subst M1
  first | refine Zan rfl rfl rfl (by repeat first | exact List.Mem.head _ | refine List.Mem.tail _ ?_ | refine List.mem_append_right _ ?_) F.lay23 rfl rfl rfl ?_ | refine Zv rfl rfl rfl (by first | assumption | exact SlM.mono (by assumption) (by assumption)) (by first | exact Zb (by omega) | exact List.getElem?_eq_getElem (by omega) | exact rfl | exact Zb (by first | (simp; done) | (simp; omega))) F.lay23 rfl rfl rfl ?_ | refine Zu rfl rfl rfl (by assumption) (by first | exact Zb (by omega) | exact List.getElem?_eq_getElem (by omega) | exact rfl | exact Zb (by first | (simp; done) | (simp; omega))) F.lay23 rfl rfl rfl ?_ | refine Zs rfl rfl rfl (by first | assumption | exact Mem.get_of (by assumption) (by repeat first | assumption | refine Mem.le.trans (by assumption) ?_)) F.lay23 rfl rfl rfl ?_ | refine Zp rfl rfl rfl (by assumption) (by repeat first | exact Rem.here _ | exact Rem.two | apply Rem.skip | apply Rem.over) (by first | exact Zb (by omega) | exact List.getElem?_eq_getElem (by omega) | exact rfl | exact Zb (by first | (simp; done) | (simp; omega))) F.lay23 rfl rfl rfl ?_ | refine Zr rfl rfl rfl (by repeat first | exact List.Mem.head _ | refine List.Mem.tail _ ?_ | refine List.mem_append_right _ ?_) F.lay23 (by first | exact Zbw (by first | omega | decide) | exact Zbk (by first | omega | decide)) rfl ?_
  refine Zat rfl rfl rfl rfl F.elem23 rfl ?_; refine Zck rfl rfl rfl rfl (by first | decide | omega) (by first | exact Zch (by omega) | rfl) rfl ?_; refine Zc rfl rfl rfl rfl ?_; refine Zg ?_; refine Ze ?_; refine Zl (.cons (k := 4) rfl .nil) ?_; refine Zam ?_
  refine Zal (.inr rfl) (.tmp rfl .nil) (fun w hw => ?_)
  refine ⟨_, rfl, (hw.cnt (by intro zz; first | exact Nat.le_refl _ | (simp only [Zh, Zf, Zi, cat, List.append_eq, List.append_assoc, List.cons_append, List.nil_append, List.append_nil]; omega) | (simp only [Zh, Zf, Zi, cat, List.append_eq, List.append_assoc, List.cons_append, List.nil_append, List.append_nil, PeerV.segs]; omega))), ?_⟩
  clear hw
  exact congrArg (Value.int .i64) (Int.natCast_emod _ _).symm
theorem Owner_ok (M : Mem) (l : (Sl PeerV)) (x : Plc) (hl0 : SlK M PeerV.segs 21 l) : Fs Tryd.prog 18 [Sl.val l, aggV [idSeg x]] M (fun v => v = ofII (ownerR l.l x)) := by
  obtain ⟨l_a, l_c, l_l⟩ := l
  have k_l : SlK M PeerV.segs 21 ⟨l_a, l_c, l_l⟩ := hl0
  have s_l : SlM M l_a (l_l.map PeerV.segs) 21 := k_l.h1
  have n_l : (l_l.map PeerV.segs).length = l_l.length := List.length_map ..
  have m_l : l_l.length ≤ 9223372036854775807 := k_l.h2
  have c_l : l_l.length ≤ l_c := k_l.h3
  refine Zbd Tryd.func18 rfl Tryd.ntmps18 rfl ?_; intro H
  refine Zk ?_; refine Za (l := [0, 1, 2]) rfl ?_
  refine Zcj rfl rfl rfl (by constructor) rfl ?_; intro b1
  refine Zc rfl rfl rfl rfl ?_; refine Zc rfl rfl rfl rfl ?_; refine Zg ?_; refine Ze ?_; refine Zl (.cons (k := 5) rfl (.cons (k := 4) rfl (.cons (k := 3) rfl (.cons (k := 0) rfl .nil)))) ?_; refine Zk ?_; refine Zk ?_; refine Za (l := [0, 1, 2]) rfl ?_; refine Zd rfl rfl rfl rfl ?_; refine X_fs rfl rfl F.ok8 rfl (Circ_ok _ ⟨_, _, _⟩ (by first | assumption | omega | exact SlK.mono (by assumption) (by assumption) | exact SlM.mono (by assumption) (by assumption) | exact SlM.mono (by assumption) (by repeat first | assumption | refine Mem.le.trans (by assumption) ?_))) rfl ?_
  rintro _ rfl
  refine X_not rfl rfl rfl rfl ?_; refine Zg ?_; refine Ze ?_; refine Zl (.cons (k := 8) rfl (.cons (k := 5) rfl (.cons (k := 4) rfl (.cons (k := 3) rfl (.cons (k := 0) rfl .nil))))) ?_
  refine Zai rfl (fun hc2 => ?_) (fun hc2 => ?_)
  · first | replace hc2 := dT hc2 | replace hc2 := dF hc2 | replace hc2 := nT hc2 | replace hc2 := nF hc2 | skip
    try simp only [PeerV.eta] at hc2
    first
    | (exfalso; omega)
    | (exfalso; simp [eqX] at hc2; done)
    | contradiction
    | skip
      refine Zk ?_; refine Za (l := [0, 1]) rfl ?_; refine Zc rfl rfl rfl rfl ?_; refine Zc rfl rfl rfl rfl ?_; refine Zg ?_; refine Ze ?_; refine Zl (.cons (k := 5) rfl (.cons (k := 4) rfl (.cons (k := 3) rfl (.cons (k := 0) rfl .nil)))) ?_; refine Zam ?_; refine Zar ?_
      refine Zal (.inr rfl) (.tmp rfl (.tmp rfl .nil)) (fun w hw => ?_)
      refine ⟨_, rfl, (hw.cnt (by intro zz; first | exact Nat.le_refl _ | (simp only [Zh, Zf, Zi, cat, List.append_eq, List.append_assoc, List.cons_append, List.nil_append, List.append_nil]; omega) | (simp only [Zh, Zf, Zi, cat, List.append_eq, List.append_assoc, List.cons_append, List.nil_append, List.append_nil, PeerV.segs]; omega))), ?_⟩
      clear hw
      refine congrArg ofII (a₁ := (_, _)) ?_
      first | rfl | grind [w64, ownerR]
  · first | replace hc2 := dT hc2 | replace hc2 := dF hc2 | replace hc2 := nT hc2 | replace hc2 := nF hc2 | skip
    try simp only [PeerV.eta] at hc2
    first
    | (exfalso; omega)
    | (exfalso; simp [eqX] at hc2; done)
    | contradiction
    | skip
      refine Zah ?_; refine Ze ?_; refine Zl (.cons (k := 5) rfl (.cons (k := 4) rfl (.cons (k := 3) rfl (.cons (k := 0) rfl .nil)))) ?_; refine Zk ?_; refine Za (l := [0, 1, 2, 3, 4]) rfl ?_; refine Zd rfl rfl rfl rfl ?_
      first | refine Zan rfl rfl rfl (by repeat first | exact List.Mem.head _ | refine List.Mem.tail _ ?_ | refine List.mem_append_right _ ?_) F.lay34 rfl rfl rfl ?_ | refine Zv rfl rfl rfl (by first | assumption | exact SlM.mono (by assumption) (by assumption)) (by first | exact Zb (by omega) | exact List.getElem?_eq_getElem (by omega) | exact rfl | exact Zb (by first | (simp; done) | (simp; omega))) F.lay34 rfl rfl rfl ?_ | refine Zu rfl rfl rfl (by assumption) (by first | exact Zb (by omega) | exact List.getElem?_eq_getElem (by omega) | exact rfl | exact Zb (by first | (simp; done) | (simp; omega))) F.lay34 rfl rfl rfl ?_ | refine Zs rfl rfl rfl (by first | assumption | exact Mem.get_of (by assumption) (by repeat first | assumption | refine Mem.le.trans (by assumption) ?_)) F.lay34 rfl rfl rfl ?_ | refine Zp rfl rfl rfl (by assumption) (by repeat first | exact Rem.here _ | exact Rem.two | apply Rem.skip | apply Rem.over) (by first | exact Zb (by omega) | exact List.getElem?_eq_getElem (by omega) | exact rfl | exact Zb (by first | (simp; done) | (simp; omega))) F.lay34 rfl rfl rfl ?_
      refine X_fs rfl rfl F.ok35 rfl (owner_ok _ ⟨_, _, _⟩ _ (by first | assumption | omega | exact SlK.mono (by assumption) (by assumption) | exact SlM.mono (by assumption) (by assumption) | exact SlM.mono (by assumption) (by repeat first | assumption | refine Mem.le.trans (by assumption) ?_)) (by first | assumption | grind)) rfl ?_
      rintro _ rfl
      refine Zc rfl rfl rfl rfl ?_; refine Zc rfl rfl rfl rfl ?_; refine Zg ?_; refine Ze ?_; refine Zl (.cons (k := 5) rfl (.cons (k := 4) rfl .nil)) ?_; refine Zam ?_
      refine Zal (.inr rfl) (.tmp rfl (.tmp rfl .nil)) (fun w hw => ?_)
      refine ⟨_, rfl, (hw.cnt (by intro zz; first | exact Nat.le_refl _ | (simp only [Zh, Zf, Zi, cat, List.append_eq, List.append_assoc, List.cons_append, List.nil_append, List.append_nil]; omega) | (simp only [Zh, Zf, Zi, cat, List.append_eq, List.append_assoc, List.cons_append, List.nil_append, List.append_nil, PeerV.segs]; omega))), ?_⟩
      clear hw
      refine congrArg ofII (a₁ := (_, _)) ?_
      first | rfl | grind [w64, ownerR]
end Go.Proofs.YtpfdblknaihidaaDoor
namespace Go.Proofs.YtpfdblknaihidaaDoor
open Go.Esp
theorem F.guard39 : Tryd.prog.eqGuardType Tryd.prog.depth 39 = false := by kernel_rfl
theorem F.kinds39 : kindsOf Tryd.prog 20 39 = some [.i .i64, .i .u8, .i .u8, .i .u8, .i .u8, .i .u8, .i .u8, .i .u8, .i .u8, .i .u8, .i .u8, .i .u8, .i .u8, .i .u8, .i .u8, .i .u8, .i .u8, .i .u8, .i .u8, .i .u8, .i .u8] := by kernel_rfl
theorem Copies_ok (M : Mem) (l : (Sl PeerV)) (x : Plc) (r : Int) (hl0 : SlK M PeerV.segs 21 l) : Esp.Fn Tryd.prog 21 [Sl.val l, aggV [idSeg x], .int .i64 r] M (fun M' v => IntsE M' v (copiesR l.l x r)) := by
  obtain ⟨l_a, l_c, l_l⟩ := l
  have k_l : SlK M PeerV.segs 21 ⟨l_a, l_c, l_l⟩ := hl0
  have s_l : SlM M l_a (l_l.map PeerV.segs) 21 := k_l.h1
  have n_l : (l_l.map PeerV.segs).length = l_l.length := List.length_map ..
  have m_l : l_l.length ≤ 9223372036854775807 := k_l.h2
  have c_l : l_l.length ≤ l_c := k_l.h3
  refine Zbv Tryd.func21 rfl Tryd.ntmps21 rfl ?_; intro H
  refine Zk ?_; refine Za (l := [0, 1, 2]) rfl ?_
  refine Zcj rfl rfl rfl (by constructor) rfl ?_; intro b1
  refine Zc rfl rfl rfl rfl ?_; refine Zc rfl rfl rfl rfl ?_; refine Zg ?_; refine Ze ?_; refine Zl (.cons (k := 7) rfl (.cons (k := 6) rfl (.cons (k := 4) rfl (.cons (k := 0) rfl (.cons (k := 2) rfl .nil))))) ?_; refine Zk ?_; refine Zk ?_; refine Za (l := [0, 1, 2, 3, 4, 5, 6, 7, 8, 9, 10]) rfl ?_; refine Zd rfl rfl rfl rfl ?_; refine X_fs rfl rfl F.ok8 rfl (Circ_ok _ ⟨_, _, _⟩ (by first | assumption | omega | exact SlK.mono (by assumption) (by assumption) | exact SlM.mono (by assumption) (by assumption) | exact SlM.mono (by assumption) (by repeat first | assumption | refine Mem.le.trans (by assumption) ?_))) rfl ?_
  rintro _ rfl
  refine X_not rfl rfl rfl rfl ?_; refine Zd rfl rfl rfl rfl ?_
  refine Zbb 14 rfl (fun hc2 => ?_) (fun hc2 => ?_)
  · first | replace hc2 := dT hc2 | replace hc2 := dF hc2 | replace hc2 := nT hc2 | replace hc2 := nF hc2 | skip
    try simp only [PeerV.eta] at hc2
    first
    | (exfalso; omega)
    | (exfalso; simp [eqX] at hc2; done)
    | contradiction
    | skip
      refine Zj rfl rfl rfl ?_; refine Zj rfl rfl rfl ?_; refine Zx rfl rfl rfl rfl rfl ?_; refine Zd rfl rfl rfl rfl ?_; refine Zj rfl rfl rfl ?_; refine Zj rfl rfl rfl ?_; refine Zx rfl rfl rfl rfl rfl ?_; refine Zg ?_; refine Ze ?_; refine Zl (.cons (k := 21) rfl (.cons (k := 7) rfl (.cons (k := 6) rfl (.cons (k := 4) rfl (.cons (k := 0) rfl (.cons (k := 2) rfl .nil)))))) ?_; refine Zcg rfl ?_; refine Zk ?_; refine Za (l := [0, 1]) rfl ?_; refine Zc rfl rfl rfl rfl ?_; refine Zc rfl rfl rfl rfl ?_; refine Zg ?_; refine Ze ?_; refine Zl (.cons (k := 7) rfl (.cons (k := 6) rfl (.cons (k := 4) rfl (.cons (k := 0) rfl (.cons (k := 2) rfl .nil))))) ?_; refine Zam ?_; refine Zar ?_
      refine Zal (.inr rfl) (.tmp rfl (.tmp rfl .nil)) (fun w hw => ?_)
      refine ⟨_, M, rfl, Mem.le.refl M, hw.cnt (by intro zz; first | exact Nat.le_refl _ | (simp only [Zh, Zf, Zi, cat, List.append_eq, List.append_assoc, List.cons_append, List.nil_append, List.append_nil]; omega) | (simp only [Zh, Zf, Zi, cat, List.append_eq, List.append_assoc, List.cons_append, List.nil_append, List.append_nil, PeerV.segs]; omega)), ?_⟩
      rw [show copiesR l_l x r = ([], 1) from copiesR_no (by rintro ⟨g1, g2, g3⟩; first | exact absurd g1 (by assumption) | omega | exact hcn (by assumption) g1)]
      exact ⟨⟨none, 0, []⟩, rfl, rfl, SlK.nil⟩
  · first | replace hc2 := dT hc2 | replace hc2 := dF hc2 | replace hc2 := nT hc2 | replace hc2 := nF hc2 | skip
    try simp only [PeerV.eta] at hc2
    first
    | (exfalso; omega)
    | (exfalso; simp [eqX] at hc2; done)
    | contradiction
    | skip
      refine Zd rfl rfl rfl rfl ?_; refine Zaq rfl rfl rfl rfl rfl rfl ?_; refine Zx rfl rfl rfl rfl rfl ?_; refine Zd rfl rfl rfl rfl ?_
      refine Zbb 18 rfl (fun hc3 => ?_) (fun hc3 => ?_)
      · first | replace hc3 := dT hc3 | replace hc3 := dF hc3 | replace hc3 := nT hc3 | replace hc3 := nF hc3 | skip
        try simp only [PeerV.eta] at hc3
        first
        | (exfalso; omega)
        | (exfalso; simp [eqX] at hc3; done)
        | contradiction
        | skip
          refine Zj rfl rfl rfl ?_; refine Zj rfl rfl rfl ?_; refine Zx rfl rfl rfl rfl rfl ?_; refine Zg ?_; refine Ze ?_; refine Zl (.cons (k := 21) rfl (.cons (k := 7) rfl (.cons (k := 6) rfl (.cons (k := 4) rfl (.cons (k := 0) rfl (.cons (k := 2) rfl .nil)))))) ?_; refine Zcg rfl ?_; refine Zk ?_; refine Za (l := [0, 1]) rfl ?_; refine Zc rfl rfl rfl rfl ?_; refine Zc rfl rfl rfl rfl ?_; refine Zg ?_; refine Ze ?_; refine Zl (.cons (k := 7) rfl (.cons (k := 6) rfl (.cons (k := 4) rfl (.cons (k := 0) rfl (.cons (k := 2) rfl .nil))))) ?_; refine Zam ?_; refine Zar ?_
          refine Zal (.inr rfl) (.tmp rfl (.tmp rfl .nil)) (fun w hw => ?_)
          refine ⟨_, M, rfl, Mem.le.refl M, hw.cnt (by intro zz; first | exact Nat.le_refl _ | (simp only [Zh, Zf, Zi, cat, List.append_eq, List.append_assoc, List.cons_append, List.nil_append, List.append_nil]; omega) | (simp only [Zh, Zf, Zi, cat, List.append_eq, List.append_assoc, List.cons_append, List.nil_append, List.append_nil, PeerV.segs]; omega)), ?_⟩
          rw [show copiesR l_l x r = ([], 1) from copiesR_no (by rintro ⟨g1, g2, g3⟩; first | exact absurd g1 (by assumption) | omega | exact hcn (by assumption) g1)]
          exact ⟨⟨none, 0, []⟩, rfl, rfl, SlK.nil⟩
      · first | replace hc3 := dT hc3 | replace hc3 := dF hc3 | replace hc3 := nT hc3 | replace hc3 := nF hc3 | skip
        try simp only [PeerV.eta] at hc3
        first
        | (exfalso; omega)
        | (exfalso; simp [eqX] at hc3; done)
        | contradiction
        | skip
          refine Zd rfl rfl rfl rfl ?_; refine Zaq rfl rfl rfl rfl rfl rfl ?_; refine Zx rfl rfl rfl rfl rfl ?_; refine Zg ?_; refine Ze ?_; refine Zl (.cons (k := 21) rfl (.cons (k := 7) rfl (.cons (k := 6) rfl (.cons (k := 4) rfl (.cons (k := 0) rfl (.cons (k := 2) rfl .nil)))))) ?_
          refine Zai rfl (fun hc4 => ?_) (fun hc4 => ?_)
          · first | replace hc4 := dT hc4 | replace hc4 := dF hc4 | replace hc4 := nT hc4 | replace hc4 := nF hc4 | skip
            try simp only [PeerV.eta] at hc4
            first
            | (exfalso; omega)
            | (exfalso; simp [eqX] at hc4; done)
            | contradiction
            | skip
              refine Zk ?_; refine Za (l := [0, 1]) rfl ?_; refine Zc rfl rfl rfl rfl ?_; refine Zc rfl rfl rfl rfl ?_; refine Zg ?_; refine Ze ?_; refine Zl (.cons (k := 7) rfl (.cons (k := 6) rfl (.cons (k := 4) rfl (.cons (k := 0) rfl (.cons (k := 2) rfl .nil))))) ?_; refine Zam ?_; refine Zar ?_
              refine Zal (.inr rfl) (.tmp rfl (.tmp rfl .nil)) (fun w hw => ?_)
              refine ⟨_, M, rfl, Mem.le.refl M, hw.cnt (by intro zz; first | exact Nat.le_refl _ | (simp only [Zh, Zf, Zi, cat, List.append_eq, List.append_assoc, List.cons_append, List.nil_append, List.append_nil]; omega) | (simp only [Zh, Zf, Zi, cat, List.append_eq, List.append_assoc, List.cons_append, List.nil_append, List.append_nil, PeerV.segs]; omega)), ?_⟩
              rw [show copiesR l_l x r = ([], 1) from copiesR_no (by rintro ⟨g1, g2, g3⟩; first | exact absurd g1 (by assumption) | omega | exact hcn (by assumption) g1)]
              exact ⟨⟨none, 0, []⟩, rfl, rfl, SlK.nil⟩
          · first | replace hc4 := dT hc4 | replace hc4 := dF hc4 | replace hc4 := nT hc4 | replace hc4 := nF hc4 | skip
            try simp only [PeerV.eta] at hc4
            first
            | (exfalso; omega)
            | (exfalso; simp [eqX] at hc4; done)
            | contradiction
            | skip
              refine Zah ?_; refine Ze ?_; refine Zl (.cons (k := 7) rfl (.cons (k := 6) rfl (.cons (k := 4) rfl (.cons (k := 0) rfl (.cons (k := 2) rfl .nil))))) ?_; refine Zk ?_; refine Za (l := [0, 1, 2, 3]) rfl ?_
              obtain ⟨rn, rfl⟩ : ∃ n : Nat, r = n := ⟨r.toNat, by omega⟩
              have hc : IsCircle l_l := by first | assumption | exact hcc (by assumption)
              have hc1 := hc.1
              obtain ⟨o9, hog⟩ : ∃ o, ownerI l_l x = o := ⟨_, rfl⟩
              have ho9 : o9 < l_l.length := by rw [← hog]; exact ownerI_lt (by omega)
              refine Zd rfl rfl rfl rfl ?_
              first | refine Zan rfl rfl rfl (by repeat first | exact List.Mem.head _ | refine List.Mem.tail _ ?_ | refine List.mem_append_right _ ?_) F.lay34 rfl rfl rfl ?_ | refine Zv rfl rfl rfl (by first | assumption | exact SlM.mono (by assumption) (by assumption)) (by first | exact Zb (by omega) | exact List.getElem?_eq_getElem (by omega) | exact rfl | exact Zb (by first | (simp; done) | (simp; omega))) F.lay34 rfl rfl rfl ?_ | refine Zu rfl rfl rfl (by assumption) (by first | exact Zb (by omega) | exact List.getElem?_eq_getElem (by omega) | exact rfl | exact Zb (by first | (simp; done) | (simp; omega))) F.lay34 rfl rfl rfl ?_ | refine Zs rfl rfl rfl (by first | assumption | exact Mem.get_of (by assumption) (by repeat first | assumption | refine Mem.le.trans (by assumption) ?_)) F.lay34 rfl rfl rfl ?_ | refine Zp rfl rfl rfl (by assumption) (by repeat first | exact Rem.here _ | exact Rem.two | apply Rem.skip | apply Rem.over) (by first | exact Zb (by omega) | exact List.getElem?_eq_getElem (by omega) | exact rfl | exact Zb (by first | (simp; done) | (simp; omega))) F.lay34 rfl rfl rfl ?_
              refine X_fs rfl rfl F.ok35 rfl (owner_ok _ ⟨l_a, l_c, l_l⟩ x k_l hc) rfl ?_
              rintro _ hv
              replace hv : _ = Value.int .i64 ((ownerI l_l x : Nat) : Int) := hv
              rw [hog] at hv
              subst hv
              refine Zc rfl rfl rfl rfl ?_; refine Zg ?_; refine Ze ?_; refine Zl (.cons (k := 8) rfl (.cons (k := 7) rfl (.cons (k := 6) rfl (.cons (k := 0) rfl (.cons (k := 2) rfl .nil))))) ?_; refine Zk ?_; refine Za (l := [0]) rfl ?_; refine Zc rfl rfl rfl rfl ?_; refine Zg ?_; refine Ze ?_; refine Zk ?_; refine Zk ?_; refine Za (l := [0, 1, 2, 3, 4]) rfl ?_; refine Zd rfl rfl rfl rfl ?_; refine Zd rfl rfl rfl rfl ?_; refine Zat rfl rfl rfl rfl F.elem23 rfl ?_; refine X_min rfl rfl rfl rfl rfl rfl ?_
              obtain ⟨m9, hmn⟩ : ∃ m, m = min rn l_l.length := ⟨_, rfl⟩
              rw [show (if (l_l.length : Int) < (rn : Int) then (l_l.length : Int) else (rn : Int)) = (m9 : Int) by split <;> omega]
              refine Zd rfl rfl rfl rfl ?_; refine Zg ?_; refine Ze ?_; refine Zl (.cons (k := 29) rfl (.cons (k := 28) rfl (.cons (k := 9) rfl (.cons (k := 8) rfl (.cons (k := 7) rfl (.cons (k := 6) rfl (.cons (k := 0) rfl .nil))))))) ?_; refine Zad ?_; refine Zl (.cons (k := 29) rfl (.cons (k := 9) rfl (.cons (k := 28) rfl (.cons (k := 8) rfl (.cons (k := 7) rfl (.cons (k := 6) rfl (.cons (k := 0) rfl .nil))))))) ?_; refine Zbu (Hin := []) (.succ (.succ .zero)) (by repeat first | exact Rem.here _ | exact Rem.two | apply Rem.skip | apply Rem.over) (fun (k : Nat) M1 h1 z => ∃ v, M1 = M ∧ z = [(29, .int .i64 (k : Int)), (9, v)] ∧ k ≤ rn ∧ k ≤ l_l.length ∧ OSl 3 1 v h1 (((List.range k).map fun k => (((o9 + k) % l_l.length : Nat) : Int)).map (oneI .i64))) (fun k => l_l.length - k) (0) (⟨_, rfl, rfl, by omega, by omega, OSl.nil⟩) ?_
              rintro k M1 h1 z hm1 ⟨v0, hM1, rfl, hk, hk2, ho⟩
              subst hM1
              obtain ⟨ad0, cp0, rfl⟩ := ho.val
              have hml : (((List.range k).map fun k => (((o9 + k) % l_l.length : Nat) : Int)).map (oneI .i64)).length = k := by simp
              rw [hml] at ho ⊢
              refine Zk ?_; refine Za (l := [0]) rfl ?_; refine Zaq rfl rfl rfl rfl rfl rfl ?_; refine Zg ?_; refine Ze ?_; refine Zk ?_
              refine Zai rfl (fun hc5 => ?_) (fun hc5 => ?_)
              · first | replace hc5 := dT hc5 | replace hc5 := dF hc5 | replace hc5 := nT hc5 | replace hc5 := nF hc5 | skip
                try simp only [PeerV.eta] at hc5
                first
                | (exfalso; omega)
                | (exfalso; simp [eqX] at hc5; done)
                | contradiction
                | skip
                  refine Zah ?_; refine Ze ?_; refine Zk ?_; refine Zad ?_; refine Zk ?_; refine Za (l := [0, 1]) rfl ?_; refine Zd rfl rfl rfl rfl ?_; refine Zc rfl rfl rfl rfl ?_; refine Zg ?_; refine Ze ?_; refine Za (l := [0, 1, 2, 3, 4, 5, 6, 7, 8, 9]) rfl ?_; refine Zd rfl rfl rfl rfl ?_; refine Zd rfl rfl rfl rfl ?_; refine Zd rfl rfl rfl rfl ?_; refine Zav rfl rfl rfl rfl rfl (by first | exact Zaa (by decide) (by omega) | exact Zm (by decide) (by omega) | exact Zo (by decide) (by omega) | exact Zn (by decide) (by omega) | exact Zt _ | exact Zz _ | exact Zq _ | exact rfl) rfl ?_; refine Zd rfl rfl rfl rfl ?_; refine Zat rfl rfl rfl rfl F.elem23 rfl ?_; refine Zck rfl rfl rfl rfl (by first | decide | omega) (by first | exact Zch (by omega) | rfl) rfl ?_
                  have hq0 : (((o9 : Nat) : Int) + (k : Int)) % (l_l.length : Int) = (((o9 + k) % l_l.length : Nat) : Int) := by rw [Int.natCast_emod]; first | rfl | (congr 1; omega)
                  rw [hq0]
                  refine Zba rfl rfl F.elem22 F.zero3 rfl rfl (.cons rfl (by constructor) .nil) rfl rfl (by simp only [List.map_cons, List.map_nil] <;> rfl) rfl ?_; intro b6 hob7
                  refine Zca (m := 1000000) rfl rfl rfl rfl rfl F.elem22 F.zero3 (by first | rfl | exact Zbo rfl) rfl (by first | assumption | exact OSl.nil) (by repeat first | exact Rem.here _ | exact Rem.two | apply Rem.skip | apply Rem.over) (Src.own hob7.lens (by first | exact PeerV.flat1 _ | exact PeerV.flat1 ⟨_, _⟩ | (refine Zbf ?_; (repeat (first | exact Zag | refine Zau ?_ | (refine Zae ?_ ?_; rfl))); done) | (refine Zbf ?_; exact PeerV.flat _) | (simp [rowsCells, Segs.cells, Seg.cells, Value.oneCell']; done)) rfl (by repeat first | exact List.Mem.head _ | refine List.Mem.tail _ ?_ | refine List.mem_append_right _ ?_)) (by first | omega | (simp; done) | (simp; omega)) (by decide) rfl ?_; intro v10 hs9 ho8; obtain ⟨adv10, cpv10, rfl⟩ := ho8.valAt (n := k + 1) (by first | (simp; done) | (simp; omega))
                  refine Zc rfl rfl rfl rfl ?_; refine Zg ?_; refine Zbs ?_; refine Ze ?_; refine Za (l := [0, 1]) rfl ?_; refine Zav rfl rfl rfl rfl rfl (by first | exact Zaa (by decide) (by omega) | exact Zm (by decide) (by omega) | exact Zo (by decide) (by omega) | exact Zn (by decide) (by omega) | exact Zt _ | exact Zz _ | exact Zq _ | exact rfl) rfl ?_; refine Zd rfl rfl rfl rfl ?_; refine Zg ?_; refine Zbj (a' := [(29, _), (9, _)]) (k + 1) (hs9) (.cons (k := 29) rfl (.cons (k := 9) rfl (.cons (k := 28) rfl (.cons (k := 8) rfl (.cons (k := 7) rfl (.cons (k := 6) rfl (.cons (k := 0) rfl (.nil)))))))) (by first | exact Mem.le.refl _ | assumption | (repeat first | assumption | refine Mem.le.trans (by assumption) ?_)) (fun w hw => by first | exact hw | exact hw.cnt (by intro zz; first | exact Nat.le_refl _ | (simp only [Zh, Zf, Zi, cat, List.append_eq, List.append_assoc, List.cons_append, List.nil_append, List.append_nil]; omega) | (simp only [Zh, Zf, Zi, cat, List.append_eq, List.append_assoc, List.cons_append, List.nil_append, List.append_nil, PeerV.segs]; omega))) ?_ ?_
                  · refine ⟨_, rfl, rfl, by omega, by omega, ?_⟩
                    rw [List.range_succ, List.map_append, List.map_append]
                    exact ho8
                  · omega
              · first | replace hc5 := dT hc5 | replace hc5 := dF hc5 | replace hc5 := nT hc5 | replace hc5 := nF hc5 | skip
                try simp only [PeerV.eta] at hc5
                first
                | (exfalso; omega)
                | (exfalso; simp [eqX] at hc5; done)
                | contradiction
                | skip
                  refine Zbl ?_; refine Zao ?_; refine Zao ?_; refine Zbx ?_; refine Ze ?_; refine Zl (.cons (k := 9) rfl (.cons (k := 7) rfl (.cons (k := 6) rfl .nil))) ?_; refine Zk ?_; refine Za (l := [0, 1, 2]) rfl ?_; refine Zd rfl rfl rfl rfl ?_; refine Zc rfl rfl rfl rfl ?_; refine Zc rfl rfl rfl rfl ?_; refine Zg ?_; refine Ze ?_; refine Zl (.cons (k := 7) rfl (.cons (k := 6) rfl .nil)) ?_; refine Zam ?_
                  refine Zal (.inr rfl) (.tmp rfl (.tmp rfl .nil)) (fun w hw => ?_)
                  obtain rfl : k = min rn l_l.length := by omega
                  obtain ⟨M9, s1, g1, g2, g3, g4, g5⟩ := OSl.freezeK (f := oneI .i64) (H := H) (l := (List.range (min rn l_l.length)).map fun k => (((o9 + k) % l_l.length : Nat) : Int)) (ho) (hw.cnt (by intro zz; first | exact Nat.le_refl _ | (simp only [Zh, Zf, Zi, cat, List.append_eq, List.append_assoc, List.cons_append, List.nil_append, List.append_nil]; omega) | (simp only [Zh, Zf, Zi, cat, List.append_eq, List.append_assoc, List.cons_append, List.nil_append, List.append_nil, PeerV.segs]; omega)))
                  refine ⟨_, M9, rfl, g1, g2, ?_⟩
                  rw [show copiesR l_l x ((rn : Nat) : Int) = _ from copiesR_yes hc (by omega) (by omega)]
                  simp only [hog]
                  exact ⟨s1, by rw [← g3]; rfl, g4, g5⟩
theorem Ints_ok (M : Mem) (a : (Sl Int)) (b : (Sl Int)) (ha0 : SlK M (oneI .i64) 1 a) (hb1 : SlK M (oneI .i64) 1 b) : Fs Tryd.prog 23 [Sl.val a, Sl.val b] M (fun v => v = Value.bool (decide (a.l = b.l))) := by
  obtain ⟨a_a, a_c, a_l⟩ := a
  obtain ⟨b_a, b_c, b_l⟩ := b
  have k_a : SlK M (oneI .i64) 1 ⟨a_a, a_c, a_l⟩ := ha0
  have s_a : SlM M a_a (a_l.map (oneI .i64)) 1 := k_a.h1
  have n_a : (a_l.map (oneI .i64)).length = a_l.length := List.length_map ..
  have m_a : a_l.length ≤ 9223372036854775807 := k_a.h2
  have c_a : a_l.length ≤ a_c := k_a.h3
  have k_b : SlK M (oneI .i64) 1 ⟨b_a, b_c, b_l⟩ := hb1
  have s_b : SlM M b_a (b_l.map (oneI .i64)) 1 := k_b.h1
  have n_b : (b_l.map (oneI .i64)).length = b_l.length := List.length_map ..
  have m_b : b_l.length ≤ 9223372036854775807 := k_b.h2
  have c_b : b_l.length ≤ b_c := k_b.h3
  refine Zbd Tryd.func23 rfl Tryd.ntmps23 rfl ?_; intro H
  refine Zk ?_; refine Za (l := [0]) rfl ?_; refine Zc rfl rfl rfl rfl ?_; refine Zg ?_; refine Ze ?_; refine Zk ?_; refine Zk ?_; refine Za (l := [0, 1, 2, 3, 4]) rfl ?_; refine Zd rfl rfl rfl rfl ?_; refine Zat rfl rfl rfl rfl F.elem22 rfl ?_; refine Zd rfl rfl rfl rfl ?_; refine Zat rfl rfl rfl rfl F.elem22 rfl ?_; refine Zaq rfl rfl rfl rfl rfl rfl ?_; refine Zg ?_; refine Ze ?_; refine Zl (.cons (k := 10) rfl (.cons (k := 4) rfl (.cons (k := 0) rfl (.cons (k := 1) rfl .nil)))) ?_
  refine Zai rfl (fun hc1 => ?_) (fun hc1 => ?_)
  · first | replace hc1 := dT hc1 | replace hc1 := dF hc1 | replace hc1 := nT hc1 | replace hc1 := nF hc1 | skip
    try simp only [PeerV.eta] at hc1
    first
    | (exfalso; omega)
    | (exfalso; simp [eqX] at hc1; done)
    | contradiction
    | skip
      refine Zk ?_; refine Za (l := [0]) rfl ?_; refine Zc rfl rfl rfl rfl ?_; refine Zg ?_; refine Ze ?_; refine Zl (.cons (k := 4) rfl (.cons (k := 0) rfl (.cons (k := 1) rfl .nil))) ?_; refine Zam ?_; refine Zar ?_
      refine Zal (.inr rfl) (.tmp rfl .nil) (fun w hw => ?_)
      refine ⟨_, rfl, (hw.cnt (by intro zz; first | exact Nat.le_refl _ | (simp only [Zh, Zf, Zi, cat, List.append_eq, List.append_assoc, List.cons_append, List.nil_append, List.append_nil]; omega) | (simp only [Zh, Zf, Zi, cat, List.append_eq, List.append_assoc, List.cons_append, List.nil_append, List.append_nil, PeerV.segs]; omega))), ?_⟩
      clear hw
      refine congrArg Value.bool ?_
      first | exact (decide_eq_false (fun h9 => by have := congrArg List.length h9; omega)).symm | exact (decide_eq_true (List.ext_getElem (by omega) (fun j h2 h3 => hI j h2 h3 (by omega)))).symm | exact (decide_eq_false (fun h9 => by subst h9; simp_all)).symm
  · first | replace hc1 := dT hc1 | replace hc1 := dF hc1 | replace hc1 := nT hc1 | replace hc1 := nF hc1 | skip
    try simp only [PeerV.eta] at hc1
    first
    | (exfalso; omega)
    | (exfalso; simp [eqX] at hc1; done)
    | contradiction
    | skip
      refine Zah ?_; refine Ze ?_; refine Zl (.cons (k := 4) rfl (.cons (k := 0) rfl (.cons (k := 1) rfl .nil))) ?_; refine Zk ?_; refine Zk ?_; refine Za (l := [0]) rfl ?_; refine Zc rfl rfl rfl rfl ?_; refine Zg ?_; refine Ze ?_; refine Zad ?_; refine Zl (.cons (k := 5) rfl (.cons (k := 4) rfl (.cons (k := 0) rfl (.cons (k := 1) rfl .nil)))) ?_; refine Zbz (.succ .zero) (fun (k : Nat) z => z = [(5, .int .i64 (k : Int))] ∧ k ≤ a_l.length ∧ (∀ j (h2 : j < a_l.length) (h3 : j < b_l.length), j < k → a_l[j] = b_l[j])) (fun k => a_l.length - k) (0) (⟨rfl, by omega, by (intro j h2 h3 hj; omega)⟩) ?_
      rintro k _ ⟨rfl, hk, hI⟩
      refine Zk ?_; refine Zk ?_; refine Za (l := [0, 1, 2, 3]) rfl ?_; refine Zd rfl rfl rfl rfl ?_; refine Zd rfl rfl rfl rfl ?_; refine Zat rfl rfl rfl rfl F.elem22 rfl ?_; refine Zaq rfl rfl rfl rfl rfl rfl ?_; refine Zg ?_; refine Ze ?_
      refine Zai rfl (fun hc2 => ?_) (fun hc2 => ?_)
      · first | replace hc2 := dT hc2 | replace hc2 := dF hc2 | replace hc2 := nT hc2 | replace hc2 := nF hc2 | skip
        try simp only [PeerV.eta] at hc2
        first
        | (exfalso; omega)
        | (exfalso; simp [eqX] at hc2; done)
        | contradiction
        | skip
          refine Zah ?_; refine Ze ?_; refine Zk ?_; refine Zad ?_; refine Zk ?_; refine Zaf (l := [0, 1, 2, 3, 4, 5, 6, 7, 8]) #[0, 0, 3, 7, 0, 0, 48, 112, 255] _ rfl (by kernel_rfl) (by kernel_rfl) St.drawn (fun _ h => h) ?_; refine Zd rfl rfl rfl rfl ?_; refine Zd rfl rfl rfl rfl ?_; refine Zab rfl rfl rfl rfl F.elem22 (by first | rfl | exact (Int.toNat_of_nonneg (by omega)).symm) (by first | omega | (simp; done) | (simp; omega)) (by first | exact ⟨_, _, rfl⟩ | assumption | exact SlM.plain (by assumption) (by first | (simp; done) | (simp; omega)) | exact RdS.plain (by assumption) (by first | (simp; done) | (simp; omega)) | exact OSl.plain (by assumption) (by first | (simp; done) | (simp; omega))) rfl ?_
          first | refine Zan rfl rfl rfl (by repeat first | exact List.Mem.head _ | refine List.Mem.tail _ ?_ | refine List.mem_append_right _ ?_) F.lay3 rfl rfl rfl ?_ | refine Zv rfl rfl rfl (by first | assumption | exact SlM.mono (by assumption) (by assumption)) (by first | exact Zb (by omega) | exact List.getElem?_eq_getElem (by omega) | exact rfl | exact Zb (by first | (simp; done) | (simp; omega))) F.lay3 rfl rfl rfl ?_ | refine Zu rfl rfl rfl (by assumption) (by first | exact Zb (by omega) | exact List.getElem?_eq_getElem (by omega) | exact rfl | exact Zb (by first | (simp; done) | (simp; omega))) F.lay3 rfl rfl rfl ?_ | refine Zs rfl rfl rfl (by first | assumption | exact Mem.get_of (by assumption) (by repeat first | assumption | refine Mem.le.trans (by assumption) ?_)) F.lay3 rfl rfl rfl ?_ | refine Zp rfl rfl rfl (by assumption) (by repeat first | exact Rem.here _ | exact Rem.two | apply Rem.skip | apply Rem.over) (by first | exact Zb (by omega) | exact List.getElem?_eq_getElem (by omega) | exact rfl | exact Zb (by first | (simp; done) | (simp; omega))) F.lay3 rfl rfl rfl ?_ | refine Zr rfl rfl rfl (by repeat first | exact List.Mem.head _ | refine List.Mem.tail _ ?_ | refine List.mem_append_right _ ?_) F.lay3 (by first | exact Zbw (by first | omega | decide) | exact Zbk (by first | omega | decide)) rfl ?_
          refine Zd rfl rfl rfl rfl ?_; refine Zd rfl rfl rfl rfl ?_; refine Zab rfl rfl rfl rfl F.elem22 (by first | rfl | exact (Int.toNat_of_nonneg (by omega)).symm) (by first | omega | (simp; done) | (simp; omega)) (by first | exact ⟨_, _, rfl⟩ | assumption | exact SlM.plain (by assumption) (by first | (simp; done) | (simp; omega)) | exact RdS.plain (by assumption) (by first | (simp; done) | (simp; omega)) | exact OSl.plain (by assumption) (by first | (simp; done) | (simp; omega))) rfl ?_
          first | refine Zan rfl rfl rfl (by repeat first | exact List.Mem.head _ | refine List.Mem.tail _ ?_ | refine List.mem_append_right _ ?_) F.lay3 rfl rfl rfl ?_ | refine Zv rfl rfl rfl (by first | assumption | exact SlM.mono (by assumption) (by assumption)) (by first | exact Zb (by omega) | exact List.getElem?_eq_getElem (by omega) | exact rfl | exact Zb (by first | (simp; done) | (simp; omega))) F.lay3 rfl rfl rfl ?_ | refine Zu rfl rfl rfl (by assumption) (by first | exact Zb (by omega) | exact List.getElem?_eq_getElem (by omega) | exact rfl | exact Zb (by first | (simp; done) | (simp; omega))) F.lay3 rfl rfl rfl ?_ | refine Zs rfl rfl rfl (by first | assumption | exact Mem.get_of (by assumption) (by repeat first | assumption | refine Mem.le.trans (by assumption) ?_)) F.lay3 rfl rfl rfl ?_ | refine Zp rfl rfl rfl (by assumption) (by repeat first | exact Rem.here _ | exact Rem.two | apply Rem.skip | apply Rem.over) (by first | exact Zb (by omega) | exact List.getElem?_eq_getElem (by omega) | exact rfl | exact Zb (by first | (simp; done) | (simp; omega))) F.lay3 rfl rfl rfl ?_ | refine Zr rfl rfl rfl (by repeat first | exact List.Mem.head _ | refine List.Mem.tail _ ?_ | refine List.mem_append_right _ ?_) F.lay3 (by first | exact Zbw (by first | omega | decide) | exact Zbk (by first | omega | decide)) rfl ?_
          refine Zaq rfl rfl rfl rfl rfl rfl ?_; refine Zg ?_; refine Ze ?_
          refine Zai rfl (fun hc3 => ?_) (fun hc3 => ?_)
          · first | replace hc3 := dT hc3 | replace hc3 := dF hc3 | replace hc3 := nT hc3 | replace hc3 := nF hc3 | skip
            try simp only [PeerV.eta] at hc3
            first
            | (exfalso; omega)
            | (exfalso; simp [eqX] at hc3; done)
            | contradiction
            | skip
              refine Zk ?_; refine Za (l := [0]) rfl ?_; refine Zc rfl rfl rfl rfl ?_; refine Zg ?_; refine Ze ?_; refine Zam ?_; refine Zbe ?_; refine Zar ?_; refine Zar ?_; refine Zbe ?_; refine Zar ?_
              refine Zal (.inr rfl) (.tmp rfl .nil) (fun w hw => ?_)
              refine ⟨_, rfl, (hw.cnt (by intro zz; first | exact Nat.le_refl _ | (simp only [Zh, Zf, Zi, cat, List.append_eq, List.append_assoc, List.cons_append, List.nil_append, List.append_nil]; omega) | (simp only [Zh, Zf, Zi, cat, List.append_eq, List.append_assoc, List.cons_append, List.nil_append, List.append_nil, PeerV.segs]; omega))), ?_⟩
              clear hw
              refine congrArg Value.bool ?_
              first | exact (decide_eq_false (fun h9 => by have := congrArg List.length h9; omega)).symm | exact (decide_eq_true (List.ext_getElem (by omega) (fun j h2 h3 => hI j h2 h3 (by omega)))).symm | exact (decide_eq_false (fun h9 => by subst h9; simp_all)).symm
          · first | replace hc3 := dT hc3 | replace hc3 := dF hc3 | replace hc3 := nT hc3 | replace hc3 := nF hc3 | skip
            try simp only [PeerV.eta] at hc3
            first
            | (exfalso; omega)
            | (exfalso; simp [eqX] at hc3; done)
            | contradiction
            | skip
              refine Zah ?_; refine Zbs ?_; refine Ze ?_; refine Za (l := [0, 1, 2]) rfl ?_; refine Zd rfl rfl rfl rfl ?_; refine Zav rfl rfl rfl rfl rfl (by first | exact Zaa (by decide) (by omega) | exact Zm (by decide) (by omega) | exact Zo (by decide) (by omega) | exact Zn (by decide) (by omega) | exact Zt _ | exact Zz _ | exact Zq _ | exact rfl) rfl ?_; refine Zc rfl rfl rfl rfl ?_; refine Zg ?_; refine Zbp (a' := [(5, _)]) (k + 1) (.cons (k := 5) rfl (.cons (k := 4) rfl (.cons (k := 0) rfl (.cons (k := 1) rfl (.nil))))) (fun w hw => by first | exact hw | exact hw.cnt (by intro zz; first | exact Nat.le_refl _ | (simp only [Zh, Zf, Zi, cat, List.append_eq, List.append_assoc, List.cons_append, List.nil_append, List.append_nil]; omega) | (simp only [Zh, Zf, Zi, cat, List.append_eq, List.append_assoc, List.cons_append, List.nil_append, List.append_nil, PeerV.segs]; omega))) ?_ ?_
              · refine ⟨rfl, by omega, ?_⟩
                (intro j h2 h3 hj; rcases Nat.lt_or_ge j k with h9 | h9; exact hI j h2 h3 h9; obtain rfl : j = k := (by omega); simp_all)
              · omega
      · first | replace hc2 := dT hc2 | replace hc2 := dF hc2 | replace hc2 := nT hc2 | replace hc2 := nF hc2 | skip
        try simp only [PeerV.eta] at hc2
        first
        | (exfalso; omega)
        | (exfalso; simp [eqX] at hc2; done)
        | contradiction
        | skip
          refine Zbl ?_; refine Zao ?_; refine Zao ?_; refine Zbx ?_; refine Ze ?_; refine Zl (.cons (k := 4) rfl .nil) ?_; refine Zk ?_; refine Za (l := [0]) rfl ?_; refine Zc rfl rfl rfl rfl ?_; refine Zg ?_; refine Ze ?_; refine Zam ?_
          refine Zal (.inr rfl) (.tmp rfl .nil) (fun w hw => ?_)
          refine ⟨_, rfl, (hw.cnt (by intro zz; first | exact Nat.le_refl _ | (simp only [Zh, Zf, Zi, cat, List.append_eq, List.append_assoc, List.cons_append, List.nil_append, List.append_nil]; omega) | (simp only [Zh, Zf, Zi, cat, List.append_eq, List.append_assoc, List.cons_append, List.nil_append, List.append_nil, PeerV.segs]; omega))), ?_⟩
          clear hw
          refine congrArg Value.bool ?_
          first | exact (decide_eq_false (fun h9 => by have := congrArg List.length h9; omega)).symm | exact (decide_eq_true (List.ext_getElem (by omega) (fun j h2 h3 => hI j h2 h3 (by omega)))).symm | exact (decide_eq_false (fun h9 => by subst h9; simp_all)).symm
theorem SameP_ok (M : Mem) (a : (Sl PeerV)) (b : (Sl PeerV)) (ha0 : SlK M PeerV.segs 21 a) (hb1 : SlK M PeerV.segs 21 b) : Fs Tryd.prog 7 [Sl.val a, Sl.val b] M (fun v => v = Value.bool (decide (a.l = b.l))) := by
  obtain ⟨a_a, a_c, a_l⟩ := a
  obtain ⟨b_a, b_c, b_l⟩ := b
  have k_a : SlK M PeerV.segs 21 ⟨a_a, a_c, a_l⟩ := ha0
  have s_a : SlM M a_a (a_l.map PeerV.segs) 21 := k_a.h1
  have n_a : (a_l.map PeerV.segs).length = a_l.length := List.length_map ..
  have m_a : a_l.length ≤ 9223372036854775807 := k_a.h2
  have c_a : a_l.length ≤ a_c := k_a.h3
  have k_b : SlK M PeerV.segs 21 ⟨b_a, b_c, b_l⟩ := hb1
  have s_b : SlM M b_a (b_l.map PeerV.segs) 21 := k_b.h1
  have n_b : (b_l.map PeerV.segs).length = b_l.length := List.length_map ..
  have m_b : b_l.length ≤ 9223372036854775807 := k_b.h2
  have c_b : b_l.length ≤ b_c := k_b.h3
  refine Zbd Tryd.func7 rfl Tryd.ntmps7 rfl ?_; intro H
  refine Zk ?_; refine Za (l := [0]) rfl ?_; refine Zc rfl rfl rfl rfl ?_; refine Zg ?_; refine Ze ?_; refine Zk ?_; refine Zk ?_; refine Za (l := [0, 1, 2, 3, 4]) rfl ?_; refine Zd rfl rfl rfl rfl ?_; refine Zat rfl rfl rfl rfl F.elem23 rfl ?_; refine Zd rfl rfl rfl rfl ?_; refine Zat rfl rfl rfl rfl F.elem23 rfl ?_; refine Zaq rfl rfl rfl rfl rfl rfl ?_; refine Zg ?_; refine Ze ?_; refine Zl (.cons (k := 10) rfl (.cons (k := 4) rfl (.cons (k := 0) rfl (.cons (k := 1) rfl .nil)))) ?_
  refine Zai rfl (fun hc1 => ?_) (fun hc1 => ?_)
  · first | replace hc1 := dT hc1 | replace hc1 := dF hc1 | replace hc1 := nT hc1 | replace hc1 := nF hc1 | skip
    try simp only [PeerV.eta] at hc1
    first
    | (exfalso; omega)
    | (exfalso; simp [eqX] at hc1; done)
    | contradiction
    | skip
      refine Zk ?_; refine Za (l := [0]) rfl ?_; refine Zc rfl rfl rfl rfl ?_; refine Zg ?_; refine Ze ?_; refine Zl (.cons (k := 4) rfl (.cons (k := 0) rfl (.cons (k := 1) rfl .nil))) ?_; refine Zam ?_; refine Zar ?_
      refine Zal (.inr rfl) (.tmp rfl .nil) (fun w hw => ?_)
      refine ⟨_, rfl, (hw.cnt (by intro zz; first | exact Nat.le_refl _ | (simp only [Zh, Zf, Zi, cat, List.append_eq, List.append_assoc, List.cons_append, List.nil_append, List.append_nil]; omega) | (simp only [Zh, Zf, Zi, cat, List.append_eq, List.append_assoc, List.cons_append, List.nil_append, List.append_nil, PeerV.segs]; omega))), ?_⟩
      clear hw
      refine congrArg Value.bool ?_
      first | exact (decide_eq_false (fun h9 => by have := congrArg List.length h9; omega)).symm | exact (decide_eq_true (List.ext_getElem (by omega) (fun j h2 h3 => hI j h2 h3 (by omega)))).symm | exact (decide_eq_false (fun h9 => by subst h9; simp_all)).symm
  · first | replace hc1 := dT hc1 | replace hc1 := dF hc1 | replace hc1 := nT hc1 | replace hc1 := nF hc1 | skip
    try simp only [PeerV.eta] at hc1
    first
    | (exfalso; omega)
    | (exfalso; simp [eqX] at hc1; done)
    | contradiction
    | skip
      refine Zah ?_; refine Ze ?_; refine Zl (.cons (k := 4) rfl (.cons (k := 0) rfl (.cons (k := 1) rfl .nil))) ?_; refine Zk ?_; refine Zk ?_; refine Za (l := [0]) rfl ?_; refine Zc rfl rfl rfl rfl ?_; refine Zg ?_; refine Ze ?_; refine Zad ?_; refine Zl (.cons (k := 5) rfl (.cons (k := 4) rfl (.cons (k := 0) rfl (.cons (k := 1) rfl .nil)))) ?_; refine Zbz (.succ .zero) (fun (k : Nat) z => z = [(5, .int .i64 (k : Int))] ∧ k ≤ a_l.length ∧ (∀ j (h2 : j < a_l.length) (h3 : j < b_l.length), j < k → a_l[j] = b_l[j])) (fun k => a_l.length - k) (0) (⟨rfl, by omega, by (intro j h2 h3 hj; omega)⟩) ?_
      rintro k _ ⟨rfl, hk, hI⟩
      refine Zk ?_; refine Zk ?_; refine Za (l := [0, 1, 2, 3]) rfl ?_; refine Zd rfl rfl rfl rfl ?_; refine Zd rfl rfl rfl rfl ?_; refine Zat rfl rfl rfl rfl F.elem23 rfl ?_; refine Zaq rfl rfl rfl rfl rfl rfl ?_; refine Zg ?_; refine Ze ?_
      refine Zai rfl (fun hc2 => ?_) (fun hc2 => ?_)
      · first | replace hc2 := dT hc2 | replace hc2 := dF hc2 | replace hc2 := nT hc2 | replace hc2 := nF hc2 | skip
        try simp only [PeerV.eta] at hc2
        first
        | (exfalso; omega)
        | (exfalso; simp [eqX] at hc2; done)
        | contradiction
        | skip
          refine Zah ?_; refine Ze ?_; refine Zk ?_; refine Zad ?_; refine Zk ?_; refine Zaf (l := [0, 1, 2, 3, 4, 5, 6, 7, 8]) #[0, 0, 3, 7, 0, 0, 48, 112, 255] _ rfl (by kernel_rfl) (by kernel_rfl) St.drawn (fun _ h => h) ?_; refine Zd rfl rfl rfl rfl ?_; refine Zd rfl rfl rfl rfl ?_; refine Zab rfl rfl rfl rfl F.elem23 (by first | rfl | exact (Int.toNat_of_nonneg (by omega)).symm) (by first | omega | (simp; done) | (simp; omega)) (by first | exact ⟨_, _, rfl⟩ | assumption | exact SlM.plain (by assumption) (by first | (simp; done) | (simp; omega)) | exact RdS.plain (by assumption) (by first | (simp; done) | (simp; omega)) | exact OSl.plain (by assumption) (by first | (simp; done) | (simp; omega))) rfl ?_
          first | refine Zan rfl rfl rfl (by repeat first | exact List.Mem.head _ | refine List.Mem.tail _ ?_ | refine List.mem_append_right _ ?_) F.lay39 rfl rfl rfl ?_ | refine Zv rfl rfl rfl (by first | assumption | exact SlM.mono (by assumption) (by assumption)) (by first | exact Zb (by omega) | exact List.getElem?_eq_getElem (by omega) | exact rfl | exact Zb (by first | (simp; done) | (simp; omega))) F.lay39 rfl rfl rfl ?_ | refine Zu rfl rfl rfl (by assumption) (by first | exact Zb (by omega) | exact List.getElem?_eq_getElem (by omega) | exact rfl | exact Zb (by first | (simp; done) | (simp; omega))) F.lay39 rfl rfl rfl ?_ | refine Zs rfl rfl rfl (by first | assumption | exact Mem.get_of (by assumption) (by repeat first | assumption | refine Mem.le.trans (by assumption) ?_)) F.lay39 rfl rfl rfl ?_ | refine Zp rfl rfl rfl (by assumption) (by repeat first | exact Rem.here _ | exact Rem.two | apply Rem.skip | apply Rem.over) (by first | exact Zb (by omega) | exact List.getElem?_eq_getElem (by omega) | exact rfl | exact Zb (by first | (simp; done) | (simp; omega))) F.lay39 rfl rfl rfl ?_
          refine Zd rfl rfl rfl rfl ?_; refine Zd rfl rfl rfl rfl ?_; refine Zab rfl rfl rfl rfl F.elem23 (by first | rfl | exact (Int.toNat_of_nonneg (by omega)).symm) (by first | omega | (simp; done) | (simp; omega)) (by first | exact ⟨_, _, rfl⟩ | assumption | exact SlM.plain (by assumption) (by first | (simp; done) | (simp; omega)) | exact RdS.plain (by assumption) (by first | (simp; done) | (simp; omega)) | exact OSl.plain (by assumption) (by first | (simp; done) | (simp; omega))) rfl ?_
          first | refine Zan rfl rfl rfl (by repeat first | exact List.Mem.head _ | refine List.Mem.tail _ ?_ | refine List.mem_append_right _ ?_) F.lay39 rfl rfl rfl ?_ | refine Zv rfl rfl rfl (by first | assumption | exact SlM.mono (by assumption) (by assumption)) (by first | exact Zb (by omega) | exact List.getElem?_eq_getElem (by omega) | exact rfl | exact Zb (by first | (simp; done) | (simp; omega))) F.lay39 rfl rfl rfl ?_ | refine Zu rfl rfl rfl (by assumption) (by first | exact Zb (by omega) | exact List.getElem?_eq_getElem (by omega) | exact rfl | exact Zb (by first | (simp; done) | (simp; omega))) F.lay39 rfl rfl rfl ?_ | refine Zs rfl rfl rfl (by first | assumption | exact Mem.get_of (by assumption) (by repeat first | assumption | refine Mem.le.trans (by assumption) ?_)) F.lay39 rfl rfl rfl ?_ | refine Zp rfl rfl rfl (by assumption) (by repeat first | exact Rem.here _ | exact Rem.two | apply Rem.skip | apply Rem.over) (by first | exact Zb (by omega) | exact List.getElem?_eq_getElem (by omega) | exact rfl | exact Zb (by first | (simp; done) | (simp; omega))) F.lay39 rfl rfl rfl ?_
          refine X_same (m := 20) rfl rfl rfl rfl rfl (by constructor) (by constructor) F.lay39 F.kinds39 rfl F.guard39 (by first | exact FitPeerV _ | exact FitPeerV (⟨_, _⟩) | (repeat first | exact trivial | exact rfl | refine And.intro ?_ ?_ | refine idFits _ ?_)) (by first | exact FitPeerV _ | exact FitPeerV (⟨_, _⟩) | (repeat first | exact trivial | exact rfl | refine And.intro ?_ ?_ | refine idFits _ ?_)) rfl rfl rfl ?_; intro c3 he4
          replace he4 : c3 = true ↔ ¬ (Segs.cells _ = Segs.cells _) := he4
          obtain rfl := neD he4 (PeerV.inj (x := ⟨_, _⟩) (y := ⟨_, _⟩)); clear he4
          refine Zg ?_; refine Ze ?_
          refine Zai rfl (fun hc5 => ?_) (fun hc5 => ?_)
          · first | replace hc5 := dT hc5 | replace hc5 := dF hc5 | replace hc5 := nT hc5 | replace hc5 := nF hc5 | skip
            try simp only [PeerV.eta] at hc5
            first
            | (exfalso; omega)
            | (exfalso; simp [eqX] at hc5; done)
            | contradiction
            | skip
              refine Zk ?_; refine Za (l := [0]) rfl ?_; refine Zc rfl rfl rfl rfl ?_; refine Zg ?_; refine Ze ?_; refine Zam ?_; refine Zbe ?_; refine Zar ?_; refine Zar ?_; refine Zbe ?_; refine Zar ?_
              refine Zal (.inr rfl) (.tmp rfl .nil) (fun w hw => ?_)
              refine ⟨_, rfl, (hw.cnt (by intro zz; first | exact Nat.le_refl _ | (simp only [Zh, Zf, Zi, cat, List.append_eq, List.append_assoc, List.cons_append, List.nil_append, List.append_nil]; omega) | (simp only [Zh, Zf, Zi, cat, List.append_eq, List.append_assoc, List.cons_append, List.nil_append, List.append_nil, PeerV.segs]; omega))), ?_⟩
              clear hw
              refine congrArg Value.bool ?_
              first | exact (decide_eq_false (fun h9 => by have := congrArg List.length h9; omega)).symm | exact (decide_eq_true (List.ext_getElem (by omega) (fun j h2 h3 => hI j h2 h3 (by omega)))).symm | exact (decide_eq_false (fun h9 => by subst h9; simp_all)).symm
          · first | replace hc5 := dT hc5 | replace hc5 := dF hc5 | replace hc5 := nT hc5 | replace hc5 := nF hc5 | skip
            try simp only [PeerV.eta] at hc5
            first
            | (exfalso; omega)
            | (exfalso; simp [eqX] at hc5; done)
            | contradiction
            | skip
              refine Zah ?_; refine Zbs ?_; refine Ze ?_; refine Za (l := [0, 1, 2]) rfl ?_; refine Zd rfl rfl rfl rfl ?_; refine Zav rfl rfl rfl rfl rfl (by first | exact Zaa (by decide) (by omega) | exact Zm (by decide) (by omega) | exact Zo (by decide) (by omega) | exact Zn (by decide) (by omega) | exact Zt _ | exact Zz _ | exact Zq _ | exact rfl) rfl ?_; refine Zc rfl rfl rfl rfl ?_; refine Zg ?_; refine Zbp (a' := [(5, _)]) (k + 1) (.cons (k := 5) rfl (.cons (k := 4) rfl (.cons (k := 0) rfl (.cons (k := 1) rfl (.nil))))) (fun w hw => by first | exact hw | exact hw.cnt (by intro zz; first | exact Nat.le_refl _ | (simp only [Zh, Zf, Zi, cat, List.append_eq, List.append_assoc, List.cons_append, List.nil_append, List.append_nil]; omega) | (simp only [Zh, Zf, Zi, cat, List.append_eq, List.append_assoc, List.cons_append, List.nil_append, List.append_nil, PeerV.segs]; omega))) ?_ ?_
              · refine ⟨rfl, by omega, ?_⟩
                (intro j h2 h3 hj; rcases Nat.lt_or_ge j k with h9 | h9; exact hI j h2 h3 h9; obtain rfl : j = k := (by omega); simp_all)
              · omega
      · first | replace hc2 := dT hc2 | replace hc2 := dF hc2 | replace hc2 := nT hc2 | replace hc2 := nF hc2 | skip
        try simp only [PeerV.eta] at hc2
        first
        | (exfalso; omega)
        | (exfalso; simp [eqX] at hc2; done)
        | contradiction
        | skip
          refine Zbl ?_; refine Zao ?_; refine Zao ?_; refine Zbx ?_; refine Ze ?_; refine Zl (.cons (k := 4) rfl .nil) ?_; refine Zk ?_; refine Za (l := [0]) rfl ?_; refine Zc rfl rfl rfl rfl ?_; refine Zg ?_; refine Ze ?_; refine Zam ?_
          refine Zal (.inr rfl) (.tmp rfl .nil) (fun w hw => ?_)
          refine ⟨_, rfl, (hw.cnt (by intro zz; first | exact Nat.le_refl _ | (simp only [Zh, Zf, Zi, cat, List.append_eq, List.append_assoc, List.cons_append, List.nil_append, List.append_nil]; omega) | (simp only [Zh, Zf, Zi, cat, List.append_eq, List.append_assoc, List.cons_append, List.nil_append, List.append_nil, PeerV.segs]; omega))), ?_⟩
          clear hw
          refine congrArg Value.bool ?_
          first | exact (decide_eq_false (fun h9 => by have := congrArg List.length h9; omega)).symm | exact (decide_eq_true (List.ext_getElem (by omega) (fun j h2 h3 => hI j h2 h3 (by omega)))).symm | exact (decide_eq_false (fun h9 => by subst h9; simp_all)).symm
end Go.Proofs.YtpfdblknaihidaaDoor
namespace Go.Esp
def rotl (v n : Nat) : Nat := (v <<< n ||| v >>> (32 - n)) % 4294967296
def add32 (a b : Nat) : Nat := (a + b) % 4294967296
def word4 (a b c d : Nat) : Nat := ((a * 256 + b) * 256 + c) * 256 + d
def words16 : List Nat → List Nat → List Nat
  | a :: b :: c :: d :: r, acc => words16 r (word4 a b c d :: acc)
  | _, acc => acc
def wordsMore : Nat → List Nat → List Nat
  | 0, w => w
  | n + 1, w => match w with
    | _ :: _ :: x3 :: _ :: _ :: _ :: _ :: x8 :: _ :: _ :: _ :: _ :: _ :: x14 :: _ :: x16 :: _ => wordsMore n (rotl (x3 ^^^ x8 ^^^ x14 ^^^ x16) 1 :: w)
    | _ => w
structure St5 where
  a : Nat
  b : Nat
  c : Nat
  d : Nat
  e : Nat
  deriving DecidableEq
def mixN (t b c d : Nat) : Nat :=
  if t < 20 then (b &&& c) ||| ((4294967295 ^^^ b) &&& d) else if t < 40 then b ^^^ c ^^^ d else if t < 60 then (b &&& c) ||| (b &&& d) ||| (c &&& d) else b ^^^ c ^^^ d
def addN (t : Nat) : Nat := if t < 20 then 0x5a827999 else if t < 40 then 0x6ed9eba1 else if t < 60 then 0x8f1bbcdc else 0xca62c1d6
def roundN (t : Nat) (s : St5) (w : Nat) : St5 := ⟨(rotl s.a 5 + mixN t s.b s.c s.d + s.e + addN t + w) % 4294967296, s.a, rotl s.b 30, s.c, s.d⟩
def roundsN : Nat → List Nat → St5 → St5
  | _, [], s => s
  | t, w :: ws, s => roundsN (t + 1) ws (roundN t s w)
def stepN (h : St5) (block : List Nat) : St5 :=
  let s := roundsN 0 (wordsMore 64 (words16 block [])).reverse h
  ⟨add32 h.a s.a, add32 h.b s.b, add32 h.c s.c, add32 h.d s.d, add32 h.e s.e⟩
def start5 : St5 := ⟨0x67452301, 0xefcdab89, 0x98badcfe, 0x10325476, 0xc3d2e1f0⟩
def blocksN : Nat → List Nat → St5 → St5
  | 0, _, h => h
  | n + 1, l, h => match l with
    | [] => h
    | _ => blocksN n (l.drop 64) (stepN h (l.take 64))
def padN (s : List Nat) : List Nat :=
  s ++ 128 :: (List.replicate ((119 - s.length % 64) % 64) 0 ++ (List.range 8).map fun i => (8 * s.length) / 256 ^ (7 - i) % 256)
def sumN (s : List Nat) : Nat :=
  let h := blocksN (s.length / 64 + 2) (padN s) start5
  (((h.a * 4294967296 + h.b) * 4294967296 + h.c) * 4294967296 + h.d) * 4294967296 + h.e
def digitsN (n : Nat) : List Nat := if n < 10 then [48 + n] else if n < 100 then [48 + n / 10, 48 + n % 10] else [48 + n / 100, 48 + n / 10 % 10, 48 + n % 10]
def nodeN (n : Nat) : Nat := sumN (110 :: 111 :: 100 :: 101 :: digitsN n)
theorem ofInt_nat {n a : Nat} : BitVec.ofInt n (a : Int) = BitVec.ofNat n a := by
  apply BitVec.eq_of_toInt_eq; simp
theorem u32_of {a : Nat} (h : a < 4294967296) : IntKind.wrap .u32 (a : Int) = (a : Int) := by
  rw [Zq]; unfold w32; omega
theorem or32 {a b : Nat} (ha : a < 4294967296) (hb : b < 4294967296) : bitsK .or .u32 (a : Int) (b : Int) = some ((a ||| b : Nat) : Int) := by
  have h := Nat.or_lt_two_pow (n := 32) (x := a) (y := b) (by simpa using ha) (by simpa using hb)
  show some (IntKind.wrap .u32 ((BitVec.ofInt 32 (a : Int) ||| BitVec.ofInt 32 (b : Int)).toNat : Int)) = _
  rw [ofInt_nat, ofInt_nat, BitVec.toNat_or, BitVec.toNat_ofNat, BitVec.toNat_ofNat, Nat.mod_eq_of_lt (by simpa using ha), Nat.mod_eq_of_lt (by simpa using hb), u32_of (by simpa using h)]
theorem and32 {a b : Nat} (ha : a < 4294967296) (hb : b < 4294967296) : bitsK .and .u32 (a : Int) (b : Int) = some ((a &&& b : Nat) : Int) := by
  have h := Nat.and_lt_two_pow (n := 32) a (y := b) (by simpa using hb)
  show some (IntKind.wrap .u32 ((BitVec.ofInt 32 (a : Int) &&& BitVec.ofInt 32 (b : Int)).toNat : Int)) = _
  rw [ofInt_nat, ofInt_nat, BitVec.toNat_and, BitVec.toNat_ofNat, BitVec.toNat_ofNat, Nat.mod_eq_of_lt (by simpa using ha), Nat.mod_eq_of_lt (by simpa using hb), u32_of (by simpa using h)]
theorem xor32 {a b : Nat} (ha : a < 4294967296) (hb : b < 4294967296) : bitsK .xor .u32 (a : Int) (b : Int) = some ((a ^^^ b : Nat) : Int) := by
  have h := Nat.xor_lt_two_pow (n := 32) (x := a) (y := b) (by simpa using ha) (by simpa using hb)
  show some (IntKind.wrap .u32 ((BitVec.ofInt 32 (a : Int) ^^^ BitVec.ofInt 32 (b : Int)).toNat : Int)) = _
  rw [ofInt_nat, ofInt_nat, BitVec.toNat_xor, BitVec.toNat_ofNat, BitVec.toNat_ofNat, Nat.mod_eq_of_lt (by simpa using ha), Nat.mod_eq_of_lt (by simpa using hb), u32_of (by simpa using h)]
theorem compl32 {a : Nat} (ha : a < 4294967296) : bitsK .xor .u32 (if IntKind.u32.signed then -1 else IntKind.u32.max) (a : Int) = some ((4294967295 ^^^ a : Nat) : Int) := by
  have : (if IntKind.u32.signed then (-1 : Int) else IntKind.u32.max) = ((4294967295 : Nat) : Int) := by decide
  rw [this]; exact xor32 (by decide) ha
theorem lt_or {a b : Nat} (ha : a < 4294967296) (hb : b < 4294967296) : a ||| b < 4294967296 := by
  have h := Nat.or_lt_two_pow (n := 32) (x := a) (y := b) (by simpa using ha) (by simpa using hb); simpa using h
theorem Zce {a b : Nat} (hb : b < 4294967296) : a &&& b < 4294967296 := by
  have h := Nat.and_lt_two_pow (n := 32) a (y := b) (by simpa using hb); simpa using h
theorem Zcb {a b : Nat} (ha : a < 4294967296) (hb : b < 4294967296) : a ^^^ b < 4294967296 := by
  have h := Nat.xor_lt_two_pow (n := 32) (x := a) (y := b) (by simpa using ha) (by simpa using hb); simpa using h
theorem rotl_lt (v n : Nat) : rotl v n < 4294967296 := Nat.mod_lt _ (by decide)
theorem rotl_is {v n : Nat} (hv : v < 4294967296) (hn : n ≤ 32) : (v * 2 ^ n % 4294967296) ||| (v / 2 ^ (32 - n)) = rotl v n := by
  unfold rotl
  rw [Nat.shiftLeft_eq, Nat.shiftRight_eq_div_pow, show (4294967296 : Nat) = 2 ^ 32 from rfl, Nat.or_mod_two_pow]
  congr 1
  refine (Nat.mod_eq_of_lt ?_).symm
  exact Nat.lt_of_le_of_lt (Nat.div_le_self _ _) (by simpa using hv)
theorem and31 {n : Nat} (h : n < 32) : bitsK .and .u64 (n : Int) 31 = some (n : Int) := by
  have : ∀ x : Fin 32, bitsK .and .u64 ((x.val : Nat) : Int) 31 = some ((x.val : Nat) : Int) := by decide +kernel
  exact this ⟨n, h⟩
theorem shl32 {v n : Nat} (hn : n ≤ 32) : shiftK .shl .u32 (v : Int) (n : Int) = some ((v * 2 ^ n % 4294967296 : Nat) : Int) := by
  simp only [shiftK, Int.toNat_natCast, IntKind.bits, Nat.min_eq_left hn, Zq]
  unfold w32
  rw [show ((v : Int) * 2 ^ n) = ((v * 2 ^ n : Nat) : Int) by simp]
  refine congrArg some ?_
  omega
theorem shr32 {v n : Nat} (hn : n ≤ 32) : shiftK .shr .u32 (v : Int) (n : Int) = some ((v / 2 ^ n : Nat) : Int) := by
  rw [shr_lit n (by simpa [IntKind.bits] using hn)]
  simp
end Go.Esp
namespace Go.Proofs.YtpfdblknaihidaaDoor
open Go.Esp
theorem Rotl_ok (M : Mem) (x : Nat) (n : Nat) (hv : x < 4294967296) (hn : n < 32) : Fs Tryd.prog 41 [.int .u32 ((x : Nat) : Int), .int .i64 (n : Int)] M (fun v => v = Value.int .u32 (((rotl x n : Nat) : Int))) := by
  refine Zbd Tryd.func41 rfl Tryd.ntmps41 rfl ?_; intro H
  refine Zk ?_; refine Za (l := [0]) rfl ?_; refine Zc rfl rfl rfl rfl ?_; refine Zg ?_; refine Ze ?_; refine Zk ?_; refine Za (l := [0, 1, 2, 3]) rfl ?_; refine Zd rfl rfl rfl rfl ?_; refine Zci rfl rfl rfl Tryd.underlying3 Tryd.underlying63 (by first | exact Zaa (by decide) (by omega) | exact Zm (by decide) (by omega) | exact Zo (by decide) (by omega) | exact Zn (by decide) (by omega) | exact Zt _ | exact Zz _ | exact Zq _ | exact rfl) rfl ?_; refine Zbn rfl rfl rfl rfl (and31 hn) rfl rfl ?_; refine Zc rfl rfl rfl rfl ?_; refine Zg ?_; refine Ze ?_; refine Zl (.cons (k := 5) rfl (.cons (k := 4) rfl (.cons (k := 0) rfl .nil))) ?_; refine Zk ?_; refine Za (l := [0, 1, 2, 3, 4, 5, 6, 7, 8]) rfl ?_; refine Zd rfl rfl rfl rfl ?_; refine Zd rfl rfl rfl rfl ?_; refine X_shift rfl rfl rfl rfl (by omega) (shl32 (n := n) (by omega)) rfl rfl ?_
  refine Zd rfl rfl rfl rfl ?_; refine Zd rfl rfl rfl rfl ?_; refine Zav rfl rfl rfl rfl rfl (by first | exact Zaa (by decide) (by omega) | exact Zm (by decide) (by omega) | exact Zo (by decide) (by omega) | exact Zn (by decide) (by omega) | exact Zt _ | exact Zz _ | exact Zq _ | exact rfl) rfl ?_
  rw [show (32 : Int) - (n : Int) = ((32 - n : Nat) : Int) by omega]
  refine X_shift rfl rfl rfl rfl (by omega) (shr32 (n := 32 - n) (by omega)) rfl rfl ?_; refine Zbn rfl rfl rfl rfl (or32 (Nat.mod_lt _ (by decide)) (Nat.lt_of_le_of_lt (Nat.div_le_self _ _) hv)) rfl rfl ?_; refine Zc rfl rfl rfl rfl ?_; refine Zg ?_; refine Ze ?_; refine Zl (.cons (k := 4) rfl .nil) ?_; refine Zam ?_
  refine Zal (.inr rfl) (.tmp rfl .nil) (fun w hw => ?_)
  refine ⟨_, rfl, (hw.cnt (by intro zz; first | exact Nat.le_refl _ | (simp only [Zh, Zf, Zi, cat, List.append_eq, List.append_assoc, List.cons_append, List.nil_append, List.append_nil]; omega) | (simp only [Zh, Zf, Zi, cat, List.append_eq, List.append_assoc, List.cons_append, List.nil_append, List.append_nil, PeerV.segs]; omega))), ?_⟩
  clear hw
  refine congrArg (fun x : Nat => Value.int .u32 (x : Int)) (rotl_is hv (by omega))
theorem choose_ok (M : Mem) (b : Nat) (c : Nat) (d : Nat) (hb : b < 4294967296) (hc : c < 4294967296) (hd : d < 4294967296) : Fs Tryd.prog 66 [.int .u32 ((b : Nat) : Int), .int .u32 ((c : Nat) : Int), .int .u32 ((d : Nat) : Int)] M (fun v => v = Value.int .u32 ((((b &&& c) ||| ((4294967295 ^^^ b) &&& d) : Nat) : Int))) := by
  refine Zbd Tryd.func66 rfl Tryd.ntmps66 rfl ?_; intro H
  refine Zk ?_; refine Za (l := [0]) rfl ?_; refine Zc rfl rfl rfl rfl ?_; refine Zg ?_; refine Ze ?_; refine Zk ?_; refine Za (l := [0, 1, 2, 3, 4, 5, 6, 7, 8]) rfl ?_; refine Zd rfl rfl rfl rfl ?_; refine Zd rfl rfl rfl rfl ?_; refine Zbn rfl rfl rfl rfl (and32 hb hc) rfl rfl ?_; refine Zd rfl rfl rfl rfl ?_; refine X_compl rfl rfl rfl (compl32 hb) rfl rfl ?_; refine Zd rfl rfl rfl rfl ?_; refine Zbn rfl rfl rfl rfl (and32 (Zcb (by decide) hb) hd) rfl rfl ?_; refine Zbn rfl rfl rfl rfl (or32 (Zce hc) (Zce hd)) rfl rfl ?_; refine Zc rfl rfl rfl rfl ?_; refine Zg ?_; refine Ze ?_; refine Zl (.cons (k := 6) rfl .nil) ?_; refine Zam ?_
  refine Zal (.inr rfl) (.tmp rfl .nil) (fun w hw => ?_)
  refine ⟨_, rfl, (hw.cnt (by intro zz; first | exact Nat.le_refl _ | (simp only [Zh, Zf, Zi, cat, List.append_eq, List.append_assoc, List.cons_append, List.nil_append, List.append_nil]; omega) | (simp only [Zh, Zf, Zi, cat, List.append_eq, List.append_assoc, List.cons_append, List.nil_append, List.append_nil, PeerV.segs]; omega))), ?_⟩
  clear hw
  rfl
theorem unlike_ok (M : Mem) (b : Nat) (c : Nat) (d : Nat) (hb : b < 4294967296) (hc : c < 4294967296) (hd : d < 4294967296) : Fs Tryd.prog 67 [.int .u32 ((b : Nat) : Int), .int .u32 ((c : Nat) : Int), .int .u32 ((d : Nat) : Int)] M (fun v => v = Value.int .u32 (((b ^^^ c ^^^ d : Nat) : Int))) := by
  refine Zbd Tryd.func67 rfl Tryd.ntmps67 rfl ?_; intro H
  refine Zk ?_; refine Za (l := [0]) rfl ?_; refine Zc rfl rfl rfl rfl ?_; refine Zg ?_; refine Ze ?_; refine Zk ?_; refine Za (l := [0, 1, 2, 3, 4, 5]) rfl ?_; refine Zd rfl rfl rfl rfl ?_; refine Zd rfl rfl rfl rfl ?_; refine Zbn rfl rfl rfl rfl (xor32 hb hc) rfl rfl ?_; refine Zd rfl rfl rfl rfl ?_; refine Zbn rfl rfl rfl rfl (xor32 (Zcb hb hc) hd) rfl rfl ?_; refine Zc rfl rfl rfl rfl ?_; refine Zg ?_; refine Ze ?_; refine Zl (.cons (k := 6) rfl .nil) ?_; refine Zam ?_
  refine Zal (.inr rfl) (.tmp rfl .nil) (fun w hw => ?_)
  refine ⟨_, rfl, (hw.cnt (by intro zz; first | exact Nat.le_refl _ | (simp only [Zh, Zf, Zi, cat, List.append_eq, List.append_assoc, List.cons_append, List.nil_append, List.append_nil]; omega) | (simp only [Zh, Zf, Zi, cat, List.append_eq, List.append_assoc, List.cons_append, List.nil_append, List.append_nil, PeerV.segs]; omega))), ?_⟩
  clear hw
  rfl
theorem most_ok (M : Mem) (b : Nat) (c : Nat) (d : Nat) (hb : b < 4294967296) (hc : c < 4294967296) (hd : d < 4294967296) : Fs Tryd.prog 68 [.int .u32 ((b : Nat) : Int), .int .u32 ((c : Nat) : Int), .int .u32 ((d : Nat) : Int)] M (fun v => v = Value.int .u32 ((((b &&& c) ||| (b &&& d) ||| (c &&& d) : Nat) : Int))) := by
  refine Zbd Tryd.func68 rfl Tryd.ntmps68 rfl ?_; intro H
  refine Zk ?_; refine Za (l := [0]) rfl ?_; refine Zc rfl rfl rfl rfl ?_; refine Zg ?_; refine Ze ?_; refine Zk ?_; refine Za (l := [0, 1, 2, 3, 4, 5, 6, 7, 8, 9, 10, 11]) rfl ?_; refine Zd rfl rfl rfl rfl ?_; refine Zd rfl rfl rfl rfl ?_; refine Zbn rfl rfl rfl rfl (and32 hb hc) rfl rfl ?_; refine Zd rfl rfl rfl rfl ?_; refine Zd rfl rfl rfl rfl ?_; refine Zbn rfl rfl rfl rfl (and32 hb hd) rfl rfl ?_; refine Zbn rfl rfl rfl rfl (or32 (Zce hc) (Zce hd)) rfl rfl ?_; refine Zd rfl rfl rfl rfl ?_; refine Zd rfl rfl rfl rfl ?_; refine Zbn rfl rfl rfl rfl (and32 hc hd) rfl rfl ?_; refine Zbn rfl rfl rfl rfl (or32 (lt_or (Zce hc) (Zce hd)) (Zce hd)) rfl rfl ?_; refine Zc rfl rfl rfl rfl ?_; refine Zg ?_; refine Ze ?_; refine Zl (.cons (k := 6) rfl .nil) ?_; refine Zam ?_
  refine Zal (.inr rfl) (.tmp rfl .nil) (fun w hw => ?_)
  refine ⟨_, rfl, (hw.cnt (by intro zz; first | exact Nat.le_refl _ | (simp only [Zh, Zf, Zi, cat, List.append_eq, List.append_assoc, List.cons_append, List.nil_append, List.append_nil]; omega) | (simp only [Zh, Zf, Zi, cat, List.append_eq, List.append_assoc, List.cons_append, List.nil_append, List.append_nil, PeerV.segs]; omega))), ?_⟩
  clear hw
  rfl
end Go.Proofs.YtpfdblknaihidaaDoor
namespace Go.Esp
section
variable {P : Program} {n : Sh} {ops : Array Oper} {Q : Exit → Act → World → Prop} {rest : List Nat} {M M' : Mem} {H H' H0 : Hp} {e : Env} {J S : World → Prop} {A : As} {i : Nat}
  {dst : Option Tmp} {d : Tmp} {op : Op} {ty : TypeId} {pos : String} {af : Array Edge} {gd : Option (Nat × Bool)}
theorem Zcl {t t' : TypeId} {x y : Operand} {a b c : ByteArray} (hi : ops[i]? = some ⟨some d, .binOp .add t x y t', ty, pos, af, gd⟩) (hg : want ops e gd = some true)
    (hx : ev e x = some (.string a)) (hy : ev e y = some (.string b)) (hn : a.size + b.size ≤ 9223372036854775807) (hc : a ++ b = c) (hd : Nat.ble (d + 1) n.sz = true)
    (hk : XD P n ops Q rest J A ((d, .string c) :: e)) : XD P n ops Q (i :: rest) J A e :=
  Zbq hi rfl hg (fun a' w ha => Zaw (by
    subst hc
    simp only [execOp, ha.ev hx, ha.ev hy]
    refine Zbr ?_
    have h9 : ¬ (((a.size + b.size : Nat) : Int) > IntKind.i64.max) := by
      rw [show IntKind.i64.max = (9223372036854775807 : Int) by decide]; omega
    rw [Sem.run_bind]
    simp only [eqGuard, binOp, Op.stringOp, if_neg h9]
    rfl)) (fun a ha => ha.put hd _) hk
theorem run_bounds {a' : Act} {w : World} {lo hi : Option Operand} {olo ohi : Option Nat} {l c : Nat} {isS : Bool} (ha : Sat n e a') (h1 : Bnd e lo olo) (h2 : Bnd e hi ohi) (hlc : l ≤ c) (hh : ohi.getD l ≤ c) (hl : olo.getD 0 ≤ ohi.getD l) :
    (Instr.sliceBounds isS l c (lo.map a'.eval) (hi.map a'.eval) none).run P w = .ok (olo.getD 0, ohi.getD l, c) w := by
  unfold Instr.sliceBounds
  simp only []
  rw [Zy (show (pure c : Sem Nat).run P w = .ok c w from rfl)]
  cases h2 with
  | none =>
    simp only [Option.map_none, Option.getD_none] at hh hl ⊢
    rw [Zy (show (pure l : Sem Nat).run P w = .ok l w from rfl)]
    cases h1 with
    | none => rfl
    | some hz hzk =>
      subst hzk
      simp only [Option.map_some, ha.ev hz, Option.getD_some] at hl ⊢
      rw [Zy (run_sliceBound hl)]; rfl
  | some hy hyk =>
    subst hyk
    simp only [Option.map_some, ha.ev hy, Option.getD_some] at hh hl ⊢
    rw [Zy (run_sliceBound hh)]
    cases h1 with
    | none => rfl
    | some hz hzk =>
      subst hzk
      simp only [Option.map_some, ha.ev hz, Option.getD_some] at hl ⊢
      rw [Zy (run_sliceBound hl)]; rfl
theorem X_slice_str {t : TypeId} {x : Operand} {lo hi : Option Operand} {olo ohi : Option Nat} {s c : ByteArray} (hi' : ops[i]? = some ⟨some d, .slice t x lo hi none, ty, pos, af, gd⟩) (hg : want ops e gd = some true)
    (hx : ev e x = some (.string s)) (h1 : Bnd e lo olo) (h2 : Bnd e hi ohi) (hu : P.underlying t = some .string) (hh : ohi.getD s.size ≤ s.size) (hl : olo.getD 0 ≤ ohi.getD s.size) (hc : s.extract (olo.getD 0) (ohi.getD s.size) = c) (hd : Nat.ble (d + 1) n.sz = true)
    (hk : XD P n ops Q rest J A ((d, .string c) :: e)) : XD P n ops Q (i :: rest) J A e :=
  Zbq hi' rfl hg (fun a' w ha => Zaw (by
    subst hc
    simp only [execOp]
    refine Zbr ?_
    unfold Instr.sliceAt
    rw [Zy (run_underlying' hu)]
    simp only [ha.ev hx]
    unfold Instr.slice
    rw [Zy (run_underlying' hu)]
    simp only [Option.map_none, Option.isSome_none, Bool.false_eq_true, if_false]
    have hb := run_bounds (P := P) (w := w) (isS := false) ha h1 h2 (Nat.le_refl s.size) hh hl
    rw [Zy hb]
    rfl)) (fun a ha => ha.put hd _) hk
theorem X_slice_arrB {t el b off len : Nat} {x : Operand} {lo hi : Option Operand} {olo ohi : Option Nat} {v : Value} (hi' : ops[i]? = some ⟨some d, .slice t x lo hi none, ty, pos, af, gd⟩) (hg : want ops e gd = some true)
    (hx : ev e x = some (.pointer (some ⟨b, off, none⟩))) (h1 : Bnd e lo olo) (h2 : Bnd e hi ohi) (ht : arOf P t = some (len, el)) (hh : ohi.getD len ≤ len) (hl : olo.getD 0 ≤ ohi.getD len)
    (hv : pieceV (some ⟨b, off, none⟩) 1 (olo.getD 0) (ohi.getD len) len = v) (hd : Nat.ble (d + 1) n.sz = true)
    (hK : XD P n ops Q rest J A ((d, v) :: e)) : XD P n ops Q (i :: rest) J A e :=
  Zbq hi' rfl hg (fun a' w ha => Zaw (by
    subst hv
    simp only [execOp, ha.ev hx]
    refine Zbr ?_
    obtain ⟨it, hu, hit, h9⟩ := arOf_spec ht
    unfold Instr.sliceAt
    rw [Zy (run_underlying' hu)]
    simp only [Option.map_none]
    have hb := run_bounds (P := P) (w := w) (isS := false) ha h1 h2 (Nat.le_refl len) hh hl
    rw [Zy (show (Instr.sureAddr (.pointer (some ⟨b, off, none⟩))).run P w = .ok ⟨b, off, none⟩ w from rfl), Zy hb, Zy (run_sizeOf' hit)]
    simp only [h9]
    unfold pieceV
    split <;> rfl)) (fun a ha => ha.put hd _) hK
def byteVs (s : ByteArray) : List Value := s.data.toList.map fun b => .int .u8 (b.toNat : Int)
theorem X_copyS {t t' E by_ : Nat} {x y : Operand} {s : ByteArray} {b m T : Nat} {r u : Segs} {ats : Array TypeId} (hi : ops[i]? = some ⟨some d, .call ⟨.builtin .copy, #[x, y], ats⟩, ty, pos, af, gd⟩) (hg : want ops e gd = some true)
    (hx : ev e x = some (.slice (some ⟨b, 0, Option.none⟩) m m)) (hy : ev e y = some (.string s)) (hat : ats = #[t, t']) (ht : slOf P t = some (E, 1, by_)) (hs : s.size = m)
    (hu : Upd b (rowO r T) (rowO u T) H H') (hr : (Segs.cells r).length = m) (hc : Segs.cells u = byteVs s) (hd : Nat.ble (d + 1) n.sz = true)
    (hk : XD P n ops Q rest (St M H') ⟨M, H'⟩ ((d, .int .i64 (m : Int)) :: e)) (hnw : n.wrs.contains i = false := by rfl) : XD P n ops Q (i :: rest) J ⟨M, H⟩ e := by
  subst hat
  refine X_mut hi rfl hg (fun a w ha hw => ?_) hnw
  obtain ⟨it, hun, hit, hsz, rfl⟩ := elemOf_spec ht
  have hb := hw.own _ _ hu.mem
  have hcl : (byteVs s).length = m := by
    unfold byteVs
    rw [List.length_map, Array.length_toList]; exact hs
  have hstore := run_storeCells_at P b 0 T (byteVs s) 0 (Segs.cells r).toArray w hb (by simp; omega) (fun v hv => by
    obtain ⟨b9, -, rfl⟩ := List.mem_map.1 hv; rfl)
  have e1 : (List.take 0 (Segs.cells r) ++ byteVs s ++ List.drop (0 + (byteVs s).length) (Segs.cells r)) = Segs.cells u := by
    rw [hc, List.take_zero, List.nil_append, Nat.zero_add, List.drop_eq_nil_of_le (by omega), List.append_nil]
  have hrun : (Builtin.copy_ #[t, t'] ty #[.slice (some ⟨b, 0, Option.none⟩) m m, .string s]).run P w = .ok (goInt m) (w.setRow b (Segs.cells u).toArray) := by
    have e9 : Nat.min s.size m = m := by rw [hs]; exact Nat.min_self m
    have e8 : ((s.extract 0 m).data.map fun b => Value.int .u8 (b.toNat : Int)).toList = byteVs s := by
      rw [← hs]; simp [byteVs]
    have h5 := hstore
    simp only [Nat.add_zero, List.append_assoc, Nat.zero_add] at h5
    simp [Builtin.copy_, run_underlying hun, Builtin.lenOf, Builtin.firstCells, sizeOf, typeInfo, hit, e9, hsz]
    have e7 : List.take m (List.map (fun b : UInt8 => Value.int .u8 (b.toNat : Int)) s.data.toList) = byteVs s := by
      show List.take m (byteVs s) = byteVs s
      exact List.take_of_length_le (by omega)
    rw [e7, h5]
    have e6 : List.take 0 (Segs.cells r) ++ (byteVs s ++ List.drop (byteVs s).length (Segs.cells r)) = Segs.cells u := by
      rw [← e1, Nat.zero_add, List.append_assoc]
    rw [e6]; rfl
  unfold Oper.does
  have : (execOp a.eval ⟨some d, .call ⟨.builtin .copy, #[x, y], #[t, t']⟩, ty, pos, af, gd⟩).run P w = .ok (.value (.int .i64 (m : Int))) (w.setRow b (Segs.cells u).toArray) := by
    simp only [execOp, resolve]
    simp only [invoke, builtin]
    have e1 : #[x, y].map a.eval = #[.slice (some ⟨b, 0, Option.none⟩) m m, .string s] := by simp [ha.ev hx, ha.ev hy]
    rw [e1]
    rw [Sem.run_bind]
    show (Result.ok _ w).andThen _ = _
    rw [Result.andThen_ok]
    exact Zbr hrun
  rw [this]
  exact ⟨⟨M, H'⟩, _, hw.upd hu (setRow_heap w b _ _ T _ hb) (fun c hc z hz => by rw [setRow_other w b c _ hc]; exact hz) (SameIO.refl _), ha.put hd _, hk⟩
theorem X_fsV {f : FuncId} {g : Operand} {xs : List Operand} {ats : Array TypeId} {vs : List Value} {R : Value → Prop} (hi : ops[i]? = some ⟨some d, .call ⟨.value g, xs.toArray, ats⟩, ty, pos, af, gd⟩) (hcl : clOf P (.call ⟨.value g, xs.toArray, ats⟩) = .eff) (hg : want ops e gd = some true)
    (hf : okFn P f = true) (hgv : ev e g = some (.func (.func f) #[] #[])) (hx : evs e xs = some vs) (hc : Fs P f vs M R) (hd : Nat.ble (d + 1) n.sz = true)
    (hk : ∀ v, R v → XD P n ops Q rest J ⟨M, H⟩ ((d, v) :: e)) : XD P n ops Q (i :: rest) J ⟨M, H⟩ e := by
  obtain ⟨fn, h1, h2, h3⟩ := okFn_spec hf
  refine X_eff hi hcl hg (fun a F w ha hw => does_callV (caps := []) h1 h2 h3 (ha.ev hgv) (by simpa using ha.evs hx) ?_)
  have := hc (F ++ H) w hw
  rw [List.append_nil]
  exact this.mono fun e' w' ⟨v, he, hs, hr⟩ => ⟨v, he, ⟨M, H⟩, _, hs, fun _ h => h, ha.put hd v, hk v hr⟩
def arOfN (P : Program) (t : TypeId) : Option (Nat × TypeId × Nat) := match P.underlying t with
  | some (.array k el) => match P.info? el with
    | some i => some (k, el, i.size)
    | none => none
  | _ => none
theorem arOfN_spec {t el k sz : Nat} (h : arOfN P t = some (k, el, sz)) : ∃ i, P.underlying t = some (.array k el) ∧ P.info? el = some i ∧ i.size = sz := by
  unfold arOfN at h
  split at h
  · rename_i k' el' hu
    split at h
    · rename_i i hi
      cases h
      exact ⟨i, hu, hi, rfl⟩
    · cases h
  · cases h
theorem X_indexAddr_arrN {t el b off len k sz : Nat} {x ix : Operand} {q : IntKind} {z : Int} (hi : ops[i]? = some ⟨some d, .indexAddr t x ix, ty, pos, af, gd⟩) (hg : want ops e gd = some true)
    (hx : ev e x = some (.pointer (some ⟨b, off, none⟩))) (hix : ev e ix = some (.int q z)) (ht : arOfN P t = some (len, el, sz)) (hz : z = (k : Int)) (hk : k < len) (hd : Nat.ble (d + 1) n.sz = true)
    (hK : XD P n ops Q rest J A ((d, .pointer (some ⟨b, off + k * sz, none⟩)) :: e)) : XD P n ops Q (i :: rest) J A e :=
  Zbq hi rfl hg (fun a' w hA => Zaw (by
    simp only [execOp, hA.ev hx, hA.ev hix]
    refine Zbr ?_
    obtain ⟨it, hu, hit, h1⟩ := arOfN_spec ht
    subst hz
    simp [Instr.indexAt, asIntOf, run_underlying hu, sizeOf, typeInfo, hit, hk, h1, Instr.sureAddr, Addr.add_lit])) (fun a ha => ha.put hd _) hK
def u8R (n : Nat) : Segs := [.one (.int .u8 (n : Int))]
theorem u8_cells : ∀ l : List Nat, rowsCells (l.map u8R) = (l.map fun n : Nat => (n : Int)).map (Value.int .u8)
  | [] => rfl
  | x :: l => by
    have := u8_cells l
    show (Value.int .u8 (x : Int)) :: rowsCells (l.map u8R) = _
    rw [this]; rfl
theorem X_convS {src dst' E by_ : Nat} {x : Operand} {u : Value} {l : List Nat} {s : ByteArray} {MJ : Mem} {HJ : Hp} (hi : ops[i]? = some ⟨some d, .convert src dst' x, ty, pos, af, gd⟩) (hg : want ops e gd = some true)
    (hx : ev e x = some u) (hsrc : Src MJ HJ 1 u (l.map u8R)) (ht : slOf P src = some (E, 1, by_)) (he : P.underlying E = some (.int .u8)) (hd' : P.underlying dst' = some .string) (hs : strOfNums (l.map fun n : Nat => (n : Int)) = s) (hd : Nat.ble (d + 1) n.sz = true)
    (hk : XD P n ops Q rest (St MJ HJ) A ((d, .string s) :: e)) : XD P n ops Q (i :: rest) (St MJ HJ) A e := by
  obtain ⟨it, hun, hit, hsz, rfl⟩ := elemOf_spec ht
  have hcl : clOf P (.convert src dst' x) = .read := by simp [clOf, hun, hd']
  obtain ⟨hln, h1, ad, c2, rfl, hsr⟩ := hsrc
  refine Zcf hi hcl hg (fun a w ha hw => Zaw ?_) (fun a ha => ha.put hd _) hk
  have hload := run_loadCells_list (P := P) w ad (rowsCells (l.map u8R)) (fun j v hj => hsr w hw j v hj)
  rw [u8_cells, List.length_map, List.length_map] at hload
  have hr : (convert src dst' (.slice (some ad) (l.map u8R).length c2)).run P w = .ok (.string s) w := by
    rw [run_convert_bytes_string w src dst' E _ _ c2 hun he hd', List.length_map, run_bytesToString w ad l.length c2 _ hload, foldl_push_bytes, ← hs]
    simp [strOfNums, ByteArray.empty, ByteArray.emptyWithCapacity]
    first | done | rfl
  simp only [execOp, ha.ev hx]
  exact Zbr hr
end
def natsOf (s : ByteArray) : List Nat := s.data.toList.map fun b => b.toNat
theorem Zas (s : ByteArray) : (natsOf s).length = s.size := by
  unfold natsOf; rw [List.length_map, Array.length_toList]; rfl
theorem natsOf_lt (s : ByteArray) : ∀ b ∈ natsOf s, b < 256 := fun b hb => by
  obtain ⟨u, -, rfl⟩ := List.mem_map.1 hb
  exact u.toNat_lt
theorem getD_lt {B : List Nat} (h : ∀ b ∈ B, b < 256) (j : Nat) : B.getD j 0 < 256 := by
  rw [List.getD_eq_getElem?_getD]
  cases hg : B[j]? with
  | none => simp
  | some v => exact h v (List.mem_of_getElem? hg)
theorem byteVs_nats (s : ByteArray) : byteVs s = (natsOf s).map fun n => .int .u8 (n : Int) := by
  unfold byteVs natsOf; rw [List.map_map]; rfl
theorem byteVec (s : ByteArray) {m : Nat} (hs : s.size = m) : ∃ bv : Vector Value m, bv.toList = byteVs s :=
  ⟨⟨(byteVs s).toArray, by rw [List.size_toArray, byteVs_nats, List.length_map, Zas, hs]⟩, rfl⟩
theorem byteCell {s : ByteArray} {m j : Nat} {bv : Vector Value m} (h : bv.toList = byteVs s) (hs : s.size = m) (hj : j < m) : (Segs.cells [.arr m bv])[j]? = some (.int .u8 (((natsOf s).getD j 0 : Nat) : Int)) := by
  rw [arr_cells, h, byteVs_nats, List.getElem?_map, List.getD_eq_getElem?_getD, List.getElem?_eq_getElem (by rw [Zas]; omega)]
  rfl
theorem pieceV_at {b off lo hi m : Nat} (h : lo < m) : pieceV (some ⟨b, off, none⟩) 1 lo hi m = .slice (some ⟨b, off + lo, none⟩) (hi - lo) (m - lo) := by
  unfold pieceV
  rw [if_neg (by omega)]
  simp [Addr.add_lit]
def u32R (n : Nat) : Segs := [.one (.int .u32 (n : Int))]
end Go.Esp
namespace Go.Esp
def wordsOf (B : List Nat) : List Nat := (wordsMore 64 (words16 B [])).reverse
def partW (V : List Nat) (t : Nat) : List Nat := V.take t ++ List.replicate (V.length - t) 0
theorem partW_len {V : List Nat} {t : Nat} (h : t ≤ V.length) : (partW V t).length = V.length := by unfold partW; simp; omega
theorem partW_get {V : List Nat} {t j : Nat} (hj : j < t) (h : t ≤ V.length) : (partW V t)[j]? = some (V[j]'(by omega)) := by
  unfold partW
  rw [List.getElem?_append_left (by simp; omega), List.getElem?_take_of_lt hj, List.getElem?_eq_getElem]
theorem partW_at {V : List Nat} {t : Nat} (h : t < V.length) : (partW V t)[t]? = some 0 := by
  unfold partW
  rw [List.getElem?_append_right (by simp; omega), List.getElem?_replicate, if_pos (by simp; omega)]
theorem partW_set {V : List Nat} {t : Nat} (h : t < V.length) : (partW V t).set t (V[t]) = partW V (t + 1) := by
  apply List.ext_getElem?
  intro j
  by_cases hj : j = t
  · subst hj
    rw [List.getElem?_set_self (by rw [partW_len (by omega)]; exact h), partW_get (by omega) (by omega)]
  · rw [List.getElem?_set_ne (by omega)]
    unfold partW
    rcases Nat.lt_or_ge j t with h1 | h1
    · rw [List.getElem?_append_left (by simp; omega), List.getElem?_append_left (by simp; omega), List.getElem?_take_of_lt h1, List.getElem?_take_of_lt (by omega)]
    · rw [List.getElem?_append_right (by simp; omega), List.getElem?_append_right (by simp; omega)]
      simp only [List.length_take, List.getElem?_replicate]
      rw [Nat.min_eq_left (by omega), Nat.min_eq_left (by omega)]
      by_cases h2 : j - t < V.length - t
      · rw [if_pos h2, if_pos (by omega)]
      · rw [if_neg h2, if_neg (by omega)]
theorem partW_set0 {V : List Nat} {t : Nat} (h : t < V.length) : (partW V t).set t 0 = partW V t := by
  apply List.ext_getElem?
  intro j
  by_cases hj : j = t
  · subst hj
    rw [List.getElem?_set_self (by rw [partW_len (by omega)]; exact h), partW_at h]
  · rw [List.getElem?_set_ne (by omega)]
theorem partW_zero {V : List Nat} : partW V 0 = List.replicate V.length 0 := by simp [partW]
theorem partW_all {V : List Nat} : partW V V.length = V := by simp [partW]
theorem wordsMore_step (n : Nat) (w : List Nat) (h : 16 ≤ w.length) : wordsMore (n + 1) w = wordsMore n (rotl (w.getD 2 0 ^^^ w.getD 7 0 ^^^ w.getD 13 0 ^^^ w.getD 15 0) 1 :: w) := by
  match w, h with
  | _ :: _ :: x3 :: _ :: _ :: _ :: _ :: x8 :: _ :: _ :: _ :: _ :: _ :: x14 :: _ :: x16 :: _, _ => rfl
theorem getD_rev {l : List Nat} {j : Nat} (h : j < l.length) : l.reverse.getD j 0 = l.getD (l.length - 1 - j) 0 := by
  simp only [List.getD_eq_getElem?_getD]
  rw [List.getElem?_reverse h]
theorem wordsMore_spec : ∀ (n : Nat) (w : List Nat), 16 ≤ w.length → (wordsMore n w).length = n + w.length ∧ (∀ t, t < w.length → (wordsMore n w).reverse.getD t 0 = w.reverse.getD t 0) ∧
    ∀ t, w.length ≤ t → t < n + w.length → (wordsMore n w).reverse.getD t 0 = rotl ((wordsMore n w).reverse.getD (t - 3) 0 ^^^ (wordsMore n w).reverse.getD (t - 8) 0 ^^^ (wordsMore n w).reverse.getD (t - 14) 0 ^^^ (wordsMore n w).reverse.getD (t - 16) 0) 1
  | 0, w, h => ⟨by simp [wordsMore], fun t _ => rfl, fun t h1 h2 => by omega⟩
  | n + 1, w, h => by
    rw [wordsMore_step n w h]
    generalize hx : rotl (w.getD 2 0 ^^^ w.getD 7 0 ^^^ w.getD 13 0 ^^^ w.getD 15 0) 1 = x
    obtain ⟨h1, h2, h3⟩ := wordsMore_spec n (x :: w) (by simp; omega)
    simp only [List.length_cons] at h1 h2 h3
    have hw : ∀ t, t < w.length → (wordsMore n (x :: w)).reverse.getD t 0 = w.reverse.getD t 0 := fun t ht => by
      rw [h2 t (by omega)]
      simp only [List.reverse_cons, List.getD_eq_getElem?_getD]
      rw [List.getElem?_append_left (by simpa using ht)]
    refine ⟨by omega, hw, fun t ht ht2 => ?_⟩
    rcases Nat.lt_or_ge w.length t with h9 | h9
    · exact h3 t h9 (by omega)
    · obtain rfl : t = w.length := by omega
      have e3 := hw (w.length - 3) (by omega)
      have e8 := hw (w.length - 8) (by omega)
      have e14 := hw (w.length - 14) (by omega)
      have e16 := hw (w.length - 16) (by omega)
      rw [getD_rev (l := w) (by omega), show w.length - 1 - (w.length - 3) = 2 by omega] at e3
      rw [getD_rev (l := w) (by omega), show w.length - 1 - (w.length - 8) = 7 by omega] at e8
      rw [getD_rev (l := w) (by omega), show w.length - 1 - (w.length - 14) = 13 by omega] at e14
      rw [getD_rev (l := w) (by omega), show w.length - 1 - (w.length - 16) = 15 by omega] at e16
      rw [e3, e8, e14, e16, hx, h2 _ (by omega), getD_rev (by simp)]
      simp
theorem words16_spec : ∀ (B acc : List Nat), (words16 B acc).length = B.length / 4 + acc.length ∧ (∀ t, t < acc.length → (words16 B acc).reverse.getD t 0 = acc.reverse.getD t 0) ∧
    ∀ t, 4 * t + 3 < B.length → (words16 B acc).reverse.getD (acc.length + t) 0 = word4 (B.getD (4 * t) 0) (B.getD (4 * t + 1) 0) (B.getD (4 * t + 2) 0) (B.getD (4 * t + 3) 0)
  | a :: b :: c :: d :: r, acc => by
    obtain ⟨h1, h2, h3⟩ := words16_spec r (word4 a b c d :: acc)
    simp only [List.length_cons] at h1 h2 h3
    have e : words16 (a :: b :: c :: d :: r) acc = words16 r (word4 a b c d :: acc) := rfl
    rw [e]
    refine ⟨by simp only [List.length_cons]; omega, fun t ht => ?_, fun t ht => ?_⟩
    · rw [h2 t (by omega)]
      simp only [List.reverse_cons, List.getD_eq_getElem?_getD]
      rw [List.getElem?_append_left (by simpa using ht)]
    · simp only [List.length_cons] at ht
      rcases t with _ | t
      · rw [h2 _ (by omega)]
        simp only [List.reverse_cons, List.getD_eq_getElem?_getD]
        rw [List.getElem?_append_right (by simp)]
        simp
      · have := h3 t (by omega)
        rw [show acc.length + 1 + t = acc.length + (t + 1) by omega] at this
        rw [this]
        simp [List.getD_eq_getElem?_getD, show 4 * (t + 1) = 4 * t + 4 by omega]
  | [], acc => ⟨by simp [words16], fun t _ => rfl, fun t h => by simp only [List.length_nil] at h; omega⟩
  | [a], acc => ⟨by simp [words16], fun t _ => rfl, fun t h => by simp only [List.length_cons, List.length_nil] at h; omega⟩
  | [a, b], acc => ⟨by simp [words16], fun t _ => rfl, fun t h => by simp only [List.length_cons, List.length_nil] at h; omega⟩
  | [a, b, c], acc => ⟨by simp [words16], fun t _ => rfl, fun t h => by simp only [List.length_cons, List.length_nil] at h; omega⟩
structure IsWords (B V : List Nat) : Prop where
  len : V.length = 80
  lo : ∀ t, (h : t < 16) → V[t]'(by omega) = word4 (B.getD (4 * t) 0) (B.getD (4 * t + 1) 0) (B.getD (4 * t + 2) 0) (B.getD (4 * t + 3) 0)
  hi : ∀ t, (h : 16 ≤ t) → (h2 : t < 80) → V[t]'(by omega) = rotl (V[t - 3]'(by omega) ^^^ V[t - 8]'(by omega) ^^^ V[t - 14]'(by omega) ^^^ V[t - 16]'(by omega)) 1
theorem wordsOf_is {B : List Nat} (h : B.length = 64) : IsWords B (wordsOf B) := by
  obtain ⟨a1, a2, a3⟩ := words16_spec B []
  obtain ⟨b1, b2, b3⟩ := wordsMore_spec 64 (words16 B []) (by simp at a1; omega)
  have hl : (wordsOf B).length = 80 := by unfold wordsOf; rw [List.length_reverse, b1, a1, h]; rfl
  have g : ∀ j, (hj : j < 80) → (wordsOf B)[j]'(by omega) = (wordsOf B).getD j 0 := fun j hj => by
    rw [List.getD_eq_getElem?_getD, List.getElem?_eq_getElem (by omega)]; rfl
  refine ⟨hl, fun t ht => ?_, fun t h1 h2 => ?_⟩
  · rw [g t (by omega)]
    unfold wordsOf
    rw [b2 t (by simp at a1; omega)]
    have := a3 t (by omega)
    simpa using this
  · rw [g t h2, g (t - 3) (by omega), g (t - 8) (by omega), g (t - 14) (by omega), g (t - 16) (by omega)]
    exact b3 t (by simp at a1; omega) (by simp at a1; omega)
def bytesOf (B : List Nat) (t : Nat) : Nat → Nat
  | 0 => 0
  | k + 1 => bytesOf B t k * 256 + B.getD (4 * t + k) 0
theorem bytesOf_lt {B : List Nat} {t : Nat} (h : ∀ b ∈ B, b < 256) : ∀ k, bytesOf B t k < 256 ^ k
  | 0 => by simp [bytesOf]
  | k + 1 => by
    have := bytesOf_lt (t := t) h k
    have hb : B.getD (4 * t + k) 0 < 256 := by
      rw [List.getD_eq_getElem?_getD]
      cases hg : B[4 * t + k]? with
      | none => simp
      | some v => exact h v (List.mem_of_getElem? hg)
    unfold bytesOf
    rw [Nat.pow_succ]
    omega
theorem bytesOf_four (B : List Nat) (t : Nat) : bytesOf B t 4 = word4 (B.getD (4 * t) 0) (B.getD (4 * t + 1) 0) (B.getD (4 * t + 2) 0) (B.getD (4 * t + 3) 0) := by
  simp [bytesOf, word4]
theorem shl8_or {p c : Nat} (hp : p < 16777216) (hc : c < 256) : (p * 2 ^ 8 % 4294967296) ||| c = p * 256 + c := by
  rw [Nat.mod_eq_of_lt (by omega), ← Nat.shiftLeft_eq, ← Nat.shiftLeft_add_eq_or_of_lt (by simpa using hc), Nat.shiftLeft_eq]
theorem Zbc {B V : List Nat} (h : IsWords B V) (hB : ∀ b ∈ B, b < 256) (t : Nat) (ht : t < 80) : V[t]'(by have := h.len; omega) < 4294967296 := by
  rcases Nat.lt_or_ge t 16 with h1 | h1
  · rw [h.lo t h1, ← bytesOf_four]; exact bytesOf_lt hB 4
  · rw [h.hi t h1 ht]; exact rotl_lt _ _
def WordsE (M : Mem) (v : Value) (V : List Nat) : Prop := ∃ sl : Sl Nat, v = .tuple #[sl.val, .int .i64 0] ∧ sl.l = V ∧ SlK M u32R 1 sl
end Go.Esp
namespace Go.Proofs.YtpfdblknaihidaaDoor
open Go.Esp
theorem F.arr105 : arOf Tryd.prog 105 = some (64, 5) := by kernel_rfl
theorem F.elem67 : slOf Tryd.prog 67 = some (5, 1, 1) := by kernel_rfl
theorem F.elem70 : slOf Tryd.prog 70 = some (55, 1, 4) := by kernel_rfl
theorem F.lay55 : lay Tryd.prog 55 = some (false, 1) := by kernel_rfl
theorem F.ok41 : okFn Tryd.prog 41 = true := by kernel_rfl
theorem F.zero105 : zeroOf Tryd.prog 105 = some (aggV [.arr 64 (Vector.replicate 64 (.int .u8 0))]) := by kernel_rfl
theorem F.zero55 : zeroOf Tryd.prog 55 = some ((.int .u32 0)) := by kernel_rfl
theorem Words_ok (M : Mem) (s : ByteArray) (hs : s.size = 64) (V : List Nat) (hV : IsWords (natsOf s) V) : Esp.Fn Tryd.prog 39 [.string s] M (fun M' v => WordsE M' v V) := by
  have hl80 := hV.len
  have hB := natsOf_lt s
  obtain ⟨bv, hbv⟩ := byteVec s hs
  refine Zbv Tryd.func39 rfl Tryd.ntmps39 rfl ?_; intro H
  refine Zk ?_; refine Za (l := [0, 1]) rfl ?_; refine Zc rfl rfl rfl rfl ?_; refine Zc rfl rfl rfl rfl ?_; refine Zg ?_; refine Ze ?_; refine Zk ?_; refine Zk ?_; refine Za (l := [0, 1, 2]) rfl ?_; refine Zd rfl rfl rfl rfl ?_; refine X_len_str rfl rfl rfl rfl Tryd.underlying9 rfl ?_; refine Zaq rfl rfl rfl rfl rfl rfl ?_; refine Zg ?_; refine Ze ?_; refine Zl (.cons (k := 12) rfl (.cons (k := 3) rfl (.cons (k := 2) rfl (.cons (k := 0) rfl .nil)))) ?_
  refine Zai rfl (fun hc1 => ?_) (fun hc1 => ?_)
  · first | replace hc1 := dT hc1 | replace hc1 := dF hc1 | replace hc1 := nT hc1 | replace hc1 := nF hc1 | skip
    try simp only [PeerV.eta] at hc1
    first | (exfalso; omega) | (exfalso; simp [eqX] at hc1; done) | contradiction
  · first | replace hc1 := dT hc1 | replace hc1 := dF hc1 | replace hc1 := nT hc1 | replace hc1 := nF hc1 | skip
    try simp only [PeerV.eta] at hc1
    first
    | (exfalso; omega)
    | (exfalso; simp [eqX] at hc1; done)
    | contradiction
    | skip
      refine Zah ?_; refine Ze ?_; refine Zl (.cons (k := 3) rfl (.cons (k := 2) rfl (.cons (k := 0) rfl .nil))) ?_; refine Zk ?_; refine Za (l := [0]) rfl ?_
      refine Zbm rfl rfl F.zero105 (by constructor) rfl ?_; intro b2
      refine Zg ?_; refine Ze ?_; refine Zk ?_; refine Za (l := [0, 1, 2]) rfl ?_; refine X_slice_arr rfl rfl rfl F.arr105 rfl ?_; refine Zd rfl rfl rfl rfl ?_; refine X_copyS (s := s) (u := [.arr 64 bv]) rfl rfl rfl rfl rfl F.elem67 hs (by repeat first | exact Upd.head | apply Upd.tail | apply Upd.over) (by rw [arr_cells]; simp) ((arr_cells bv).trans hbv) rfl ?_; refine Zg ?_; refine Ze ?_; refine Zl (.cons (k := 4) rfl (.cons (k := 3) rfl (.cons (k := 2) rfl .nil))) ?_; refine Zk ?_; refine Za (l := [0, 1]) rfl ?_
      refine X_makeSliceO (k := 80) (zr := u32R 0) rfl rfl rfl rfl F.elem70 F.zero55 rfl rfl rfl (by decide) (by decide) rfl ?_; intro b2 hs1 ho1
      refine Zc rfl rfl rfl rfl ?_; refine Zg ?_; refine Ze ?_; refine Zl (.cons (k := 5) rfl (.cons (k := 4) rfl (.cons (k := 3) rfl (.cons (k := 2) rfl .nil)))) ?_; refine Zk ?_; refine Zk ?_; refine Za (l := [0]) rfl ?_; refine Zd rfl rfl rfl rfl ?_; refine Zg ?_; refine Ze ?_; refine Zad ?_; refine Zl (.cons (k := 17) rfl (.cons (k := 5) rfl (.cons (k := 4) rfl (.cons (k := 3) rfl (.cons (k := 2) rfl .nil))))) ?_; refine Zbu (Hin := hs1) (.succ .zero) (by repeat first | exact Rem.here _ | exact Rem.two | apply Rem.skip | apply Rem.over) (fun (k : Nat) M1 h1 z => M1 = M ∧ z = [(17, .int .i64 (k : Int))] ∧ k ≤ 16 ∧ OSl 55 1 (.slice (some ⟨b2, 0, none⟩) 80 80) h1 ((partW V (k)).map u32R)) (fun k => 16 - k) (0) (⟨rfl, rfl, by omega, by rw [partW_zero, hV.len, List.map_replicate]; exact ho1⟩) ?_
      rintro k M1 h1 z hm1 ⟨hM1, rfl, hk, ho⟩
      subst hM1
      refine Zk ?_; refine Za (l := [0]) rfl ?_; refine Zaq rfl rfl rfl rfl rfl rfl ?_; refine Zg ?_; refine Ze ?_; refine Zk ?_
      refine Zai rfl (fun hc3 => ?_) (fun hc3 => ?_)
      · first | replace hc3 := dT hc3 | replace hc3 := dF hc3 | replace hc3 := nT hc3 | replace hc3 := nF hc3 | skip
        try simp only [PeerV.eta] at hc3
        first
        | (exfalso; omega)
        | (exfalso; simp [eqX] at hc3; done)
        | contradiction
        | skip
          refine Zah ?_; refine Ze ?_; refine Zk ?_; refine Zad ?_; refine Zk ?_; refine Za (l := [0, 1]) rfl ?_; refine Zd rfl rfl rfl rfl ?_; refine Zc rfl rfl rfl rfl ?_; refine Zg ?_; refine Ze ?_; refine Zk ?_; refine Za (l := [0, 1, 2, 3, 4, 5]) rfl ?_; refine Zd rfl rfl rfl rfl ?_; refine Zav rfl rfl rfl rfl rfl (by first | exact Zaa (by decide) (by omega) | exact Zm (by decide) (by omega) | exact Zo (by decide) (by omega) | exact Zn (by decide) (by omega) | exact Zt _ | exact Zz _ | exact Zq _ | exact rfl) rfl ?_
          rw [show (4 : Int) * (k : Int) = ((4 * k : Nat) : Int) by omega]
          refine X_slice_arrB rfl rfl rfl (.some rfl rfl) .none F.arr105 (Nat.le_refl _) (by show 4 * k ≤ 64; omega) (show pieceV (some ⟨_, 0, none⟩) 1 (4 * k) 64 64 = .slice (some ⟨_, 4 * k, none⟩) (64 - 4 * k) (64 - 4 * k) from by rw [pieceV_at (by omega), Nat.zero_add]) rfl ?_; refine X_slice (olo := none) (ohi := some 4) (omx := none) rfl rfl rfl .none (.some rfl rfl) .none F.elem67 (Nat.le_refl _) (by show 4 ≤ 64 - 4 * k; omega) (Nat.zero_le _) (by intro h; cases h) (show pieceV (some ⟨_, 4 * k, none⟩) 1 0 4 (64 - 4 * k) = .slice (some ⟨_, 4 * k, none⟩) 4 (64 - 4 * k) from by rw [pieceV_at (by omega)]; rfl) rfl ?_; refine Zat rfl rfl rfl rfl F.elem67 rfl ?_; refine Zd rfl rfl rfl rfl ?_; refine Zg ?_; refine Ze ?_; refine Zad ?_; refine Zl (.cons (k := 25) rfl (.cons (k := 24) rfl (.cons (k := 23) rfl (.cons (k := 22) rfl (.cons (k := 21) rfl (.cons (k := 20) rfl (.cons (k := 6) rfl (.cons (k := 19) rfl (.cons (k := 18) rfl (.cons (k := 17) rfl (.cons (k := 5) rfl (.cons (k := 4) rfl (.cons (k := 3) rfl (.cons (k := 2) rfl .nil)))))))))))))) ?_
          refine Zbu (Hin := h1) (.succ .zero) (by repeat first | exact Rem.here _ | exact Rem.two | apply Rem.skip | apply Rem.over) (fun (q : Nat) M2 h2 z => M2 = M1 ∧ z = [(25, .int .i64 (q : Int))] ∧ q ≤ 4 ∧ OSl 55 1 (.slice (some ⟨b2, 0, none⟩) 80 80) h2 (((partW V k).set k (bytesOf (natsOf s) k (q))).map u32R)) (fun q => 4 - q) (0) (⟨rfl, rfl, by omega, by rw [show bytesOf (natsOf s) k 0 = 0 from rfl, partW_set0 (by omega)]; exact ho⟩) ?_
          rintro q M2 h2 z hm2 ⟨hM2, rfl, hq, hoq⟩
          subst hM2
          have hby := getD_lt hB (4 * k + q)
          refine Zk ?_; refine Za (l := [0]) rfl ?_; refine Zaq rfl rfl rfl rfl rfl rfl ?_; refine Zg ?_; refine Ze ?_; refine Zk ?_
          refine Zai rfl (fun hc4 => ?_) (fun hc4 => ?_)
          · first | replace hc4 := dT hc4 | replace hc4 := dF hc4 | replace hc4 := nT hc4 | replace hc4 := nF hc4 | skip
            try simp only [PeerV.eta] at hc4
            first
            | (exfalso; omega)
            | (exfalso; simp [eqX] at hc4; done)
            | contradiction
            | skip
              refine Zah ?_; refine Ze ?_; refine Zk ?_; refine Zad ?_; refine Zk ?_; refine Za (l := [0, 1, 2]) rfl ?_; refine Zab rfl rfl rfl rfl F.elem67 (by first | rfl | exact (Int.toNat_of_nonneg (by omega)).symm) (by first | omega | (simp; done) | (simp; omega)) (by first | exact ⟨_, _, rfl⟩ | assumption | exact SlM.plain (by assumption) (by first | (simp; done) | (simp; omega)) | exact RdS.plain (by assumption) (by first | (simp; done) | (simp; omega)) | exact OSl.plain (by assumption) (by first | (simp; done) | (simp; omega))) rfl ?_
              rw [eptr_some, show 4 * k + (q * 1 + 0) = 4 * k + q by omega]
              refine Zr rfl rfl rfl (by repeat first | exact List.Mem.head _ | refine List.Mem.tail _ ?_ | refine List.mem_append_right _ ?_) F.lay5 (byteCell hbv hs (by omega)) rfl ?_; refine Zc rfl rfl rfl rfl ?_; refine Zg ?_; refine Ze ?_; refine Za (l := [0, 1, 2, 3, 4, 5, 6, 7, 8, 9, 10, 11]) rfl ?_; refine Zd rfl rfl rfl rfl ?_; refine Zd rfl rfl rfl rfl ?_; refine Zd rfl rfl rfl rfl ?_; refine Zd rfl rfl rfl rfl ?_; refine Zab rfl rfl rfl rfl F.elem70 (by first | rfl | exact (Int.toNat_of_nonneg (by omega)).symm) (by first | omega | (simp; done) | (simp; omega)) (by first | exact ⟨_, _, rfl⟩ | assumption | exact SlM.plain (by assumption) (by first | (simp; done) | (simp; omega)) | exact RdS.plain (by assumption) (by first | (simp; done) | (simp; omega)) | exact OSl.plain (by assumption) (by first | (simp; done) | (simp; omega))) rfl ?_
              have hp : bytesOf (natsOf s) k q < 16777216 := Nat.lt_of_lt_of_le (bytesOf_lt hB q) (Nat.pow_le_pow_right (by decide) (show q ≤ 3 by omega))
              refine Zp rfl rfl rfl hoq (by repeat first | exact Rem.here _ | exact Rem.two | apply Rem.skip | apply Rem.over) (by rw [List.getElem?_map, List.getElem?_set_self (by rw [partW_len (by omega)]; omega)]; rfl) F.lay55 rfl rfl rfl ?_; refine X_shift rfl rfl rfl rfl (by decide) (shl32 (n := 8) (by omega)) rfl rfl ?_; refine Zd rfl rfl rfl rfl ?_; refine Zci rfl rfl rfl Tryd.underlying5 Tryd.underlying55 (by first | exact Zaa (by decide) (by omega) | exact Zm (by decide) (by omega) | exact Zo (by decide) (by omega) | exact Zn (by decide) (by omega) | exact Zt _ | exact Zz _ | exact Zq _ | exact rfl) rfl ?_; refine Zbn rfl rfl rfl rfl (or32 (Nat.mod_lt _ (by decide)) (by omega)) rfl rfl ?_
              rw [shl8_or hp hby]
              refine Zab rfl rfl rfl rfl F.elem70 (by first | rfl | exact (Int.toNat_of_nonneg (by omega)).symm) (by first | omega | (simp; done) | (simp; omega)) (by first | exact ⟨_, _, rfl⟩ | assumption | exact SlM.plain (by assumption) (by first | (simp; done) | (simp; omega)) | exact RdS.plain (by assumption) (by first | (simp; done) | (simp; omega)) | exact OSl.plain (by assumption) (by first | (simp; done) | (simp; omega))) rfl ?_
              refine X_storeO (b := b2) (j := k) rfl rfl rfl rfl (by constructor) (Zae rfl Zag) F.lay55 rfl rfl hoq (by repeat first | exact Rem.here _ | exact Rem.two | apply Rem.skip | apply Rem.over) (by rw [List.length_map]; first | (rw [partW_len (by omega)]; omega) | (rw [List.length_set, partW_len (by omega)]; omega)) ?_; intro hs2 ho2
              replace ho2 : OSl 55 1 (.slice (some ⟨b2, 0, none⟩) 80 80) hs2 (((partW V k).set k (bytesOf (natsOf s) k (q + 1))).map u32R) := by rw [show (((partW V k).set k (bytesOf (natsOf s) k (q + 1))).map u32R) = ((((partW V k).set k (bytesOf (natsOf s) k (q))).map u32R)).set k (u32R (bytesOf (natsOf s) k (q + 1))) by rw [← List.map_set, List.set_set]]; exact ho2.aZ (by simp [partW_len, hl80, show k ≤ 80 by omega])
              refine Zg ?_; refine Zbs ?_; refine Ze ?_; refine Za (l := [0, 1]) rfl ?_; refine Zav rfl rfl rfl rfl rfl (by first | exact Zaa (by decide) (by omega) | exact Zm (by decide) (by omega) | exact Zo (by decide) (by omega) | exact Zn (by decide) (by omega) | exact Zt _ | exact Zz _ | exact Zq _ | exact rfl) rfl ?_; refine Zd rfl rfl rfl rfl ?_; refine Zg ?_; refine Zbj (a' := [(25, _)]) (q + 1) (hs2) (.cons (k := 25) rfl (.cons (k := 24) rfl (.cons (k := 23) rfl (.cons (k := 22) rfl (.cons (k := 21) rfl (.cons (k := 20) rfl (.cons (k := 6) rfl (.cons (k := 19) rfl (.cons (k := 18) rfl (.cons (k := 17) rfl (.cons (k := 5) rfl (.cons (k := 4) rfl (.cons (k := 3) rfl (.cons (k := 2) rfl (.nil))))))))))))))) (by first | exact Mem.le.refl _ | assumption | (repeat first | assumption | refine Mem.le.trans (by assumption) ?_)) (fun w hw => by first | exact hw | exact hw.cnt (by intro zz; first | exact Nat.le_refl _ | (simp only [Zh, Zf, Zi, cat, List.append_eq, List.append_assoc, List.cons_append, List.nil_append, List.append_nil]; omega) | (simp only [Zh, Zf, Zi, cat, List.append_eq, List.append_assoc, List.cons_append, List.nil_append, List.append_nil, PeerV.segs]; omega))) ?_ ?_
              · exact ⟨rfl, rfl, by omega, ho2⟩
              · omega
          · first | replace hc4 := dT hc4 | replace hc4 := dF hc4 | replace hc4 := nT hc4 | replace hc4 := nF hc4 | skip
            try simp only [PeerV.eta] at hc4
            first
            | (exfalso; omega)
            | (exfalso; simp [eqX] at hc4; done)
            | contradiction
            | skip
              refine Zbl ?_; refine Zao ?_; refine Zao ?_; refine Zbx ?_; refine Zbs ?_; refine Ze ?_; refine Za (l := [0, 1]) rfl ?_; refine Zav rfl rfl rfl rfl rfl (by first | exact Zaa (by decide) (by omega) | exact Zm (by decide) (by omega) | exact Zo (by decide) (by omega) | exact Zn (by decide) (by omega) | exact Zt _ | exact Zz _ | exact Zq _ | exact rfl) rfl ?_; refine Zd rfl rfl rfl rfl ?_; refine Zg ?_; refine Zbj (a' := [(17, _)]) (k + 1) (h2) (.cons (k := 17) rfl (.cons (k := 5) rfl (.cons (k := 4) rfl (.cons (k := 3) rfl (.cons (k := 2) rfl (.nil)))))) (by first | exact Mem.le.refl _ | assumption | (repeat first | assumption | refine Mem.le.trans (by assumption) ?_)) (fun w hw => by first | exact hw | exact hw.cnt (by intro zz; first | exact Nat.le_refl _ | (simp only [Zh, Zf, Zi, cat, List.append_eq, List.append_assoc, List.cons_append, List.nil_append, List.append_nil]; omega) | (simp only [Zh, Zf, Zi, cat, List.append_eq, List.append_assoc, List.cons_append, List.nil_append, List.append_nil, PeerV.segs]; omega))) ?_ ?_
              · refine ⟨rfl, rfl, by omega, ?_⟩
                obtain rfl : q = 4 := by omega
                rw [bytesOf_four, ← hV.lo k (by omega), partW_set (by omega)] at hoq
                exact hoq
              · omega
      · first | replace hc3 := dT hc3 | replace hc3 := dF hc3 | replace hc3 := nT hc3 | replace hc3 := nF hc3 | skip
        try simp only [PeerV.eta] at hc3
        first
        | (exfalso; omega)
        | (exfalso; simp [eqX] at hc3; done)
        | contradiction
        | skip
          refine Zbl ?_; refine Zao ?_; refine Zao ?_; refine Zbx ?_; refine Ze ?_; refine Zl (.cons (k := 5) rfl (.cons (k := 3) rfl (.cons (k := 2) rfl .nil))) ?_; refine Zk ?_; refine Zk ?_; refine Za (l := [0]) rfl ?_
          obtain rfl : k = 16 := by omega
          refine Zc rfl rfl rfl rfl ?_; refine Zg ?_; refine Ze ?_; refine Zad ?_; refine Zl (.cons (k := 9) rfl (.cons (k := 5) rfl (.cons (k := 3) rfl (.cons (k := 2) rfl .nil)))) ?_; refine Zbu (Hin := h1) (.succ .zero) (by repeat first | exact Rem.here _ | exact Rem.two | apply Rem.skip | apply Rem.over) (fun (t : Nat) M3 h3 z => M3 = M1 ∧ z = [(9, .int .i64 (t : Int))] ∧ 16 ≤ t ∧ t ≤ 80 ∧ OSl 55 1 (.slice (some ⟨b2, 0, none⟩) 80 80) h3 ((partW V (t)).map u32R)) (fun t => 80 - t) (16) (⟨rfl, rfl, by omega, by omega, ho⟩) ?_
          rintro t M3 h3 z hm3 ⟨hM3, rfl, ht1, ht2, hot⟩
          subst hM3
          refine Zk ?_; refine Zk ?_; refine Za (l := [0, 1]) rfl ?_; refine Zd rfl rfl rfl rfl ?_; refine Zaq rfl rfl rfl rfl rfl rfl ?_; refine Zg ?_; refine Ze ?_
          refine Zai rfl (fun hc5 => ?_) (fun hc5 => ?_)
          · first | replace hc5 := dT hc5 | replace hc5 := dF hc5 | replace hc5 := nT hc5 | replace hc5 := nF hc5 | skip
            try simp only [PeerV.eta] at hc5
            first
            | (exfalso; omega)
            | (exfalso; simp [eqX] at hc5; done)
            | contradiction
            | skip
              refine Zah ?_; refine Ze ?_; refine Zk ?_; refine Zad ?_; refine Zaf (l := [0, 1, 2, 3, 4, 5, 6, 7, 8, 9, 10, 11, 12, 13, 14, 15, 16, 17, 18, 19, 20, 21, 22, 23, 24, 25, 26, 27]) #[0, 0, 0, 0, 8, 28, 60, 0, 0, 256, 896, 1920, 4092, 0, 0, 16384, 57344, 122880, 262140, 0, 0, 1048576, 3670016, 7864320, 16777212, 33554428, 67108863, 134217727] _ rfl (by kernel_rfl) (by kernel_rfl) St.drawn (fun _ h => h) ?_; refine Zd rfl rfl rfl rfl ?_; refine Zd rfl rfl rfl rfl ?_; refine Zd rfl rfl rfl rfl ?_; refine Zd rfl rfl rfl rfl ?_; refine Zav rfl rfl rfl rfl rfl (by first | exact Zaa (by decide) (by omega) | exact Zm (by decide) (by omega) | exact Zo (by decide) (by omega) | exact Zn (by decide) (by omega) | exact Zt _ | exact Zz _ | exact Zq _ | exact rfl) rfl ?_
              rw [show (t : Int) - 3 = ((t - 3 : Nat) : Int) by omega]
              refine Zab rfl rfl rfl rfl F.elem70 (by first | rfl | exact (Int.toNat_of_nonneg (by omega)).symm) (by first | omega | (simp; done) | (simp; omega)) (by first | exact ⟨_, _, rfl⟩ | assumption | exact SlM.plain (by assumption) (by first | (simp; done) | (simp; omega)) | exact RdS.plain (by assumption) (by first | (simp; done) | (simp; omega)) | exact OSl.plain (by assumption) (by first | (simp; done) | (simp; omega))) rfl ?_; refine Zp rfl rfl rfl hot (by repeat first | exact Rem.here _ | exact Rem.two | apply Rem.skip | apply Rem.over) (by rw [List.getElem?_map, partW_get (V := V) (t := t) (j := t - 3) (by omega) (by omega)]; rfl) F.lay55 rfl rfl rfl ?_; refine Zd rfl rfl rfl rfl ?_; refine Zd rfl rfl rfl rfl ?_; refine Zav rfl rfl rfl rfl rfl (by first | exact Zaa (by decide) (by omega) | exact Zm (by decide) (by omega) | exact Zo (by decide) (by omega) | exact Zn (by decide) (by omega) | exact Zt _ | exact Zz _ | exact Zq _ | exact rfl) rfl ?_
              rw [show (t : Int) - 8 = ((t - 8 : Nat) : Int) by omega]
              refine Zab rfl rfl rfl rfl F.elem70 (by first | rfl | exact (Int.toNat_of_nonneg (by omega)).symm) (by first | omega | (simp; done) | (simp; omega)) (by first | exact ⟨_, _, rfl⟩ | assumption | exact SlM.plain (by assumption) (by first | (simp; done) | (simp; omega)) | exact RdS.plain (by assumption) (by first | (simp; done) | (simp; omega)) | exact OSl.plain (by assumption) (by first | (simp; done) | (simp; omega))) rfl ?_; refine Zp rfl rfl rfl hot (by repeat first | exact Rem.here _ | exact Rem.two | apply Rem.skip | apply Rem.over) (by rw [List.getElem?_map, partW_get (V := V) (t := t) (j := t - 8) (by omega) (by omega)]; rfl) F.lay55 rfl rfl rfl ?_; refine Zbn rfl rfl rfl rfl (xor32 (Zbc hV hB (t - 3) (by omega)) (Zbc hV hB (t - 8) (by omega))) rfl rfl ?_; refine Zd rfl rfl rfl rfl ?_; refine Zd rfl rfl rfl rfl ?_; refine Zav rfl rfl rfl rfl rfl (by first | exact Zaa (by decide) (by omega) | exact Zm (by decide) (by omega) | exact Zo (by decide) (by omega) | exact Zn (by decide) (by omega) | exact Zt _ | exact Zz _ | exact Zq _ | exact rfl) rfl ?_
              rw [show (t : Int) - 14 = ((t - 14 : Nat) : Int) by omega]
              refine Zab rfl rfl rfl rfl F.elem70 (by first | rfl | exact (Int.toNat_of_nonneg (by omega)).symm) (by first | omega | (simp; done) | (simp; omega)) (by first | exact ⟨_, _, rfl⟩ | assumption | exact SlM.plain (by assumption) (by first | (simp; done) | (simp; omega)) | exact RdS.plain (by assumption) (by first | (simp; done) | (simp; omega)) | exact OSl.plain (by assumption) (by first | (simp; done) | (simp; omega))) rfl ?_; refine Zp rfl rfl rfl hot (by repeat first | exact Rem.here _ | exact Rem.two | apply Rem.skip | apply Rem.over) (by rw [List.getElem?_map, partW_get (V := V) (t := t) (j := t - 14) (by omega) (by omega)]; rfl) F.lay55 rfl rfl rfl ?_; refine Zbn rfl rfl rfl rfl (xor32 (Zcb (Zbc hV hB (t - 3) (by omega)) (Zbc hV hB (t - 8) (by omega))) (Zbc hV hB (t - 14) (by omega))) rfl rfl ?_; refine Zd rfl rfl rfl rfl ?_; refine Zd rfl rfl rfl rfl ?_
              refine Zav rfl rfl rfl rfl rfl (by first | exact Zaa (by decide) (by omega) | exact Zm (by decide) (by omega) | exact Zo (by decide) (by omega) | exact Zn (by decide) (by omega) | exact Zt _ | exact Zz _ | exact Zq _ | exact rfl) rfl ?_
              rw [show (t : Int) - 16 = ((t - 16 : Nat) : Int) by omega]
              refine Zab rfl rfl rfl rfl F.elem70 (by first | rfl | exact (Int.toNat_of_nonneg (by omega)).symm) (by first | omega | (simp; done) | (simp; omega)) (by first | exact ⟨_, _, rfl⟩ | assumption | exact SlM.plain (by assumption) (by first | (simp; done) | (simp; omega)) | exact RdS.plain (by assumption) (by first | (simp; done) | (simp; omega)) | exact OSl.plain (by assumption) (by first | (simp; done) | (simp; omega))) rfl ?_; refine Zp rfl rfl rfl hot (by repeat first | exact Rem.here _ | exact Rem.two | apply Rem.skip | apply Rem.over) (by rw [List.getElem?_map, partW_get (V := V) (t := t) (j := t - 16) (by omega) (by omega)]; rfl) F.lay55 rfl rfl rfl ?_; refine Zbn rfl rfl rfl rfl (xor32 (Zcb (Zcb (Zbc hV hB (t - 3) (by omega)) (Zbc hV hB (t - 8) (by omega))) (Zbc hV hB (t - 14) (by omega))) (Zbc hV hB (t - 16) (by omega))) rfl rfl ?_
              refine X_fs rfl rfl F.ok41 rfl (Rotl_ok _ _ 1 (Zcb (Zcb (Zcb (Zbc hV hB (t - 3) (by omega)) (Zbc hV hB (t - 8) (by omega))) (Zbc hV hB (t - 14) (by omega))) (Zbc hV hB (t - 16) (by omega))) (by decide)) rfl ?_
              rintro _ rfl
              refine Zab rfl rfl rfl rfl F.elem70 (by first | rfl | exact (Int.toNat_of_nonneg (by omega)).symm) (by first | omega | (simp; done) | (simp; omega)) (by first | exact ⟨_, _, rfl⟩ | assumption | exact SlM.plain (by assumption) (by first | (simp; done) | (simp; omega)) | exact RdS.plain (by assumption) (by first | (simp; done) | (simp; omega)) | exact OSl.plain (by assumption) (by first | (simp; done) | (simp; omega))) rfl ?_
              refine X_storeO (b := b2) (j := t) rfl rfl rfl rfl (by constructor) (Zae rfl Zag) F.lay55 rfl rfl hot (by repeat first | exact Rem.here _ | exact Rem.two | apply Rem.skip | apply Rem.over) (by rw [List.length_map]; first | (rw [partW_len (by omega)]; omega) | (rw [List.length_set, partW_len (by omega)]; omega)) ?_; intro hs3 ho3
              replace ho3 : OSl 55 1 (.slice (some ⟨b2, 0, none⟩) 80 80) hs3 ((partW V (t + 1)).map u32R) := by rw [← partW_set (by omega), List.map_set, hV.hi t ht1 (by omega)]; exact ho3.aZ (by simp [partW_len, hl80, show t ≤ 80 by omega])
              refine Zg ?_; refine Zbs ?_; refine Ze ?_; refine Za (l := [0, 1, 2]) rfl ?_; refine Zd rfl rfl rfl rfl ?_; refine Zav rfl rfl rfl rfl rfl (by first | exact Zaa (by decide) (by omega) | exact Zm (by decide) (by omega) | exact Zo (by decide) (by omega) | exact Zn (by decide) (by omega) | exact Zt _ | exact Zz _ | exact Zq _ | exact rfl) rfl ?_; refine Zc rfl rfl rfl rfl ?_; refine Zg ?_; refine Zbj (a' := [(9, _)]) (t + 1) (hs3) (.cons (k := 9) rfl (.cons (k := 5) rfl (.cons (k := 3) rfl (.cons (k := 2) rfl (.nil))))) (by first | exact Mem.le.refl _ | assumption | (repeat first | assumption | refine Mem.le.trans (by assumption) ?_)) (fun w hw => by first | exact hw | exact hw.cnt (by intro zz; first | exact Nat.le_refl _ | (simp only [Zh, Zf, Zi, cat, List.append_eq, List.append_assoc, List.cons_append, List.nil_append, List.append_nil]; omega) | (simp only [Zh, Zf, Zi, cat, List.append_eq, List.append_assoc, List.cons_append, List.nil_append, List.append_nil, PeerV.segs]; omega))) ?_ ?_
              · exact ⟨rfl, rfl, by omega, by omega, ho3⟩
              · omega
          · first | replace hc5 := dT hc5 | replace hc5 := dF hc5 | replace hc5 := nT hc5 | replace hc5 := nF hc5 | skip
            try simp only [PeerV.eta] at hc5
            first
            | (exfalso; omega)
            | (exfalso; simp [eqX] at hc5; done)
            | contradiction
            | skip
              refine Zbl ?_; refine Zao ?_; refine Zao ?_; refine Zbx ?_; refine Ze ?_; refine Zl (.cons (k := 5) rfl (.cons (k := 3) rfl (.cons (k := 2) rfl .nil))) ?_; refine Zk ?_; refine Za (l := [0, 1, 2]) rfl ?_; refine Zd rfl rfl rfl rfl ?_; refine Zc rfl rfl rfl rfl ?_; refine Zc rfl rfl rfl rfl ?_; refine Zg ?_; refine Ze ?_; refine Zl (.cons (k := 3) rfl (.cons (k := 2) rfl .nil)) ?_; refine Zam ?_
              refine Zal (.inr rfl) (.tmp rfl (.tmp rfl .nil)) (fun w hw => ?_)
              obtain rfl : t = 80 := by omega
              have e80 : partW V 80 = V := by have := partW_all (V := V); rwa [hl80] at this
              rw [e80] at hot
              obtain ⟨M9, s1, g1, g2, g3, g4, g5⟩ := OSl.freezeK (f := u32R) (H := H) (l := V) hot (hw.cnt (by intro zz; first | exact Nat.le_refl _ | (simp only [Zh, Zf, Zi, cat, List.append_eq, List.append_assoc, List.cons_append, List.nil_append, List.append_nil]; omega) | (simp only [Zh, Zf, Zi, cat, List.append_eq, List.append_assoc, List.cons_append, List.nil_append, List.append_nil, PeerV.segs]; omega)))
              refine ⟨_, M9, rfl, g1, g2, ?_⟩
              exact ⟨s1, by rw [← g3]; rfl, g4, g5⟩
end Go.Proofs.YtpfdblknaihidaaDoor
namespace Go.Esp
def stV (s : St5) : Vector Value 5 := ⟨#[.int .u32 (s.a : Int), .int .u32 (s.b : Int), .int .u32 (s.c : Int), .int .u32 (s.d : Int), .int .u32 (s.e : Int)], rfl⟩
def stSeg (s : St5) : Seg := .arr 5 (stV s)
def St5.nth (s : St5) : Nat → Nat
  | 0 => s.a
  | 1 => s.b
  | 2 => s.c
  | 3 => s.d
  | _ => s.e
structure St5.ok (s : St5) : Prop where
  a : s.a < 4294967296
  b : s.b < 4294967296
  c : s.c < 4294967296
  d : s.d < 4294967296
  e : s.e < 4294967296
theorem St5.ok.nth {s : St5} (h : s.ok) (j : Nat) : s.nth j < 4294967296 := by
  obtain ⟨h1, h2, h3, h4, h5⟩ := h
  unfold St5.nth; split <;> assumption
theorem stV_at (s : St5) {j : Nat} (h : j < 5) : (stV s)[j] = .int .u32 ((s.nth j : Nat) : Int) := by
  match j, h with
  | 0, _ => rfl
  | 1, _ => rfl
  | 2, _ => rfl
  | 3, _ => rfl
  | 4, _ => rfl
theorem stCell (s : St5) {j : Nat} (h : j < 5) : (Segs.cells [stSeg s])[0 + j]? = some (.int .u32 ((s.nth j : Nat) : Int)) := by
  rw [← stV_at s h]; exact Zbk h
theorem stFlat (s : St5) : flat [stSeg s] := fun u hu => by
  have : u = .int .u32 (s.a : Int) ∨ u = .int .u32 (s.b : Int) ∨ u = .int .u32 (s.c : Int) ∨ u = .int .u32 (s.d : Int) ∨ u = .int .u32 (s.e : Int) := by
    have h9 : u ∈ [Value.int .u32 (s.a : Int), .int .u32 (s.b : Int), .int .u32 (s.c : Int), .int .u32 (s.d : Int), .int .u32 (s.e : Int)] := hu
    simpa using h9
  rcases this with rfl | rfl | rfl | rfl | rfl <;> rfl
theorem start5_ok : start5.ok := ⟨by decide, by decide, by decide, by decide, by decide⟩
theorem roundN_ok {s : St5} (t w : Nat) (h : s.ok) : (roundN t s w).ok := ⟨Nat.mod_lt _ (by decide), h.a, rotl_lt _ _, h.c, h.d⟩
theorem roundsN_app : ∀ (l : List Nat) (t w : Nat) (s : St5), roundsN t (l ++ [w]) s = roundN (t + l.length) (roundsN t l s) w
  | [], t, w, s => rfl
  | x :: l, t, w, s => by
    show roundsN (t + 1) (l ++ [w]) (roundN t s x) = _
    rw [roundsN_app l (t + 1) w]
    rw [List.length_cons, show t + 1 + l.length = t + (l.length + 1) by omega]
    rfl
theorem roundsN_ok : ∀ (l : List Nat) (t : Nat) {s : St5}, s.ok → (roundsN t l s).ok
  | [], t, s, h => h
  | x :: l, t, s, h => roundsN_ok l (t + 1) (roundN_ok t x h)
def behind (V : List Nat) (h : St5) (t : Nat) : St5 := roundsN 0 (V.take t) h
theorem behind_succ {V : List Nat} {h : St5} {t : Nat} (ht : t < V.length) : behind V h (t + 1) = roundN t (behind V h t) V[t] := by
  unfold behind
  rw [List.take_succ_eq_append_getElem ht, roundsN_app, List.length_take, Nat.min_eq_left (by omega), Nat.zero_add]
theorem behind_ok {V : List Nat} {h : St5} (t : Nat) (hh : h.ok) : (behind V h t).ok := roundsN_ok _ _ hh
theorem behind_all {V : List Nat} {h : St5} : behind V h V.length = roundsN 0 V h := by unfold behind; rw [List.take_length]
theorem round_sum {r f e a w : Nat} : w32 (w32 (w32 (w32 ((r : Int) + (f : Int)) + (e : Int)) + (a : Int)) + (w : Int)) = (((r + f + e + a + w) % 4294967296 : Nat) : Int) := by
  unfold w32; omega
theorem add_sum {a b : Nat} : w32 ((a : Int) + (b : Int)) = ((add32 a b : Nat) : Int) := by
  unfold w32 add32; omega
def sumTo (h s : St5) (i : Nat) : St5 := ⟨if 0 < i then add32 h.a s.a else h.a, if 1 < i then add32 h.b s.b else h.b, if 2 < i then add32 h.c s.c else h.c, if 3 < i then add32 h.d s.d else h.d, if 4 < i then add32 h.e s.e else h.e⟩
theorem sumTo_at {h s : St5} {i : Nat} (hi : i < 5) : (sumTo h s i).nth i = h.nth i := by
  match i, hi with
  | 0, _ => rfl
  | 1, _ => rfl
  | 2, _ => rfl
  | 3, _ => rfl
  | 4, _ => rfl
theorem sumTo_set {h s : St5} {i : Nat} (hi : i < 5) : (stV (sumTo h s i)).set i (.int .u32 ((add32 (h.nth i) (s.nth i) : Nat) : Int)) hi = stV (sumTo h s (i + 1)) := by
  match i, hi with
  | 0, _ => rfl
  | 1, _ => rfl
  | 2, _ => rfl
  | 3, _ => rfl
  | 4, _ => rfl
theorem stepN_is {h : St5} {B : List Nat} (hB : B.length = 64) : sumTo h (behind (wordsOf B) h 80) 5 = stepN h B := by
  have hl := (wordsOf_is hB).len
  have : behind (wordsOf B) h 80 = roundsN 0 (wordsMore 64 (words16 B [])).reverse h := by
    rw [← hl]; exact behind_all
  rw [this]; rfl
theorem stepN_ok {h : St5} {B : List Nat} : (stepN h B).ok := ⟨Nat.mod_lt _ (by decide), Nat.mod_lt _ (by decide), Nat.mod_lt _ (by decide), Nat.mod_lt _ (by decide), Nat.mod_lt _ (by decide)⟩
end Go.Esp
namespace Go.Proofs.YtpfdblknaihidaaDoor
open Go.Esp
theorem F.bld75 : Bld Tryd.prog 75 [[.one .nilFunc], [.one (.int .u32 0)]] := ⟨by kernel_rfl, by kernel_rfl⟩
theorem F.lay76 : lay Tryd.prog 76 = some (true, 8) := by kernel_rfl
theorem F.ok66 : okFn Tryd.prog 66 = true := by kernel_rfl
theorem F.ok67 : okFn Tryd.prog 67 = true := by kernel_rfl
theorem F.ok68 : okFn Tryd.prog 68 = true := by kernel_rfl
theorem F.phs (w : World) : (Instr.build 76 #[(0, aggV [.one (.func (.func 66) #[] #[]), .one (.int .u32 ((1518500249 : Nat) : Int))]), (1, aggV [.one (.func (.func 67) #[] #[]), .one (.int .u32 ((1859775393 : Nat) : Int))]), (2, aggV [.one (.func (.func 68) #[] #[]), .one (.int .u32 ((2400959708 : Nat) : Int))]), (3, aggV [.one (.func (.func 67) #[] #[]), .one (.int .u32 ((3395469782 : Nat) : Int))])]).run Tryd.prog w = .ok (aggV [.one (.func (.func 66) #[] #[]), .one (.int .u32 ((1518500249 : Nat) : Int)), .one (.func (.func 67) #[] #[]), .one (.int .u32 ((1859775393 : Nat) : Int)), .one (.func (.func 68) #[] #[]), .one (.int .u32 ((2400959708 : Nat) : Int)), .one (.func (.func 67) #[] #[]), .one (.int .u32 ((3395469782 : Nat) : Int))]) w := by kernel_rfl
theorem F.zero76 : zeroOf Tryd.prog 76 = some (aggV [.one .nilFunc, .one (.int .u32 0), .one .nilFunc, .one (.int .u32 0), .one .nilFunc, .one (.int .u32 0), .one .nilFunc, .one (.int .u32 0)]) := by kernel_rfl
def mixF (k : Nat) : FuncId := if k = 0 then 66 else if k = 1 then 67 else if k = 2 then 68 else 67
def addC (k : Nat) : Nat := if k = 0 then 1518500249 else if k = 1 then 1859775393 else if k = 2 then 2400959708 else 3395469782
def phS (k : Nat) : Segs := [.one (.func (.func (mixF k)) #[] #[]), .one (.int .u32 ((addC k : Nat) : Int))]
def phR : Segs := [.one (.func (.func 66) #[] #[]), .one (.int .u32 ((1518500249 : Nat) : Int)), .one (.func (.func 67) #[] #[]), .one (.int .u32 ((1859775393 : Nat) : Int)), .one (.func (.func 68) #[] #[]), .one (.int .u32 ((2400959708 : Nat) : Int)), .one (.func (.func 67) #[] #[]), .one (.int .u32 ((3395469782 : Nat) : Int))]
theorem phSub {j : Nat} (h : j < 4) : Segs.sub phR (0 + j * 2) 2 = some (phS j) := by
  match j, h with
  | 0, _ => rfl
  | 1, _ => rfl
  | 2, _ => rfl
  | 3, _ => rfl
theorem mixF_ok {j : Nat} (h : j < 4) : okFn Tryd.prog (mixF j) = true := by
  match j, h with
  | 0, _ => exact F.ok66
  | 1, _ => exact F.ok67
  | 2, _ => exact F.ok68
  | 3, _ => exact F.ok67
theorem Zay (j : Nat) : flat (phS j) := Zae rfl (Zae rfl Zag)
theorem Zaz : flat phR := Zae rfl (Zae rfl (Zae rfl (Zae rfl (Zae rfl (Zae rfl (Zae rfl (Zae rfl Zag)))))))
theorem addC_is {k : Nat} (h : k < 80) : addC (k / 20) = addN k := by
  unfold addC addN
  repeat (first | rfl | omega | split)
theorem mix_ok (M : Mem) {k b c d : Nat} (h : k < 80) (hb : b < 4294967296) (hc : c < 4294967296) (hd : d < 4294967296) : Fs Tryd.prog (mixF (k / 20)) [.int .u32 ((b : Nat) : Int), .int .u32 ((c : Nat) : Int), .int .u32 ((d : Nat) : Int)] M (fun v => v = .int .u32 ((mixN k b c d : Nat) : Int)) := by
  unfold mixN
  rcases (show k / 20 = 0 ∧ k < 20 ∨ k / 20 = 1 ∧ ¬ k < 20 ∧ k < 40 ∨ k / 20 = 2 ∧ ¬ k < 20 ∧ ¬ k < 40 ∧ k < 60 ∨ k / 20 = 3 ∧ ¬ k < 20 ∧ ¬ k < 40 ∧ ¬ k < 60 by omega) with ⟨e, h1⟩ | ⟨e, h1, h2⟩ | ⟨e, h1, h2, h3⟩ | ⟨e, h1, h2, h3⟩
  · rw [e, if_pos h1]; exact choose_ok M b c d hb hc hd
  · rw [e, if_neg h1, if_pos h2]; exact unlike_ok M b c d hb hc hd
  · rw [e, if_neg h1, if_neg h2, if_pos h3]; exact most_ok M b c d hb hc hd
  · rw [e, if_neg h1, if_neg h2, if_neg h3]; exact unlike_ok M b c d hb hc hd
theorem phases_ok (M : Mem) : Fs Tryd.prog 40 [] M (fun v => v = aggV (phR)) := by
  refine Zbd Tryd.func40 rfl Tryd.ntmps40 rfl ?_; intro H
  refine Zk ?_; refine Za (l := [0]) rfl ?_
  refine Zbm rfl rfl F.zero76 (by constructor) rfl ?_; intro b1
  refine Zg ?_; refine Ze ?_; refine Zk ?_; refine Za (l := [0, 1, 2, 3, 4, 5]) rfl ?_; refine Zcd rfl rfl F.bld75 (.cons rfl (by constructor) (.cons rfl (by constructor) .nil)) rfl rfl ?_; refine Zcd rfl rfl F.bld75 (.cons rfl (by constructor) (.cons rfl (by constructor) .nil)) rfl rfl ?_; refine Zcd rfl rfl F.bld75 (.cons rfl (by constructor) (.cons rfl (by constructor) .nil)) rfl rfl ?_; refine Zcd rfl rfl F.bld75 (.cons rfl (by constructor) (.cons rfl (by constructor) .nil)) rfl rfl ?_; refine X_buildC rfl rfl (fun a ha => by simp [show a.eval (.tmp 1) = aggV [.one (.func (.func 66) #[] #[]), .one (.int .u32 ((1518500249 : Nat) : Int))] from ha.ev rfl, show a.eval (.tmp 2) = aggV [.one (.func (.func 67) #[] #[]), .one (.int .u32 ((1859775393 : Nat) : Int))] from ha.ev rfl, show a.eval (.tmp 3) = aggV [.one (.func (.func 68) #[] #[]), .one (.int .u32 ((2400959708 : Nat) : Int))] from ha.ev rfl, show a.eval (.tmp 4) = aggV [.one (.func (.func 67) #[] #[]), .one (.int .u32 ((3395469782 : Nat) : Int))] from ha.ev rfl]) (F.phs) rfl ?_
  refine Zbi rfl rfl rfl rfl (by constructor) (by first | ((try simp only [cat, List.cons_append, List.nil_append, List.append_nil]); (repeat (first | exact Zag | refine Zau ?_ | (refine Zae ?_ ?_; rfl))); done) | exact PeerV.flat _ | exact PeerV.flat ⟨_, _⟩ | exact stFlat _ | exact Zay _ | exact Zaz | (simp [flat, cat, Segs.cells, Seg.cells, Value.oneCell']; done)) (by repeat first | exact Upd.head | apply Upd.tail | apply Upd.over) F.lay76 rfl rfl ?_; refine Zg ?_; refine Ze ?_; refine Zl (.cons (k := 0) rfl .nil) ?_; refine Zam ?_
  refine Zal (.inr rfl) (.cell rfl (by repeat first | exact List.Mem.head _ | refine List.Mem.tail _ ?_ | refine List.mem_append_right _ ?_) F.lay76 rfl rfl .nil) (fun w hw => ?_)
  refine ⟨_, rfl, (hw.cnt (by intro zz; first | exact Nat.le_refl _ | (simp only [Zh, Zf, Zi, cat, List.append_eq, List.append_assoc, List.cons_append, List.nil_append, List.append_nil]; omega) | (simp only [Zh, Zf, Zi, cat, List.append_eq, List.append_assoc, List.cons_append, List.nil_append, List.append_nil, PeerV.segs]; omega))), ?_⟩
  clear hw
  rfl
end Go.Proofs.YtpfdblknaihidaaDoor
