/-
  Texts of this claim, one behind the other: T9, RepL, RepM, PadL, T10, SumL, T11, ItoaL, ItoaM, SortL, SortG, T12, T13, Frz, T14, SmallN, T15, ShaR, RegW, Rules15, D1, D2, D3, D4, D5.
-/
import Derived.Test.YtpfdblknaihidaaDoorPC2
import Derived.Shelf.Strings.Repeat
import Derived.Ground.NamesProg
import Derived.Test.YtpfdblknaihidaaDoorRows
import Derived.Shelf.Strconv.Itoa3
import Derived.Shelf.SlSortCmp.WholeK
import Derived.Shelf.SlGeneric
import Derived.Ground.SlsfProg
import Derived.Laws.Strings
set_option linter.unusedSimpArgs false
set_option linter.unusedVariables false
set_option linter.unnecessarySimpa false
set_option maxRecDepth 8000
set_option maxHeartbeats 1000000
namespace Go.Proofs.YtpfdblknaihidaaDoor
open Go.Esp
theorem F.arr57 : arOf Tryd.prog 57 = some (5, 55) := by kernel_rfl
theorem F.arrN76 : arOfN Tryd.prog 76 = some (4, 75, 2) := by kernel_rfl
theorem F.bst (a b c d e : Int) (w : World) : (Instr.build 57 #[(0, .int .u32 a), (1, .int .u32 b), (2, .int .u32 c), (3, .int .u32 d), (4, .int .u32 e)]).run Tryd.prog w = .ok (.agg #[.int .u32 a, .int .u32 b, .int .u32 c, .int .u32 d, .int .u32 e]) w := by kernel_rfl
theorem F.foff75_0 : foff Tryd.prog 75 0 = some 0 := by kernel_rfl
theorem F.foff75_1 : foff Tryd.prog 75 1 = some 1 := by kernel_rfl
theorem F.lay57 : lay Tryd.prog 57 = some (true, 5) := by kernel_rfl
theorem F.lay73 : lay Tryd.prog 73 = some (false, 1) := by kernel_rfl
theorem F.lay75 : lay Tryd.prog 75 = some (true, 2) := by kernel_rfl
theorem F.ok39 : okFn Tryd.prog 39 = true := by kernel_rfl
theorem F.ok40 : okFn Tryd.prog 40 = true := by kernel_rfl
theorem F.zero57 : zeroOf Tryd.prog 57 = some (aggV [.arr 5 (Vector.replicate 5 (.int .u32 0))]) := by kernel_rfl
theorem F.zero75 : zeroOf Tryd.prog 75 = some (aggV [.one .nilFunc, .one (.int .u32 0)]) := by kernel_rfl
theorem Step_ok (M : Mem) (g : St5) (s : ByteArray) (hg : g.ok) (hs : s.size = 64) : Esp.Fn Tryd.prog 29 [aggV [stSeg g], .string s] M (fun M' v => v = .tuple #[aggV [stSeg (stepN g (natsOf s))], .int .i64 0]) := by
  refine Zbv Tryd.func29 rfl Tryd.ntmps29 rfl ?_; intro H
  refine Zk ?_; refine Za (l := [0, 1, 2]) rfl ?_
  refine Zcj rfl rfl rfl (by constructor) rfl ?_; intro b1
  refine Zbm rfl rfl F.zero57 (by constructor) rfl ?_; intro b2
  refine Zc rfl rfl rfl rfl ?_; refine Zg ?_; refine Ze ?_; refine Zl (.cons (k := 5) rfl (.cons (k := 4) rfl (.cons (k := 2) rfl (.cons (k := 1) rfl .nil)))) ?_; refine Zk ?_; refine Za (l := [0, 1, 2, 3, 4, 5, 6]) rfl ?_; refine Zd rfl rfl rfl rfl ?_; refine X_fn rfl rfl F.ok39 rfl (Words_ok M s hs (wordsOf (natsOf s)) (wordsOf_is (by rw [Zas, hs]))) rfl ?_
  rintro _ M1 hm1 ⟨⟨wa, wc, wl⟩, rfl, hwl, hwk⟩
  replace hwl : wl = wordsOf (natsOf s) := hwl
  have hV : IsWords (natsOf s) wl := by rw [hwl]; exact wordsOf_is (by rw [Zas, hs])
  have hl80 := hV.len
  have s_w := hwk.h1
  refine Zd rfl rfl rfl rfl ?_; refine Zap rfl rfl rfl rfl rfl ?_; refine Zap rfl rfl rfl rfl rfl ?_; refine Zc rfl rfl rfl rfl ?_; refine Zc rfl rfl rfl rfl ?_; refine Zg ?_; refine Ze ?_; refine Zl (.cons (k := 7) rfl (.cons (k := 6) rfl (.cons (k := 5) rfl (.cons (k := 4) rfl (.cons (k := 2) rfl .nil))))) ?_; refine Zk ?_; refine Zk ?_; refine Za (l := [0, 1]) rfl ?_; refine Zd rfl rfl rfl rfl ?_; refine Zaq rfl rfl rfl rfl rfl rfl ?_; refine Zg ?_; refine Ze ?_; refine Zl (.cons (k := 20) rfl (.cons (k := 7) rfl (.cons (k := 6) rfl (.cons (k := 5) rfl (.cons (k := 4) rfl (.cons (k := 2) rfl .nil)))))) ?_
  refine Zai rfl (fun hc3 => ?_) (fun hc3 => ?_)
  · first | replace hc3 := dT hc3 | replace hc3 := dF hc3 | replace hc3 := nT hc3 | replace hc3 := nF hc3 | skip
    try simp only [PeerV.eta] at hc3
    first | (exfalso; omega) | (exfalso; simp [eqX] at hc3; done) | contradiction
  · first | replace hc3 := dT hc3 | replace hc3 := dF hc3 | replace hc3 := nT hc3 | replace hc3 := nF hc3 | skip
    try simp only [PeerV.eta] at hc3
    first
    | (exfalso; omega)
    | (exfalso; simp [eqX] at hc3; done)
    | contradiction
    | skip
      refine Zah ?_; refine Ze ?_; refine Zl (.cons (k := 6) rfl (.cons (k := 5) rfl (.cons (k := 4) rfl (.cons (k := 2) rfl .nil)))) ?_; refine Zk ?_; refine Zaf (l := [0, 1, 2, 3, 4, 5]) #[0, 0, 0, 0, 15, 31] _ rfl (by kernel_rfl) (by kernel_rfl) St.drawn (fun _ h => h) ?_
      first | refine Zan rfl rfl rfl (by repeat first | exact List.Mem.head _ | refine List.Mem.tail _ ?_ | refine List.mem_append_right _ ?_) F.lay57 rfl rfl rfl ?_ | refine Zv rfl rfl rfl (by first | assumption | exact SlM.mono (by assumption) (by assumption)) (by first | exact Zb (by omega) | exact List.getElem?_eq_getElem (by omega) | exact rfl | exact Zb (by first | (simp; done) | (simp; omega))) F.lay57 rfl rfl rfl ?_ | refine Zu rfl rfl rfl (by assumption) (by first | exact Zb (by omega) | exact List.getElem?_eq_getElem (by omega) | exact rfl | exact Zb (by first | (simp; done) | (simp; omega))) F.lay57 rfl rfl rfl ?_ | refine Zs rfl rfl rfl (by first | assumption | exact Mem.get_of (by assumption) (by repeat first | assumption | refine Mem.le.trans (by assumption) ?_)) F.lay57 rfl rfl rfl ?_ | refine Zp rfl rfl rfl (by assumption) (by repeat first | exact Rem.here _ | exact Rem.two | apply Rem.skip | apply Rem.over) (by first | exact Zb (by omega) | exact List.getElem?_eq_getElem (by omega) | exact rfl | exact Zb (by first | (simp; done) | (simp; omega))) F.lay57 rfl rfl rfl ?_
      refine X_fs rfl rfl F.ok40 rfl (phases_ok _) rfl ?_
      rintro _ rfl
      refine Zbm rfl rfl F.zero57 (by constructor) rfl ?_; intro b4
      refine Zbm rfl rfl F.zero76 (by constructor) rfl ?_; intro b5
      refine Zbi rfl rfl rfl rfl (by constructor) (by first | ((try simp only [cat, List.cons_append, List.nil_append, List.append_nil]); (repeat (first | exact Zag | refine Zau ?_ | (refine Zae ?_ ?_; rfl))); done) | exact PeerV.flat _ | exact PeerV.flat ⟨_, _⟩ | exact stFlat _ | exact Zay _ | exact Zaz | (simp [flat, cat, Segs.cells, Seg.cells, Value.oneCell']; done)) (by repeat first | exact Upd.head | apply Upd.tail | apply Upd.over) F.lay57 rfl rfl ?_; refine Zbi rfl rfl rfl rfl (by constructor) (by first | ((try simp only [cat, List.cons_append, List.nil_append, List.append_nil]); (repeat (first | exact Zag | refine Zau ?_ | (refine Zae ?_ ?_; rfl))); done) | exact PeerV.flat _ | exact PeerV.flat ⟨_, _⟩ | exact stFlat _ | exact Zay _ | exact Zaz | (simp [flat, cat, Segs.cells, Seg.cells, Value.oneCell']; done)) (by repeat first | exact Upd.head | apply Upd.tail | apply Upd.over) F.lay76 rfl rfl ?_
      refine Zg ?_; refine Ze ?_; refine Zl (.cons (k := 9) rfl (.cons (k := 8) rfl (.cons (k := 6) rfl (.cons (k := 5) rfl (.cons (k := 4) rfl (.cons (k := 2) rfl .nil)))))) ?_; refine Zk ?_; refine Zk ?_; refine Za (l := [0]) rfl ?_; refine Zd rfl rfl rfl rfl ?_; refine Zg ?_; refine Ze ?_; refine Zad ?_; refine Zl (.cons (k := 25) rfl (.cons (k := 9) rfl (.cons (k := 8) rfl (.cons (k := 6) rfl (.cons (k := 5) rfl (.cons (k := 4) rfl (.cons (k := 2) rfl .nil))))))) ?_; refine Zbu (Hin := [(b4, rowO [stSeg (g)] 57)]) (.succ .zero) (by repeat first | exact Rem.here _ | exact Rem.two | apply Rem.skip | apply Rem.over) (fun (k : Nat) M2 h1 z => M2 = M1 ∧ z = [(25, .int .i64 (k : Int))] ∧ k ≤ 80 ∧ h1 = [(b4, rowO [stSeg (behind wl g k)] 57)]) (fun k => 80 - k) (0) (⟨rfl, rfl, by omega, rfl⟩) ?_
      rintro k M2 h1 z hm2 ⟨hM2, rfl, hk, rfl⟩
      subst hM2
      have hg9 := behind_ok (V := wl) k hg
      refine Zk ?_; refine Za (l := [0]) rfl ?_; refine Zaq rfl rfl rfl rfl rfl rfl ?_; refine Zg ?_; refine Ze ?_; refine Zk ?_
      refine Zai rfl (fun hc6 => ?_) (fun hc6 => ?_)
      · first | replace hc6 := dT hc6 | replace hc6 := dF hc6 | replace hc6 := nT hc6 | replace hc6 := nF hc6 | skip
        try simp only [PeerV.eta] at hc6
        first
        | (exfalso; omega)
        | (exfalso; simp [eqX] at hc6; done)
        | contradiction
        | skip
          refine Zah ?_; refine Ze ?_; refine Zk ?_; refine Zad ?_; refine Zk ?_; refine Za (l := [0, 1]) rfl ?_; refine Zd rfl rfl rfl rfl ?_; refine Zc rfl rfl rfl rfl ?_; refine Zg ?_; refine Ze ?_; refine Zk ?_; refine Za (l := [0, 1, 2, 3, 4, 5]) rfl ?_; refine Zd rfl rfl rfl rfl ?_; refine X_quo rfl rfl rfl rfl (by first | decide | omega) (by first | exact quo_in rfl (by omega) (by omega) (by omega) | rfl) rfl ?_
          rw [show (k : Int) / 20 = ((k / 20 : Nat) : Int) by omega]
          refine X_indexAddr_arrN rfl rfl rfl rfl F.arrN76 rfl (by omega) rfl ?_; refine Zan (r := phR) (r' := phS (k / 20)) rfl rfl rfl (by repeat first | exact List.Mem.head _ | refine List.Mem.tail _ ?_ | refine List.mem_append_right _ ?_) F.lay75 (phSub (by omega)) rfl rfl ?_
          refine Zbm rfl rfl F.zero75 (by constructor) rfl ?_; intro b7
          refine Zbi rfl rfl rfl rfl (by constructor) (by first | ((try simp only [cat, List.cons_append, List.nil_append, List.append_nil]); (repeat (first | exact Zag | refine Zau ?_ | (refine Zae ?_ ?_; rfl))); done) | exact PeerV.flat _ | exact PeerV.flat ⟨_, _⟩ | exact stFlat _ | exact Zay _ | exact Zaz | (simp [flat, cat, Segs.cells, Seg.cells, Value.oneCell']; done)) (by repeat first | exact Upd.head | apply Upd.tail | apply Upd.over) F.lay75 rfl rfl ?_; refine Zg ?_; refine Ze ?_; refine Zk ?_; refine Zaf (l := [0, 1, 2, 3, 4, 5, 6, 7, 8, 9, 10, 11, 12, 13, 14, 15, 16, 17, 18, 19, 20, 21, 22, 23, 24]) #[0, 1, 3, 0, 8, 0, 32, 0, 128, 0, 512, 2047, 4095, 0, 8192, 32767, 0, 65536, 262143, 0, 0, 1572864, 3670016, 8388607, 16777215] _ rfl (by kernel_rfl) (by kernel_rfl) St.drawn (fun _ h => h) ?_; refine Zw rfl rfl rfl rfl F.arr57 (by first | rfl | exact (Int.toNat_of_nonneg (by omega)).symm) (by first | omega | decide | (simp; omega)) rfl ?_
          refine Zr rfl rfl rfl (by repeat first | exact List.Mem.head _ | refine List.Mem.tail _ ?_ | refine List.mem_append_right _ ?_) F.lay55 (stCell _ (by decide)) rfl ?_; refine X_fs rfl rfl F.ok41 rfl (Rotl_ok _ ((behind wl g k).nth 0) 5 (hg9.nth 0) (by decide)) rfl ?_
          rintro _ rfl
          first | refine Zak rfl rfl rfl F.foff75_0 rfl ?_ | refine Zac rfl rfl rfl (by first | exact ⟨_, _, rfl⟩ | assumption | exact SlM.plain (by assumption) (by first | (simp; done) | (simp; omega)) | exact RdS.plain (by assumption) (by first | (simp; done) | (simp; omega)) | exact OSl.plain (by assumption) (by first | (simp; done) | (simp; omega))) F.foff75_0 rfl ?_
          first | refine Zan rfl rfl rfl (by repeat first | exact List.Mem.head _ | refine List.Mem.tail _ ?_ | refine List.mem_append_right _ ?_) F.lay73 rfl rfl rfl ?_ | refine Zv rfl rfl rfl (by first | assumption | exact SlM.mono (by assumption) (by assumption)) (by first | exact Zb (by omega) | exact List.getElem?_eq_getElem (by omega) | exact rfl | exact Zb (by first | (simp; done) | (simp; omega))) F.lay73 rfl rfl rfl ?_ | refine Zu rfl rfl rfl (by assumption) (by first | exact Zb (by omega) | exact List.getElem?_eq_getElem (by omega) | exact rfl | exact Zb (by first | (simp; done) | (simp; omega))) F.lay73 rfl rfl rfl ?_ | refine Zs rfl rfl rfl (by first | assumption | exact Mem.get_of (by assumption) (by repeat first | assumption | refine Mem.le.trans (by assumption) ?_)) F.lay73 rfl rfl rfl ?_ | refine Zp rfl rfl rfl (by assumption) (by repeat first | exact Rem.here _ | exact Rem.two | apply Rem.skip | apply Rem.over) (by first | exact Zb (by omega) | exact List.getElem?_eq_getElem (by omega) | exact rfl | exact Zb (by first | (simp; done) | (simp; omega))) F.lay73 rfl rfl rfl ?_ | refine Zr rfl rfl rfl (by repeat first | exact List.Mem.head _ | refine List.Mem.tail _ ?_ | refine List.mem_append_right _ ?_) F.lay73 (by first | exact Zbw (by first | omega | decide) | exact Zbk (by first | omega | decide)) rfl ?_
          refine Zw rfl rfl rfl rfl F.arr57 (by first | rfl | exact (Int.toNat_of_nonneg (by omega)).symm) (by first | omega | decide | (simp; omega)) rfl ?_; refine Zr rfl rfl rfl (by repeat first | exact List.Mem.head _ | refine List.Mem.tail _ ?_ | refine List.mem_append_right _ ?_) F.lay55 (stCell _ (by decide)) rfl ?_; refine Zw rfl rfl rfl rfl F.arr57 (by first | rfl | exact (Int.toNat_of_nonneg (by omega)).symm) (by first | omega | decide | (simp; omega)) rfl ?_; refine Zr rfl rfl rfl (by repeat first | exact List.Mem.head _ | refine List.Mem.tail _ ?_ | refine List.mem_append_right _ ?_) F.lay55 (stCell _ (by decide)) rfl ?_; refine Zw rfl rfl rfl rfl F.arr57 (by first | rfl | exact (Int.toNat_of_nonneg (by omega)).symm) (by first | omega | decide | (simp; omega)) rfl ?_; refine Zr rfl rfl rfl (by repeat first | exact List.Mem.head _ | refine List.Mem.tail _ ?_ | refine List.mem_append_right _ ?_) F.lay55 (stCell _ (by decide)) rfl ?_
          refine X_fsV rfl rfl rfl (mixF_ok (j := k / 20) (by omega)) rfl rfl (mix_ok _ (by omega) (hg9.nth 1) (hg9.nth 2) (hg9.nth 3)) rfl ?_
          rintro _ rfl
          refine Zav rfl rfl rfl rfl rfl (by first | exact Zaa (by decide) (by omega) | exact Zm (by decide) (by omega) | exact Zo (by decide) (by omega) | exact Zn (by decide) (by omega) | exact Zt _ | exact Zz _ | exact Zq _ | exact rfl) rfl ?_; refine Zw rfl rfl rfl rfl F.arr57 (by first | rfl | exact (Int.toNat_of_nonneg (by omega)).symm) (by first | omega | decide | (simp; omega)) rfl ?_; refine Zr rfl rfl rfl (by repeat first | exact List.Mem.head _ | refine List.Mem.tail _ ?_ | refine List.mem_append_right _ ?_) F.lay55 (stCell _ (by decide)) rfl ?_; refine Zav rfl rfl rfl rfl rfl (by first | exact Zaa (by decide) (by omega) | exact Zm (by decide) (by omega) | exact Zo (by decide) (by omega) | exact Zn (by decide) (by omega) | exact Zt _ | exact Zz _ | exact Zq _ | exact rfl) rfl ?_
          first | refine Zak rfl rfl rfl F.foff75_1 rfl ?_ | refine Zac rfl rfl rfl (by first | exact ⟨_, _, rfl⟩ | assumption | exact SlM.plain (by assumption) (by first | (simp; done) | (simp; omega)) | exact RdS.plain (by assumption) (by first | (simp; done) | (simp; omega)) | exact OSl.plain (by assumption) (by first | (simp; done) | (simp; omega))) F.foff75_1 rfl ?_
          first | refine Zan rfl rfl rfl (by repeat first | exact List.Mem.head _ | refine List.Mem.tail _ ?_ | refine List.mem_append_right _ ?_) F.lay55 rfl rfl rfl ?_ | refine Zv rfl rfl rfl (by first | assumption | exact SlM.mono (by assumption) (by assumption)) (by first | exact Zb (by omega) | exact List.getElem?_eq_getElem (by omega) | exact rfl | exact Zb (by first | (simp; done) | (simp; omega))) F.lay55 rfl rfl rfl ?_ | refine Zu rfl rfl rfl (by assumption) (by first | exact Zb (by omega) | exact List.getElem?_eq_getElem (by omega) | exact rfl | exact Zb (by first | (simp; done) | (simp; omega))) F.lay55 rfl rfl rfl ?_ | refine Zs rfl rfl rfl (by first | assumption | exact Mem.get_of (by assumption) (by repeat first | assumption | refine Mem.le.trans (by assumption) ?_)) F.lay55 rfl rfl rfl ?_ | refine Zp rfl rfl rfl (by assumption) (by repeat first | exact Rem.here _ | exact Rem.two | apply Rem.skip | apply Rem.over) (by first | exact Zb (by omega) | exact List.getElem?_eq_getElem (by omega) | exact rfl | exact Zb (by first | (simp; done) | (simp; omega))) F.lay55 rfl rfl rfl ?_ | refine Zr rfl rfl rfl (by repeat first | exact List.Mem.head _ | refine List.Mem.tail _ ?_ | refine List.mem_append_right _ ?_) F.lay55 (by first | exact Zbw (by first | omega | decide) | exact Zbk (by first | omega | decide)) rfl ?_
          refine Zav rfl rfl rfl rfl rfl (by first | exact Zaa (by decide) (by omega) | exact Zm (by decide) (by omega) | exact Zo (by decide) (by omega) | exact Zn (by decide) (by omega) | exact Zt _ | exact Zz _ | exact Zq _ | exact rfl) rfl ?_; refine Zd rfl rfl rfl rfl ?_; refine Zd rfl rfl rfl rfl ?_; refine Zab rfl rfl rfl rfl F.elem70 (by first | rfl | exact (Int.toNat_of_nonneg (by omega)).symm) (by first | omega | (simp; done) | (simp; omega)) (by first | exact ⟨_, _, rfl⟩ | assumption | exact SlM.plain (by assumption) (by first | (simp; done) | (simp; omega)) | exact RdS.plain (by assumption) (by first | (simp; done) | (simp; omega)) | exact OSl.plain (by assumption) (by first | (simp; done) | (simp; omega))) rfl ?_
          first | refine Zan rfl rfl rfl (by repeat first | exact List.Mem.head _ | refine List.Mem.tail _ ?_ | refine List.mem_append_right _ ?_) F.lay55 rfl rfl rfl ?_ | refine Zv rfl rfl rfl (by first | assumption | exact SlM.mono (by assumption) (by assumption)) (by first | exact Zb (by omega) | exact List.getElem?_eq_getElem (by omega) | exact rfl | exact Zb (by first | (simp; done) | (simp; omega))) F.lay55 rfl rfl rfl ?_ | refine Zu rfl rfl rfl (by assumption) (by first | exact Zb (by omega) | exact List.getElem?_eq_getElem (by omega) | exact rfl | exact Zb (by first | (simp; done) | (simp; omega))) F.lay55 rfl rfl rfl ?_ | refine Zs rfl rfl rfl (by first | assumption | exact Mem.get_of (by assumption) (by repeat first | assumption | refine Mem.le.trans (by assumption) ?_)) F.lay55 rfl rfl rfl ?_ | refine Zp rfl rfl rfl (by assumption) (by repeat first | exact Rem.here _ | exact Rem.two | apply Rem.skip | apply Rem.over) (by first | exact Zb (by omega) | exact List.getElem?_eq_getElem (by omega) | exact rfl | exact Zb (by first | (simp; done) | (simp; omega))) F.lay55 rfl rfl rfl ?_ | refine Zr rfl rfl rfl (by repeat first | exact List.Mem.head _ | refine List.Mem.tail _ ?_ | refine List.mem_append_right _ ?_) F.lay55 (by first | exact Zbw (by first | omega | decide) | exact Zbk (by first | omega | decide)) rfl ?_
          refine Zav rfl rfl rfl rfl rfl (by first | exact Zaa (by decide) (by omega) | exact Zm (by decide) (by omega) | exact Zo (by decide) (by omega) | exact Zn (by decide) (by omega) | exact Zt _ | exact Zz _ | exact Zq _ | exact rfl) rfl ?_
          rw [round_sum, addC_is (by omega)]
          refine Zc rfl rfl rfl rfl ?_; refine Zg ?_; refine Ze ?_; refine Zaf (l := [0, 1, 2, 3, 4, 5, 6, 7, 8, 9, 10, 11]) #[0, 0, 2, 0, 8, 24, 0, 64, 0, 256, 1023, 2047] _ rfl (by kernel_rfl) (by kernel_rfl) St.drawn (fun _ h => h) ?_; refine Zd rfl rfl rfl rfl ?_; refine Zw rfl rfl rfl rfl F.arr57 (by first | rfl | exact (Int.toNat_of_nonneg (by omega)).symm) (by first | omega | decide | (simp; omega)) rfl ?_; refine Zr rfl rfl rfl (by repeat first | exact List.Mem.head _ | refine List.Mem.tail _ ?_ | refine List.mem_append_right _ ?_) F.lay55 (stCell _ (by decide)) rfl ?_; refine Zw rfl rfl rfl rfl F.arr57 (by first | rfl | exact (Int.toNat_of_nonneg (by omega)).symm) (by first | omega | decide | (simp; omega)) rfl ?_; refine Zr rfl rfl rfl (by repeat first | exact List.Mem.head _ | refine List.Mem.tail _ ?_ | refine List.mem_append_right _ ?_) F.lay55 (stCell _ (by decide)) rfl ?_
          refine X_fs rfl rfl F.ok41 rfl (Rotl_ok _ ((behind wl g k).nth 1) 30 (hg9.nth 1) (by decide)) rfl ?_
          rintro _ rfl
          refine Zw rfl rfl rfl rfl F.arr57 (by first | rfl | exact (Int.toNat_of_nonneg (by omega)).symm) (by first | omega | decide | (simp; omega)) rfl ?_; refine Zr rfl rfl rfl (by repeat first | exact List.Mem.head _ | refine List.Mem.tail _ ?_ | refine List.mem_append_right _ ?_) F.lay55 (stCell _ (by decide)) rfl ?_; refine Zw rfl rfl rfl rfl F.arr57 (by first | rfl | exact (Int.toNat_of_nonneg (by omega)).symm) (by first | omega | decide | (simp; omega)) rfl ?_; refine Zr rfl rfl rfl (by repeat first | exact List.Mem.head _ | refine List.Mem.tail _ ?_ | refine List.mem_append_right _ ?_) F.lay55 (stCell _ (by decide)) rfl ?_; refine X_buildC (v := aggV [stSeg (roundN k (behind wl g k) (wl[k]'(by omega)))]) rfl rfl (fun a ha => by simp [show a.eval (.tmp 56) = .int .u32 (((roundN k (behind wl g k) (wl[k]'(by omega))).a : Nat) : Int) from ha.ev rfl, show a.eval (.tmp 58) = .int .u32 (((roundN k (behind wl g k) (wl[k]'(by omega))).b : Nat) : Int) from ha.ev rfl, show a.eval (.tmp 61) = .int .u32 (((roundN k (behind wl g k) (wl[k]'(by omega))).c : Nat) : Int) from ha.ev rfl, show a.eval (.tmp 63) = .int .u32 (((roundN k (behind wl g k) (wl[k]'(by omega))).d : Nat) : Int) from ha.ev rfl, show a.eval (.tmp 65) = .int .u32 (((roundN k (behind wl g k) (wl[k]'(by omega))).e : Nat) : Int) from ha.ev rfl]) (F.bst (((roundN k (behind wl g k) (wl[k]'(by omega))).a : Nat) : Int) (((roundN k (behind wl g k) (wl[k]'(by omega))).b : Nat) : Int) (((roundN k (behind wl g k) (wl[k]'(by omega))).c : Nat) : Int) (((roundN k (behind wl g k) (wl[k]'(by omega))).d : Nat) : Int) (((roundN k (behind wl g k) (wl[k]'(by omega))).e : Nat) : Int)) rfl ?_
          rw [← behind_succ (V := wl) (h := g) (t := k) (by omega)]
          refine Zbi rfl rfl rfl rfl (by constructor) (by first | ((try simp only [cat, List.cons_append, List.nil_append, List.append_nil]); (repeat (first | exact Zag | refine Zau ?_ | (refine Zae ?_ ?_; rfl))); done) | exact PeerV.flat _ | exact PeerV.flat ⟨_, _⟩ | exact stFlat _ | exact Zay _ | exact Zaz | (simp [flat, cat, Segs.cells, Seg.cells, Value.oneCell']; done)) (by repeat first | exact Upd.head | apply Upd.tail | apply Upd.over) F.lay57 rfl rfl ?_; refine Zg ?_; refine Zbs ?_; refine Ze ?_; refine Za (l := [0, 1]) rfl ?_; refine Zav rfl rfl rfl rfl rfl (by first | exact Zaa (by decide) (by omega) | exact Zm (by decide) (by omega) | exact Zo (by decide) (by omega) | exact Zn (by decide) (by omega) | exact Zt _ | exact Zz _ | exact Zq _ | exact rfl) rfl ?_; refine Zd rfl rfl rfl rfl ?_
          refine Zg ?_; refine Zbj (a' := [(25, _)]) (k + 1) ([(b4, rowO [stSeg (behind wl g (k + 1))] 57)]) (.cons (k := 25) rfl (.cons (k := 9) rfl (.cons (k := 8) rfl (.cons (k := 6) rfl (.cons (k := 5) rfl (.cons (k := 4) rfl (.cons (k := 2) rfl (.nil)))))))) (by first | exact Mem.le.refl _ | assumption | (repeat first | assumption | refine Mem.le.trans (by assumption) ?_)) (fun w hw => by first | exact hw | exact hw.cnt (by intro zz; first | exact Nat.le_refl _ | (simp only [Zh, Zf, Zi, cat, List.append_eq, List.append_assoc, List.cons_append, List.nil_append, List.append_nil]; omega) | (simp only [Zh, Zf, Zi, cat, List.append_eq, List.append_assoc, List.cons_append, List.nil_append, List.append_nil, PeerV.segs]; omega))) ?_ ?_
          · exact ⟨rfl, rfl, by omega, rfl⟩
          · omega
      · first | replace hc6 := dT hc6 | replace hc6 := dF hc6 | replace hc6 := nT hc6 | replace hc6 := nF hc6 | skip
        try simp only [PeerV.eta] at hc6
        first
        | (exfalso; omega)
        | (exfalso; simp [eqX] at hc6; done)
        | contradiction
        | skip
          refine Zbl ?_; refine Zao ?_; refine Zao ?_; refine Zbx ?_; refine Ze ?_; refine Zl (.cons (k := 8) rfl (.cons (k := 5) rfl (.cons (k := 4) rfl (.cons (k := 2) rfl .nil)))) ?_; refine Zk ?_; refine Zk ?_; refine Za (l := [0]) rfl ?_
          obtain rfl : k = 80 := by omega
          refine Zd rfl rfl rfl rfl ?_; refine Zg ?_; refine Ze ?_; refine Zad ?_; refine Zl (.cons (k := 68) rfl (.cons (k := 8) rfl (.cons (k := 5) rfl (.cons (k := 4) rfl (.cons (k := 2) rfl .nil))))) ?_; refine Zbu (Hin := [(b1, rowO [stSeg (g)] 57)]) (.succ .zero) (by repeat first | exact Rem.here _ | exact Rem.two | apply Rem.skip | apply Rem.over) (fun (i : Nat) M3 h1 z => M3 = M2 ∧ z = [(68, .int .i64 (i : Int))] ∧ i ≤ 5 ∧ h1 = [(b1, rowO [stSeg (sumTo g (behind wl g 80) i)] 57)]) (fun i => 5 - i) (0) (⟨rfl, rfl, by omega, rfl⟩) ?_
          rintro i M3 h1 z hm3 ⟨hM3, rfl, hi, rfl⟩
          subst hM3
          refine Zk ?_; refine Za (l := [0]) rfl ?_; refine Zaq rfl rfl rfl rfl rfl rfl ?_; refine Zg ?_; refine Ze ?_; refine Zk ?_
          refine Zai rfl (fun hc8 => ?_) (fun hc8 => ?_)
          · first | replace hc8 := dT hc8 | replace hc8 := dF hc8 | replace hc8 := nT hc8 | replace hc8 := nF hc8 | skip
            try simp only [PeerV.eta] at hc8
            first
            | (exfalso; omega)
            | (exfalso; simp [eqX] at hc8; done)
            | contradiction
            | skip
              refine Zah ?_; refine Ze ?_; refine Zk ?_; refine Zad ?_; refine Zk ?_; refine Za (l := [0, 1]) rfl ?_; refine Zd rfl rfl rfl rfl ?_; refine Zc rfl rfl rfl rfl ?_; refine Zg ?_; refine Ze ?_; refine Zaf (l := [0, 1, 2, 3, 4, 5, 6, 7, 8]) #[0, 1, 3, 0, 8, 24, 63, 127, 255] _ rfl (by kernel_rfl) (by kernel_rfl) St.drawn (fun _ h => h) ?_; refine Zd rfl rfl rfl rfl ?_; refine Zw rfl rfl rfl rfl F.arr57 (by first | rfl | exact (Int.toNat_of_nonneg (by omega)).symm) (by first | omega | decide | (simp; omega)) rfl ?_; refine Zr rfl rfl rfl (by repeat first | exact List.Mem.head _ | refine List.Mem.tail _ ?_ | refine List.mem_append_right _ ?_) F.lay55 (stCell _ (by omega)) rfl ?_
              rw [sumTo_at (by omega)]
              refine Zd rfl rfl rfl rfl ?_; refine Zw rfl rfl rfl rfl F.arr57 (by first | rfl | exact (Int.toNat_of_nonneg (by omega)).symm) (by first | omega | decide | (simp; omega)) rfl ?_; refine Zr rfl rfl rfl (by repeat first | exact List.Mem.head _ | refine List.Mem.tail _ ?_ | refine List.mem_append_right _ ?_) F.lay55 (stCell _ (by omega)) rfl ?_; refine Zav rfl rfl rfl rfl rfl (by first | exact Zaa (by decide) (by omega) | exact Zm (by decide) (by omega) | exact Zo (by decide) (by omega) | exact Zn (by decide) (by omega) | exact Zt _ | exact Zz _ | exact Zq _ | exact rfl) rfl ?_
              rw [add_sum]
              refine Zw rfl rfl rfl rfl F.arr57 (by first | rfl | exact (Int.toNat_of_nonneg (by omega)).symm) (by first | omega | decide | (simp; omega)) rfl ?_; refine X_store_cell rfl rfl rfl rfl rfl rfl (by repeat first | exact Upd.head | apply Upd.tail | apply Upd.over) F.lay55 (arr_len (f := stV (sumTo g (behind wl g 80) i)) (by omega)) (arr_set (by omega)) ?_
              rw [sumTo_set (by omega)]
              refine Zg ?_; refine Zbs ?_; refine Ze ?_; refine Za (l := [0, 1]) rfl ?_; refine Zav rfl rfl rfl rfl rfl (by first | exact Zaa (by decide) (by omega) | exact Zm (by decide) (by omega) | exact Zo (by decide) (by omega) | exact Zn (by decide) (by omega) | exact Zt _ | exact Zz _ | exact Zq _ | exact rfl) rfl ?_; refine Zd rfl rfl rfl rfl ?_; refine Zg ?_; refine Zbj (a' := [(68, _)]) (i + 1) ([(b1, rowO [stSeg (sumTo g (behind wl g 80) (i + 1))] 57)]) (.cons (k := 68) rfl (.cons (k := 8) rfl (.cons (k := 5) rfl (.cons (k := 4) rfl (.cons (k := 2) rfl (.nil)))))) (by first | exact Mem.le.refl _ | assumption | (repeat first | assumption | refine Mem.le.trans (by assumption) ?_)) (fun w hw => by first | exact hw | exact hw.cnt (by intro zz; first | exact Nat.le_refl _ | (simp only [Zh, Zf, Zi, cat, List.append_eq, List.append_assoc, List.cons_append, List.nil_append, List.append_nil]; omega) | (simp only [Zh, Zf, Zi, cat, List.append_eq, List.append_assoc, List.cons_append, List.nil_append, List.append_nil, PeerV.segs]; omega))) ?_ ?_
              · exact ⟨rfl, rfl, by omega, rfl⟩
              · omega
          · first | replace hc8 := dT hc8 | replace hc8 := dF hc8 | replace hc8 := nT hc8 | replace hc8 := nF hc8 | skip
            try simp only [PeerV.eta] at hc8
            first
            | (exfalso; omega)
            | (exfalso; simp [eqX] at hc8; done)
            | contradiction
            | skip
              refine Zbl ?_; refine Zao ?_; refine Zao ?_; refine Zbx ?_; refine Ze ?_; refine Zl (.cons (k := 5) rfl (.cons (k := 4) rfl (.cons (k := 2) rfl .nil))) ?_; refine Zk ?_; refine Za (l := [0, 1, 2]) rfl ?_
              first | refine Zan rfl rfl rfl (by repeat first | exact List.Mem.head _ | refine List.Mem.tail _ ?_ | refine List.mem_append_right _ ?_) F.lay57 rfl rfl rfl ?_ | refine Zv rfl rfl rfl (by first | assumption | exact SlM.mono (by assumption) (by assumption)) (by first | exact Zb (by omega) | exact List.getElem?_eq_getElem (by omega) | exact rfl | exact Zb (by first | (simp; done) | (simp; omega))) F.lay57 rfl rfl rfl ?_ | refine Zu rfl rfl rfl (by assumption) (by first | exact Zb (by omega) | exact List.getElem?_eq_getElem (by omega) | exact rfl | exact Zb (by first | (simp; done) | (simp; omega))) F.lay57 rfl rfl rfl ?_ | refine Zs rfl rfl rfl (by first | assumption | exact Mem.get_of (by assumption) (by repeat first | assumption | refine Mem.le.trans (by assumption) ?_)) F.lay57 rfl rfl rfl ?_ | refine Zp rfl rfl rfl (by assumption) (by repeat first | exact Rem.here _ | exact Rem.two | apply Rem.skip | apply Rem.over) (by first | exact Zb (by omega) | exact List.getElem?_eq_getElem (by omega) | exact rfl | exact Zb (by first | (simp; done) | (simp; omega))) F.lay57 rfl rfl rfl ?_
              refine Zbi rfl rfl rfl rfl (by constructor) (by first | ((try simp only [cat, List.cons_append, List.nil_append, List.append_nil]); (repeat (first | exact Zag | refine Zau ?_ | (refine Zae ?_ ?_; rfl))); done) | exact PeerV.flat _ | exact PeerV.flat ⟨_, _⟩ | exact stFlat _ | exact Zay _ | exact Zaz | (simp [flat, cat, Segs.cells, Seg.cells, Value.oneCell']; done)) (by repeat first | exact Upd.head | apply Upd.tail | apply Upd.over) F.lay57 rfl rfl ?_; refine Zc rfl rfl rfl rfl ?_; refine Zg ?_; refine Ze ?_; refine Zl (.cons (k := 5) rfl (.cons (k := 4) rfl .nil)) ?_; refine Zam ?_
              refine Zal (.inr rfl) (.cell rfl (by repeat first | exact List.Mem.head _ | refine List.Mem.tail _ ?_ | refine List.mem_append_right _ ?_) F.lay57 rfl rfl (.tmp rfl .nil)) (fun w hw => ?_)
              obtain rfl : i = 5 := by omega
              refine ⟨_, M3, rfl, (by first | exact Mem.le.refl _ | assumption | exact Mem.le.trans (by assumption) (by assumption) | exact Mem.le.trans (by assumption) (Mem.le.trans (by assumption) (by assumption))), hw.cnt (by intro zz; first | exact Nat.le_refl _ | (simp only [Zh, Zf, Zi, cat, List.append_eq, List.append_assoc, List.cons_append, List.nil_append, List.append_nil]; omega) | (simp only [Zh, Zf, Zi, cat, List.append_eq, List.append_assoc, List.cons_append, List.nil_append, List.append_nil, PeerV.segs]; omega)), ?_⟩
              subst hwl
              rw [← stepN_is (by rw [Zas, hs])]
              rfl
end Go.Proofs.YtpfdblknaihidaaDoor
namespace Go.Proofs
open Go.Shelf
def Tryd.repL_ren : Go.Shelf.Ren := ⟨fun | 105 => 38 | 212 => 60 | 99 => 61 | 165 => 62 | 166 => 63 | 170 => 64 | 169 => 65 | 263 => 81 | 264 => 82 | 206 => 83 | 240 => 84 | 241 => 85 | 276 => 91 | 277 => 92 | n => n, fun | 9 => 9 | 3 => 3 | 4 => 4 | 20 => 20 | 0 => 0 | 46 => 63 | 109 => 92 | 5 => 5 | 72 => 97 | 76 => 101 | 51 => 55 | 146 => 116 | 53 => 68 | 148 => 119 | 70 => 95 | 37 => 67 | 75 => 100 | 127 => 121 | 164 => 129 | 80 => 104 | n => n, fun | n => n⟩
theorem Tryd.repL : Go.Proofs.Lays.n105 Tryd.prog Tryd.repL_ren := {
  mixed := by kernel_rfl
  f99 := Tryd.func61.trans (congrArg some (by kernel_rfl))
  f105 := Tryd.func38.trans (congrArg some (by kernel_rfl))
  f165 := Tryd.func62.trans (congrArg some (by kernel_rfl))
  f166 := Tryd.func63.trans (congrArg some (by kernel_rfl))
  f169 := Tryd.func65.trans (congrArg some (by kernel_rfl))
  f170 := Tryd.func64.trans (congrArg some (by kernel_rfl))
  f206 := Tryd.func83.trans (congrArg some (by kernel_rfl))
  f212 := Tryd.func60.trans (congrArg some (by kernel_rfl))
  f240 := Tryd.func84.trans (congrArg some (by kernel_rfl))
  f241 := Tryd.func85.trans (congrArg some (by kernel_rfl))
  f263 := Tryd.func81.trans (congrArg some (by kernel_rfl))
  f264 := Tryd.func82.trans (congrArg some (by kernel_rfl))
  f276 := Tryd.func91.trans (congrArg some (by kernel_rfl))
  f277 := Tryd.func92.trans (congrArg some (by kernel_rfl))
  t0 := Tryd.underlying0
  a0 := Tryd.isAgg0
  z0 := Tryd.sizeOf0
  v0 := Tryd.zeroValue0
  t3 := Tryd.underlying3
  a3 := Tryd.isAgg3
  z3 := Tryd.sizeOf3
  v3 := Tryd.zeroValue3
  t4 := Tryd.underlying4
  a4 := Tryd.isAgg4
  z4 := Tryd.sizeOf4
  v4 := Tryd.zeroValue4
  t5 := Tryd.underlying5
  a5 := Tryd.isAgg5
  z5 := Tryd.sizeOf5
  v5 := Tryd.zeroValue5
  t9 := Tryd.underlying9
  a9 := Tryd.isAgg9
  z9 := Tryd.sizeOf9
  v9 := Tryd.zeroValue9
  t20 := Tryd.underlying20
  a20 := Tryd.isAgg20
  z20 := Tryd.sizeOf20
  v20 := Tryd.zeroValue20
  t37 := Tryd.underlying67
  a37 := Tryd.isAgg67
  z37 := Tryd.sizeOf67
  v37 := Tryd.zeroValue67
  t46 := Tryd.underlying63
  a46 := Tryd.isAgg63
  z46 := Tryd.sizeOf63
  v46 := Tryd.zeroValue63
  t51 := Tryd.underlying55
  a51 := Tryd.isAgg55
  z51 := Tryd.sizeOf55
  v51 := Tryd.zeroValue55
  t53 := Tryd.underlying68
  a53 := Tryd.isAgg68
  z53 := Tryd.sizeOf68
  v53 := Tryd.zeroValue68
  t70 := Tryd.underlying95
  a70 := Tryd.isAgg95
  z70 := Tryd.sizeOf95
  v70 := Tryd.zeroValue95
  t72 := Tryd.underlying97
  a72 := Tryd.isAgg97
  z72 := Tryd.sizeOf97
  v72 := Tryd.zeroValue97
  t75 := Tryd.underlying100
  a75 := Tryd.isAgg100
  z75 := Tryd.sizeOf100
  v75 := Tryd.zeroValue100
  t76 := Tryd.underlying101
  a76 := Tryd.isAgg101
  z76 := Tryd.sizeOf101
  v76 := Tryd.zeroValue101
  t109 := Tryd.underlying92
  a109 := Tryd.isAgg92
  z109 := Tryd.sizeOf92
  v109 := Tryd.zeroValue92
  t127 := Tryd.underlying121
  a127 := Tryd.isAgg121
  z127 := Tryd.sizeOf121
  v127 := Tryd.zeroValue121
  t146 := Tryd.underlying116
  a146 := Tryd.isAgg116
  z146 := Tryd.sizeOf116
  v146 := Tryd.zeroValue116
  t148 := Tryd.underlying119
  a148 := Tryd.isAgg119
  z148 := Tryd.sizeOf119
  v148 := Tryd.zeroValue119
  t164 := Tryd.underlying129
  a164 := Tryd.isAgg129
  z164 := Tryd.sizeOf129
  v164 := Tryd.zeroValue129 }
end Go.Proofs
namespace Go.Esp
open Go.Proofs Go.Shelf Go.RowKit Go.Lib
theorem St.below {M : Mem} {H : Hp} {w w' : World} (hM : M.dr = 0) (h : St M H w) (hb : RowKit.Below w.heap.size w w') : St M H w' := by
  have hk : ∀ b o, w.heap[b]? = some o → w'.heap[b]? = some o := fun b o hbo => by
    rw [hb.block b (Array.getElem?_eq_some_iff.1 hbo).1]; exact hbo
  exact ⟨fun b o hm => hk b o (h.mem b o hm), fun b o hm => hk b o (h.own b o hm), h.sep, h.nodup, hb.os.trans h.io.1, hb.tape.trans h.io.2.1, hb.output.trans h.io.2.2.1, by rw [hM]; exact Nat.zero_le _⟩
theorem repExtra : Builder.Extra Tryd.prog Tryd.repL_ren := {
  sizeBuilder := by kernel_rfl
  liesBuilder := by kernel_rfl
  t5 := Tryd.repL.t5
  a5 := Tryd.repL.a5
  z5 := Tryd.repL.z5
  v5 := Tryd.repL.v5
  infoByte := by kernel_rfl
  cellsByte := by kernel_rfl
  sizeByte := by kernel_rfl
  neB5 := by decide }
theorem repeatL_one (b : UInt8) : ∀ c, repeatL [b] c = List.replicate c b
  | 0 => rfl
  | c + 1 => by rw [List.replicate_succ, ← repeatL_one b c]; rfl
theorem Repeat_ok (M : Mem) (s : ByteArray) (c : Nat) (hM : M.dr = 0) (hc : c ≤ 9223372036854775807) (hl : s.size * c ≤ 140737488355328) :
    Fs Tryd.prog (Tryd.repL_ren.f 105) [.string s, .int .i64 (c : Int)] M (fun v => v = .string ⟨(repeatL s.data.toList c).toArray⟩) := fun H w hw =>
  (Any.strings_Repeat Tryd.repL repExtra s c w hc hl).mono fun e w' ⟨he, hb⟩ => ⟨_, he, St.below hM hw hb, rfl⟩
end Go.Esp
namespace Go.Esp
open Go.Lib Go.Proofs
theorem natsOf_app (a b : ByteArray) : natsOf (a ++ b) = natsOf a ++ natsOf b := by
  unfold natsOf; rw [ByteArray.data_append, Array.toList_append, List.map_append]
theorem natsOf_rep (c : Nat) : natsOf ⟨(repeatL (⟨#[0]⟩ : ByteArray).data.toList c).toArray⟩ = List.replicate c 0 := by
  show (repeatL [0] c).map _ = _
  rw [repeatL_one, List.map_replicate]; rfl
theorem rep_size (c : Nat) : (⟨(repeatL (⟨#[0]⟩ : ByteArray).data.toList c).toArray⟩ : ByteArray).size = c := by
  rw [← Zas, natsOf_rep, List.length_replicate]
theorem natsOf_str {l : List Nat} (h : ∀ n ∈ l, n < 256) : natsOf (strOfNums (l.map fun n : Nat => (n : Int))) = l := by
  unfold natsOf
  rw [strOfNums_data, List.map_map, List.map_map]
  refine (List.map_congr_left (g := id) fun n hn => ?_).trans (List.map_id l)
  have := h n hn
  simp [UInt8.toNat_ofNat', Nat.mod_eq_of_lt this]
def tailN (n : Nat) : List Nat := (List.range 8).map fun j => n / 256 ^ (7 - j) % 256
def rowsT (n i : Nat) : List Nat := List.replicate (8 - i) 0 ++ (tailN n).drop (8 - i)
theorem rowsT_len (n i : Nat) (h : i ≤ 8) : (rowsT n i).length = 8 := by simp [rowsT, tailN] <;> omega
theorem rowsT_set {n i : Nat} (h : i < 8) : (rowsT n i).set (7 - i) (n / 256 ^ i % 256) = rowsT n (i + 1) := by
  match i, h with
  | 0, _ => rfl
  | 1, _ => rfl
  | 2, _ => rfl
  | 3, _ => rfl
  | 4, _ => rfl
  | 5, _ => rfl
  | 6, _ => rfl
  | 7, _ => rfl
theorem rowsT_all (n : Nat) : rowsT n 8 = tailN n := rfl
theorem tailN_lt {n : Nat} : ∀ b ∈ tailN n, b < 256 := fun b hb => by
  obtain ⟨j, -, rfl⟩ := List.mem_map.1 hb
  exact Nat.mod_lt _ (by decide)
theorem byte_of (n i : Nat) : w8 ((n : Int) / 2 ^ (8 * i)) = ((n / 256 ^ i % 256 : Nat) : Int) := by
  rw [show (2 : Int) ^ (8 * i) = ((256 ^ i : Nat) : Int) by rw [Int.pow_mul]; simp]
  unfold w8
  rw [← Int.natCast_ediv]; omega
theorem pad_is (s : ByteArray) : natsOf (((s ++ ⟨#[128]⟩) ++ ⟨(repeatL (⟨#[0]⟩ : ByteArray).data.toList ((119 - s.size % 64) % 64)).toArray⟩) ++ strOfNums ((tailN (8 * s.size)).map fun n : Nat => (n : Int))) = padN (natsOf s) := by
  rw [natsOf_app, natsOf_app, natsOf_app, natsOf_rep, natsOf_str tailN_lt]
  unfold padN
  rw [Zas]
  show ((natsOf s ++ [128]) ++ _) ++ _ = _
  simp [tailN]
end Go.Esp
namespace Go.Proofs.YtpfdblknaihidaaDoor
open Go.Esp
theorem F.bst0 (w : World) : (Instr.build 57 #[(0, .int .u32 1732584193), (1, .int .u32 4023233417), (2, .int .u32 2562383102), (3, .int .u32 271733878), (4, .int .u32 3285377520)]).run Tryd.prog w = .ok (aggV [stSeg start5]) w := by kernel_rfl
theorem F.ok38 : okFn Tryd.prog 38 = true := by kernel_rfl
theorem F.zero5 : zeroOf Tryd.prog 5 = some ((.int .u8 0)) := by kernel_rfl
theorem Start_ok (M : Mem) : Fs Tryd.prog 28 [] M (fun v => v = aggV ([stSeg start5])) := by
  refine Zbd Tryd.func28 rfl Tryd.ntmps28 rfl ?_; intro H
  refine Zk ?_; refine Za (l := [0]) rfl ?_
  refine Zbm rfl rfl F.zero57 (by constructor) rfl ?_; intro b1
  refine Zg ?_; refine Ze ?_; refine Zk ?_; refine Za (l := [0, 1]) rfl ?_; refine X_buildC rfl rfl (fun a ha => by simp [show a.eval (.const (.int .u32 1732584193)) = .int .u32 1732584193 from ha.ev rfl, show a.eval (.const (.int .u32 4023233417)) = .int .u32 4023233417 from ha.ev rfl, show a.eval (.const (.int .u32 2562383102)) = .int .u32 2562383102 from ha.ev rfl, show a.eval (.const (.int .u32 271733878)) = .int .u32 271733878 from ha.ev rfl, show a.eval (.const (.int .u32 3285377520)) = .int .u32 3285377520 from ha.ev rfl]) (F.bst0) rfl ?_; refine Zbi rfl rfl rfl rfl (by constructor) (by first | ((try simp only [cat, List.cons_append, List.nil_append, List.append_nil]); (repeat (first | exact Zag | refine Zau ?_ | (refine Zae ?_ ?_; rfl))); done) | exact PeerV.flat _ | exact PeerV.flat ⟨_, _⟩ | exact stFlat _ | exact Zay _ | exact Zaz | (simp [flat, cat, Segs.cells, Seg.cells, Value.oneCell']; done)) (by repeat first | exact Upd.head | apply Upd.tail | apply Upd.over) F.lay57 rfl rfl ?_
  refine Zg ?_; refine Ze ?_; refine Zl (.cons (k := 0) rfl .nil) ?_; refine Zam ?_
  refine Zal (.inr rfl) (.cell rfl (by repeat first | exact List.Mem.head _ | refine List.Mem.tail _ ?_ | refine List.mem_append_right _ ?_) F.lay57 rfl rfl .nil) (fun w hw => ?_)
  refine ⟨_, rfl, (hw.cnt (by intro zz; first | exact Nat.le_refl _ | (simp only [Zh, Zf, Zi, cat, List.append_eq, List.append_assoc, List.cons_append, List.nil_append, List.append_nil]; omega) | (simp only [Zh, Zf, Zi, cat, List.append_eq, List.append_assoc, List.cons_append, List.nil_append, List.append_nil, PeerV.segs]; omega))), ?_⟩
  clear hw
  rfl
theorem Pad_ok (M : Mem) (s : ByteArray) (hs : s.size ≤ 4096) (hM : M.dr = 0) : Fs Tryd.prog 27 [.string s] M (fun v => ∃ p : ByteArray, v = .tuple #[.string p, .int .i64 0] ∧ natsOf p = padN (natsOf s)) := by
  refine Zbd Tryd.func27 rfl Tryd.ntmps27 rfl ?_; intro H
  refine Zk ?_; refine Za (l := [0, 1]) rfl ?_; refine Zc rfl rfl rfl rfl ?_; refine Zc rfl rfl rfl rfl ?_; refine Zg ?_; refine Ze ?_; refine Zk ?_; refine Zk ?_; refine Za (l := [0, 1, 2]) rfl ?_; refine Zd rfl rfl rfl rfl ?_; refine X_len_str rfl rfl rfl rfl Tryd.underlying9 rfl ?_; refine Zaq rfl rfl rfl rfl rfl rfl ?_; refine Zg ?_; refine Ze ?_; refine Zl (.cons (k := 9) rfl (.cons (k := 3) rfl (.cons (k := 2) rfl (.cons (k := 0) rfl .nil)))) ?_
  refine Zai rfl (fun hc1 => ?_) (fun hc1 => ?_)
  · first | replace hc1 := dT hc1 | replace hc1 := dF hc1 | replace hc1 := nT hc1 | replace hc1 := nF hc1 | skip
    try simp only [PeerV.eta] at hc1
    first | (exfalso; omega) | (exfalso; simp [eqX] at hc1; done) | contradiction
  · first | replace hc1 := dT hc1 | replace hc1 := dF hc1 | replace hc1 := nT hc1 | replace hc1 := nF hc1 | skip
    try simp only [PeerV.eta] at hc1
    first
    | (exfalso; omega)
    | (exfalso; simp [eqX] at hc1; done)
    | contradiction
    | skip
      refine Zah ?_; refine Ze ?_; refine Zl (.cons (k := 3) rfl (.cons (k := 2) rfl (.cons (k := 0) rfl .nil))) ?_; refine Zk ?_; refine Za (l := [0, 1, 2, 3, 4, 5]) rfl ?_; refine Zd rfl rfl rfl rfl ?_; refine X_len_str rfl rfl rfl rfl Tryd.underlying9 rfl ?_; refine Zck rfl rfl rfl rfl (by first | decide | omega) (by first | exact Zch (by omega) | rfl) rfl ?_; refine Zav rfl rfl rfl rfl rfl (by first | exact Zaa (by decide) (by omega) | exact Zm (by decide) (by omega) | exact Zo (by decide) (by omega) | exact Zn (by decide) (by omega) | exact Zt _ | exact Zz _ | exact Zq _ | exact rfl) rfl ?_; refine Zck rfl rfl rfl rfl (by first | decide | omega) (by first | exact Zch (by omega) | rfl) rfl ?_
      rw [show (119 - (s.size : Int) % 64) % 64 = ((((119 - s.size % 64) % 64) : Nat) : Int) by omega]
      refine Zc rfl rfl rfl rfl ?_; refine Zg ?_; refine Ze ?_; refine Zl (.cons (k := 4) rfl (.cons (k := 3) rfl (.cons (k := 2) rfl (.cons (k := 0) rfl .nil)))) ?_; refine Zk ?_; refine Za (l := [0, 1]) rfl ?_
      refine X_makeSliceO (k := 8) (zr := u8R 0) rfl rfl rfl rfl F.elem67 F.zero5 rfl rfl rfl (by decide) (by decide) rfl ?_; intro b2 hs1 ho1
      refine Zc rfl rfl rfl rfl ?_; refine Zg ?_; refine Ze ?_; refine Zl (.cons (k := 5) rfl (.cons (k := 4) rfl (.cons (k := 3) rfl (.cons (k := 2) rfl (.cons (k := 0) rfl .nil))))) ?_; refine Zk ?_; refine Zk ?_; refine Za (l := [0, 1, 2]) rfl ?_; refine Zd rfl rfl rfl rfl ?_; refine Zat rfl rfl rfl rfl F.elem67 rfl ?_; refine Zd rfl rfl rfl rfl ?_; refine Zg ?_; refine Ze ?_; refine Zl (.cons (k := 18) rfl (.cons (k := 17) rfl (.cons (k := 5) rfl (.cons (k := 4) rfl (.cons (k := 3) rfl (.cons (k := 2) rfl (.cons (k := 0) rfl .nil))))))) ?_; refine Zad ?_; refine Zl (.cons (k := 18) rfl (.cons (k := 17) rfl (.cons (k := 5) rfl (.cons (k := 4) rfl (.cons (k := 3) rfl (.cons (k := 2) rfl (.cons (k := 0) rfl .nil))))))) ?_; refine Zbu (Hin := hs1) (.succ .zero) (by repeat first | exact Rem.here _ | exact Rem.two | apply Rem.skip | apply Rem.over) (fun (i : Nat) M1 h1 z => M1 = M ∧ z = [(18, .int .i64 (i : Int))] ∧ i ≤ 8 ∧ OSl 5 1 (.slice (some ⟨b2, 0, none⟩) 8 8) h1 ((rowsT (8 * s.size) (i)).map u8R)) (fun i => 8 - i) (0) (⟨rfl, rfl, by omega, ho1⟩) ?_
      rintro i M1 h1 z hm1 ⟨hM1, rfl, hi, ho⟩
      subst hM1
      refine Zk ?_; refine Za (l := [0]) rfl ?_; refine Zaq rfl rfl rfl rfl rfl rfl ?_; refine Zg ?_; refine Ze ?_; refine Zk ?_
      refine Zai rfl (fun hc2 => ?_) (fun hc2 => ?_)
      · first | replace hc2 := dT hc2 | replace hc2 := dF hc2 | replace hc2 := nT hc2 | replace hc2 := nF hc2 | skip
        try simp only [PeerV.eta] at hc2
        first
        | (exfalso; omega)
        | (exfalso; simp [eqX] at hc2; done)
        | contradiction
        | skip
          refine Zah ?_; refine Ze ?_; refine Zk ?_; refine Zad ?_; refine Zk ?_; refine Za (l := [0, 1]) rfl ?_; refine Zd rfl rfl rfl rfl ?_; refine Zc rfl rfl rfl rfl ?_; refine Zg ?_; refine Ze ?_; refine Za (l := [0, 1, 2, 3, 4, 5, 6, 7, 8, 9, 10, 11, 12]) rfl ?_; refine Zd rfl rfl rfl rfl ?_; refine Zd rfl rfl rfl rfl ?_; refine Zav rfl rfl rfl rfl rfl (by first | exact Zaa (by decide) (by omega) | exact Zm (by decide) (by omega) | exact Zo (by decide) (by omega) | exact Zn (by decide) (by omega) | exact Zt _ | exact Zz _ | exact Zq _ | exact rfl) rfl ?_
          rw [show (7 : Int) - (i : Int) = ((7 - i : Nat) : Int) by omega]
          refine Zd rfl rfl rfl rfl ?_; refine X_len_str rfl rfl rfl rfl Tryd.underlying9 rfl ?_; refine Zav rfl rfl rfl rfl rfl (by first | exact Zaa (by decide) (by omega) | exact Zm (by decide) (by omega) | exact Zo (by decide) (by omega) | exact Zn (by decide) (by omega) | exact Zt _ | exact Zz _ | exact Zq _ | exact rfl) rfl ?_
          rw [show (8 : Int) * (s.size : Int) = ((8 * s.size : Nat) : Int) by omega]
          refine Zci rfl rfl rfl Tryd.underlying3 Tryd.underlying68 (by first | exact Zaa (by decide) (by omega) | exact Zm (by decide) (by omega) | exact Zo (by decide) (by omega) | exact Zn (by decide) (by omega) | exact Zt _ | exact Zz _ | exact Zq _ | exact rfl) rfl ?_; refine Zd rfl rfl rfl rfl ?_; refine Zav rfl rfl rfl rfl rfl (by first | exact Zaa (by decide) (by omega) | exact Zm (by decide) (by omega) | exact Zo (by decide) (by omega) | exact Zn (by decide) (by omega) | exact Zt _ | exact Zz _ | exact Zq _ | exact rfl) rfl ?_
          rw [show (8 : Int) * (i : Int) = ((8 * i : Nat) : Int) by omega]
          refine X_shift rfl rfl rfl rfl (by omega) (shr_lit (8 * i) (by show 8 * i ≤ 64; omega)) rfl rfl ?_; refine Zci rfl rfl rfl Tryd.underlying68 Tryd.underlying5 (by first | exact Zaa (by decide) (by omega) | exact Zm (by decide) (by omega) | exact Zo (by decide) (by omega) | exact Zn (by decide) (by omega) | exact Zt _ | exact Zz _ | exact Zq _ | exact rfl) rfl ?_
          rw [byte_of]
          refine Zab rfl rfl rfl rfl F.elem67 (by first | rfl | exact (Int.toNat_of_nonneg (by omega)).symm) (by first | omega | (simp; done) | (simp; omega)) (by first | exact ⟨_, _, rfl⟩ | assumption | exact SlM.plain (by assumption) (by first | (simp; done) | (simp; omega)) | exact RdS.plain (by assumption) (by first | (simp; done) | (simp; omega)) | exact OSl.plain (by assumption) (by first | (simp; done) | (simp; omega))) rfl ?_
          refine X_storeO (b := b2) (j := 7 - i) rfl rfl rfl rfl (by constructor) (Zae rfl Zag) F.lay5 rfl rfl ho (by repeat first | exact Rem.here _ | exact Rem.two | apply Rem.skip | apply Rem.over) (by rw [List.length_map, rowsT_len _ _ hi]; omega) ?_; intro hs2 ho2
          replace ho2 : OSl 5 1 (.slice (some ⟨b2, 0, none⟩) 8 8) hs2 ((rowsT (8 * s.size) (i + 1)).map u8R) := by rw [← rowsT_set (by omega), List.map_set]; exact ho2.aZ (by simp [rowsT_len _ _ hi])
          refine Zg ?_; refine Zbs ?_; refine Ze ?_; refine Za (l := [0, 1]) rfl ?_; refine Zav rfl rfl rfl rfl rfl (by first | exact Zaa (by decide) (by omega) | exact Zm (by decide) (by omega) | exact Zo (by decide) (by omega) | exact Zn (by decide) (by omega) | exact Zt _ | exact Zz _ | exact Zq _ | exact rfl) rfl ?_; refine Zd rfl rfl rfl rfl ?_; refine Zg ?_; refine Zbj (a' := [(18, _)]) (i + 1) (hs2) (.cons (k := 18) rfl (.cons (k := 17) rfl (.cons (k := 5) rfl (.cons (k := 4) rfl (.cons (k := 3) rfl (.cons (k := 2) rfl (.cons (k := 0) rfl (.nil)))))))) (by first | exact Mem.le.refl _ | assumption | (repeat first | assumption | refine Mem.le.trans (by assumption) ?_)) (fun w hw => by first | exact hw | exact hw.cnt (by intro zz; first | exact Nat.le_refl _ | (simp only [Zh, Zf, Zi, cat, List.append_eq, List.append_assoc, List.cons_append, List.nil_append, List.append_nil]; omega) | (simp only [Zh, Zf, Zi, cat, List.append_eq, List.append_assoc, List.cons_append, List.nil_append, List.append_nil, PeerV.segs]; omega))) ?_ ?_
          · exact ⟨rfl, rfl, by omega, ho2⟩
          · omega
      · first | replace hc2 := dT hc2 | replace hc2 := dF hc2 | replace hc2 := nT hc2 | replace hc2 := nF hc2 | skip
        try simp only [PeerV.eta] at hc2
        first
        | (exfalso; omega)
        | (exfalso; simp [eqX] at hc2; done)
        | contradiction
        | skip
          refine Zbl ?_; refine Zao ?_; refine Zao ?_; refine Zbx ?_; refine Ze ?_; refine Zl (.cons (k := 5) rfl (.cons (k := 4) rfl (.cons (k := 3) rfl (.cons (k := 2) rfl (.cons (k := 0) rfl .nil))))) ?_; refine Zk ?_; refine Zaf (l := [0, 1, 2, 3, 4, 5, 6, 7, 8, 9]) #[0, 1, 0, 4, 15, 0, 32, 127, 255, 511] _ rfl (by kernel_rfl) (by kernel_rfl) St.drawn (fun _ h => h) ?_
          obtain rfl : i = 8 := by omega
          rw [rowsT_all] at ho
          refine Zd rfl rfl rfl rfl ?_; refine Zcl rfl rfl rfl rfl (by show s.size + 1 ≤ _; omega) rfl rfl ?_; refine Zd rfl rfl rfl rfl ?_; refine X_fs rfl rfl F.ok38 rfl (Repeat_ok _ ⟨#[0]⟩ ((119 - s.size % 64) % 64) hM (by omega) (by show 1 * _ ≤ _; omega)) rfl ?_
          rintro _ rfl
          refine Zcl rfl rfl rfl rfl (by rw [rep_size, ByteArray.size_append]; show s.size + 1 + _ ≤ _; omega) rfl rfl ?_; refine Zd rfl rfl rfl rfl ?_; refine X_convS (l := tailN (8 * s.size)) rfl rfl rfl (OSl.srcAll ho (by repeat first | exact Rem.here _ | exact Rem.two | apply Rem.skip | apply Rem.over) (fun u hu => by rw [u8_cells] at hu; obtain ⟨z, -, rfl⟩ := List.mem_map.1 hu; rfl)) F.elem67 Tryd.underlying5 Tryd.underlying9 rfl rfl ?_; refine Zcl rfl rfl rfl rfl (by first | (rw [ByteArray.size_append, rep_size, ByteArray.size_append, strOfNums_size, List.length_map]; show s.size + 1 + _ + 8 ≤ _; omega) | skip) rfl rfl ?_; refine Zc rfl rfl rfl rfl ?_; refine Zc rfl rfl rfl rfl ?_; refine Zg ?_; refine Ze ?_; refine Zl (.cons (k := 3) rfl (.cons (k := 2) rfl .nil)) ?_; refine Zam ?_
          refine Zal (.inr rfl) (.tmp rfl (.tmp rfl .nil)) (fun w hw => ?_)
          exact ⟨_, rfl, hw.cnt (by intro zz; first | exact Nat.le_refl _ | (simp only [Zh, Zf, Zi, cat, List.append_eq, List.append_assoc, List.cons_append, List.nil_append, List.append_nil]; omega) | (simp only [Zh, Zf, Zi, cat, List.append_eq, List.append_assoc, List.cons_append, List.nil_append, List.append_nil, PeerV.segs]; omega)), _, rfl, pad_is s⟩
end Go.Proofs.YtpfdblknaihidaaDoor
namespace Go.Esp
def stPlc (h : St5) : Plc := BitVec.ofNat 160 ((((h.a * 4294967296 + h.b) * 4294967296 + h.c) * 4294967296 + h.d) * 4294967296 + h.e)
def sumP (B : List Nat) : Plc := stPlc (blocksN (B.length / 64 + 2) (padN B) start5)
theorem stPlc_at {h : St5} (hh : h.ok) {i : Nat} (hi : i < 20) : idB (stPlc h) i = h.nth (i / 4) / 2 ^ (24 - 8 * (i % 4)) % 256 := by
  obtain ⟨a, b, c, d, e⟩ := h
  obtain ⟨h1, h2, h3, h4, h5⟩ := hh
  simp only at h1 h2 h3 h4 h5
  have e1 : (stPlc ⟨a, b, c, d, e⟩).toNat = (((a * 4294967296 + b) * 4294967296 + c) * 4294967296 + d) * 4294967296 + e := by
    unfold stPlc
    rw [BitVec.toNat_ofNat]
    exact Nat.mod_eq_of_lt (by show (((a * 4294967296 + b) * 4294967296 + c) * 4294967296 + d) * 4294967296 + e < 2 ^ 160; omega)
  unfold idB
  rw [e1]
  match i, hi with
  | 0, _ => show _ / 256 ^ 19 % 256 = a / 2 ^ 24 % 256; omega
  | 1, _ => show _ / 256 ^ 18 % 256 = a / 2 ^ 16 % 256; omega
  | 2, _ => show _ / 256 ^ 17 % 256 = a / 2 ^ 8 % 256; omega
  | 3, _ => show _ / 256 ^ 16 % 256 = a / 2 ^ 0 % 256; omega
  | 4, _ => show _ / 256 ^ 15 % 256 = b / 2 ^ 24 % 256; omega
  | 5, _ => show _ / 256 ^ 14 % 256 = b / 2 ^ 16 % 256; omega
  | 6, _ => show _ / 256 ^ 13 % 256 = b / 2 ^ 8 % 256; omega
  | 7, _ => show _ / 256 ^ 12 % 256 = b / 2 ^ 0 % 256; omega
  | 8, _ => show _ / 256 ^ 11 % 256 = c / 2 ^ 24 % 256; omega
  | 9, _ => show _ / 256 ^ 10 % 256 = c / 2 ^ 16 % 256; omega
  | 10, _ => show _ / 256 ^ 9 % 256 = c / 2 ^ 8 % 256; omega
  | 11, _ => show _ / 256 ^ 8 % 256 = c / 2 ^ 0 % 256; omega
  | 12, _ => show _ / 256 ^ 7 % 256 = d / 2 ^ 24 % 256; omega
  | 13, _ => show _ / 256 ^ 6 % 256 = d / 2 ^ 16 % 256; omega
  | 14, _ => show _ / 256 ^ 5 % 256 = d / 2 ^ 8 % 256; omega
  | 15, _ => show _ / 256 ^ 4 % 256 = d / 2 ^ 0 % 256; omega
  | 16, _ => show _ / 256 ^ 3 % 256 = e / 2 ^ 24 % 256; omega
  | 17, _ => show _ / 256 ^ 2 % 256 = e / 2 ^ 16 % 256; omega
  | 18, _ => show _ / 256 ^ 1 % 256 = e / 2 ^ 8 % 256; omega
  | 19, _ => show _ / 256 ^ 0 % 256 = e / 2 ^ 0 % 256; omega
  | n + 20, h => omega
theorem byte_at {h : St5} (hh : h.ok) {i : Nat} (hi : i < 20) : w8 (((h.nth (i / 4) : Nat) : Int) / 2 ^ (24 - 8 * (i % 4))) = ((idB (stPlc h) i : Nat) : Int) := by
  rw [stPlc_at hh hi]
  generalize 24 - 8 * (i % 4) = m
  rw [show ((2 : Int) ^ m) = ((2 ^ m : Nat) : Int) by simp]
  unfold w8
  rw [← Int.natCast_ediv]
  generalize h.nth (i / 4) / 2 ^ m = x
  omega
theorem blocksN_nil (n : Nat) (h : St5) : blocksN n [] h = h := by cases n <;> rfl
theorem blocksN_step {n : Nat} {l : List Nat} {h : St5} (hl : l ≠ []) : blocksN (n + 1) l h = blocksN n (l.drop 64) (stepN h (l.take 64)) := by
  cases l with
  | nil => exact absurd rfl hl
  | cons x l => rfl
theorem padN_len (B : List Nat) : (padN B).length = B.length + 9 + (119 - B.length % 64) % 64 := by
  unfold padN; simp; omega
theorem padN_blocks (B : List Nat) : ∃ m, (padN B).length = 64 * m ∧ m ≤ B.length / 64 + 2 := ⟨(padN B).length / 64, by rw [padN_len]; omega, by rw [padN_len]; omega⟩
theorem natsOf_ext (p : ByteArray) (i j : Nat) : natsOf (p.extract i j) = ((natsOf p).drop i).take (j - i) := by
  unfold natsOf
  rw [ByteArray.data_extract, Array.toList_extract, List.map_drop.symm, List.map_take.symm]
end Go.Esp
namespace Go.Proofs.YtpfdblknaihidaaDoor
open Go.Esp
theorem F.ok27 : okFn Tryd.prog 27 = true := by kernel_rfl
theorem F.ok28 : okFn Tryd.prog 28 = true := by kernel_rfl
theorem F.ok29 : okFn Tryd.prog 29 = true := by kernel_rfl
theorem F.zero34 : zeroOf Tryd.prog 34 = some (aggV [idSeg 0]) := by rw [idSeg0]; kernel_rfl
theorem Sum_ok (M : Mem) (s : ByteArray) (hs : s.size ≤ 4096) (hM : M.dr = 0) : Esp.Fn Tryd.prog 12 [.string s] M (fun M' v => v = .tuple #[aggV [idSeg (sumP (natsOf s))], .int .i64 0]) := by
  refine Zbv Tryd.func12 rfl Tryd.ntmps12 rfl ?_; intro H
  refine Zk ?_; refine Za (l := [0, 1]) rfl ?_
  refine Zbm rfl rfl F.zero34 (by constructor) rfl ?_; intro b1
  refine Zc rfl rfl rfl rfl ?_; refine Zg ?_; refine Ze ?_; refine Zk ?_; refine Za (l := [0, 1, 2, 3, 4, 5, 6]) rfl ?_; refine Zd rfl rfl rfl rfl ?_; refine X_fs rfl rfl F.ok27 rfl (Pad_ok _ s hs hM) rfl ?_
  rintro _ ⟨p, rfl, hp⟩
  obtain ⟨m, hm9, hmf⟩ := padN_blocks (natsOf s)
  have hps : p.size = 64 * m := by rw [← Zas, hp, hm9]
  obtain ⟨f, hf⟩ : ∃ f, f = (natsOf s).length / 64 + 2 := ⟨_, rfl⟩
  obtain ⟨R9, hR⟩ : ∃ R9, blocksN (f - 0) (natsOf p) start5 = R9 := ⟨_, rfl⟩
  refine Zd rfl rfl rfl rfl ?_; refine Zap rfl rfl rfl rfl rfl ?_; refine Zap rfl rfl rfl rfl rfl ?_; refine Zc rfl rfl rfl rfl ?_; refine Zc rfl rfl rfl rfl ?_; refine Zg ?_; refine Ze ?_; refine Zl (.cons (k := 5) rfl (.cons (k := 4) rfl (.cons (k := 3) rfl (.cons (k := 2) rfl .nil)))) ?_; refine Zk ?_; refine Zk ?_; refine Za (l := [0, 1]) rfl ?_; refine Zd rfl rfl rfl rfl ?_; refine Zaq rfl rfl rfl rfl rfl rfl ?_; refine Zg ?_; refine Ze ?_; refine Zl (.cons (k := 15) rfl (.cons (k := 5) rfl (.cons (k := 4) rfl (.cons (k := 3) rfl (.cons (k := 2) rfl .nil))))) ?_
  refine Zai rfl (fun hc2 => ?_) (fun hc2 => ?_)
  · first | replace hc2 := dT hc2 | replace hc2 := dF hc2 | replace hc2 := nT hc2 | replace hc2 := nF hc2 | skip
    try simp only [PeerV.eta] at hc2
    first | (exfalso; omega) | (exfalso; simp [eqX] at hc2; done) | contradiction
  · first | replace hc2 := dT hc2 | replace hc2 := dF hc2 | replace hc2 := nT hc2 | replace hc2 := nF hc2 | skip
    try simp only [PeerV.eta] at hc2
    first
    | (exfalso; omega)
    | (exfalso; simp [eqX] at hc2; done)
    | contradiction
    | skip
      refine Zah ?_; refine Ze ?_; refine Zl (.cons (k := 4) rfl (.cons (k := 3) rfl (.cons (k := 2) rfl .nil))) ?_; refine Zk ?_; refine Za (l := [0, 1, 2]) rfl ?_; refine X_fs rfl rfl F.ok28 rfl (Start_ok _) rfl ?_
      rintro _ rfl
      refine Zbm rfl rfl F.zero57 (by constructor) rfl ?_; intro b3
      refine Zbi rfl rfl rfl rfl (by constructor) (by first | ((try simp only [cat, List.cons_append, List.nil_append, List.append_nil]); (repeat (first | exact Zag | refine Zau ?_ | (refine Zae ?_ ?_; rfl))); done) | exact PeerV.flat _ | exact PeerV.flat ⟨_, _⟩ | exact stFlat _ | exact Zay _ | exact Zaz | (simp [flat, cat, Segs.cells, Seg.cells, Value.oneCell']; done)) (by repeat first | exact Upd.head | apply Upd.tail | apply Upd.over) F.lay57 rfl rfl ?_; refine Zg ?_; refine Ze ?_; refine Zl (.cons (k := 6) rfl (.cons (k := 4) rfl (.cons (k := 3) rfl (.cons (k := 2) rfl .nil)))) ?_; refine Zk ?_; refine Zad ?_; refine Zl (.cons (k := 4) rfl (.cons (k := 6) rfl (.cons (k := 3) rfl (.cons (k := 2) rfl .nil)))) ?_; refine Zbu (Hin := [(b3, rowO [stSeg (start5)] 57)]) (.succ .zero) (by repeat first | exact Rem.here _ | exact Rem.two | apply Rem.skip | apply Rem.over) (fun (k : Nat) M2 h1 z => ∃ (q : ByteArray) (g : St5), z = [(4, .string q)] ∧ k ≤ m ∧ q.size = 64 * (m - k) ∧ g.ok ∧ blocksN (f - k) (natsOf q) g = R9 ∧ h1 = [(b3, rowO [stSeg (g)] 57)]) (fun k => m - k) (0) (⟨p, start5, rfl, by omega, by omega, start5_ok, hR, rfl⟩) ?_
      rintro k M2 h1 z hm2 ⟨q, g, rfl, hk, hq, hg, hb, rfl⟩
      refine Zk ?_; refine Zk ?_; refine Za (l := [0, 1]) rfl ?_; refine Zd rfl rfl rfl rfl ?_; refine X_str rfl rfl rfl rfl rfl rfl ?_; refine Zg ?_; refine Ze ?_
      refine Zai rfl (fun hc4 => ?_) (fun hc4 => ?_)
      · first | replace hc4 := dT hc4 | replace hc4 := dF hc4 | replace hc4 := nT hc4 | replace hc4 := nF hc4 | skip
        try simp only [PeerV.eta] at hc4
        first
        | (exfalso; omega)
        | (exfalso; simp [eqX] at hc4; done)
        | contradiction
        | skip
          refine Zah ?_; refine Ze ?_; refine Zk ?_; refine Zad ?_; refine Zaf (l := [0, 1, 2, 3, 4, 5, 6, 7]) #[0, 0, 2, 7, 15, 31, 31, 63] _ rfl (by kernel_rfl) (by kernel_rfl) St.drawn (fun _ h => h) ?_
          have hz9 : q.size ≠ 0 := fun h9 => absurd (show q = ⟨#[]⟩ from ByteArray.ext (Array.eq_empty_of_size_eq_zero h9)) (by simp_all)
          first | refine Zan rfl rfl rfl (by repeat first | exact List.Mem.head _ | refine List.Mem.tail _ ?_ | refine List.mem_append_right _ ?_) F.lay57 rfl rfl rfl ?_ | refine Zv rfl rfl rfl (by first | assumption | exact SlM.mono (by assumption) (by assumption)) (by first | exact Zb (by omega) | exact List.getElem?_eq_getElem (by omega) | exact rfl | exact Zb (by first | (simp; done) | (simp; omega))) F.lay57 rfl rfl rfl ?_ | refine Zu rfl rfl rfl (by assumption) (by first | exact Zb (by omega) | exact List.getElem?_eq_getElem (by omega) | exact rfl | exact Zb (by first | (simp; done) | (simp; omega))) F.lay57 rfl rfl rfl ?_ | refine Zs rfl rfl rfl (by first | assumption | exact Mem.get_of (by assumption) (by repeat first | assumption | refine Mem.le.trans (by assumption) ?_)) F.lay57 rfl rfl rfl ?_ | refine Zp rfl rfl rfl (by assumption) (by repeat first | exact Rem.here _ | exact Rem.two | apply Rem.skip | apply Rem.over) (by first | exact Zb (by omega) | exact List.getElem?_eq_getElem (by omega) | exact rfl | exact Zb (by first | (simp; done) | (simp; omega))) F.lay57 rfl rfl rfl ?_
          refine Zd rfl rfl rfl rfl ?_; refine X_slice_str (olo := none) (ohi := some 64) rfl rfl rfl .none (.some rfl rfl) Tryd.underlying9 (by show 64 ≤ q.size; omega) (Nat.zero_le _) (show _ = q.extract 0 64 from rfl) rfl ?_; refine X_fn rfl rfl F.ok29 rfl (Step_ok _ g (q.extract 0 64) hg (by rw [← Zas, natsOf_ext]; simp [Zas]; omega)) rfl ?_
          rintro _ M4 hm4 rfl
          refine Zd rfl rfl rfl rfl ?_; refine Zap rfl rfl rfl rfl rfl ?_; refine Zap rfl rfl rfl rfl rfl ?_; refine Zbi rfl rfl rfl rfl (by constructor) (by first | ((try simp only [cat, List.cons_append, List.nil_append, List.append_nil]); (repeat (first | exact Zag | refine Zau ?_ | (refine Zae ?_ ?_; rfl))); done) | exact PeerV.flat _ | exact PeerV.flat ⟨_, _⟩ | exact stFlat _ | exact Zay _ | exact Zaz | (simp [flat, cat, Segs.cells, Seg.cells, Value.oneCell']; done)) (by repeat first | exact Upd.head | apply Upd.tail | apply Upd.over) F.lay57 rfl rfl ?_; refine Zg ?_; refine Zbs ?_; refine Ze ?_; refine Zl (.cons (k := 28) rfl (.cons (k := 23) rfl (.cons (k := 27) rfl (.cons (k := 26) rfl (.cons (k := 25) rfl (.cons (k := 24) rfl (.cons (k := 20) rfl (.cons (k := 19) rfl (.cons (k := 4) rfl (.cons (k := 6) rfl (.cons (k := 3) rfl (.cons (k := 2) rfl .nil)))))))))))) ?_
          refine Za (l := [0, 1, 2]) rfl ?_; refine Zd rfl rfl rfl rfl ?_; refine X_slice_str (olo := some 64) (ohi := none) rfl rfl rfl (.some rfl rfl) .none Tryd.underlying9 (Nat.le_refl _) (by show 64 ≤ q.size; omega) (show _ = q.extract 64 q.size from rfl) rfl ?_; refine Zc rfl rfl rfl rfl ?_; refine Zg ?_; refine Zbj (a' := [(4, _)]) (k + 1) ([(b3, rowO [stSeg (stepN g (natsOf (q.extract 0 64)))] 57)]) (.cons (k := 4) rfl (.cons (k := 6) rfl (.cons (k := 3) rfl (.cons (k := 2) rfl (.nil))))) (hm2.trans hm4) (fun w hw => by first | exact hw | exact hw.cnt (by intro zz; first | exact Nat.le_refl _ | (simp only [Zh, Zf, Zi, cat, List.append_eq, List.append_assoc, List.cons_append, List.nil_append, List.append_nil]; omega) | (simp only [Zh, Zf, Zi, cat, List.append_eq, List.append_assoc, List.cons_append, List.nil_append, List.append_nil, PeerV.segs]; omega))) ?_ ?_
          · refine ⟨q.extract 64 q.size, stepN g (natsOf (q.extract 0 64)), rfl, by omega, by rw [← Zas, natsOf_ext]; simp [Zas]; omega, stepN_ok, ?_, rfl⟩
            rw [← hb, show f - k = (f - (k + 1)) + 1 by omega, blocksN_step (by intro h9; have := Zas q; rw [h9] at this; simp at this; omega), natsOf_ext, natsOf_ext]
            congr 1
            exact List.take_of_length_le (by simp [Zas])
          · omega
      · first | replace hc4 := dT hc4 | replace hc4 := dF hc4 | replace hc4 := nT hc4 | replace hc4 := nF hc4 | skip
        try simp only [PeerV.eta] at hc4
        first
        | (exfalso; omega)
        | (exfalso; simp [eqX] at hc4; done)
        | contradiction
        | skip
          refine Zbl ?_; refine Zao ?_; refine Zao ?_; refine Zbx ?_; refine Ze ?_; refine Zl (.cons (k := 6) rfl (.cons (k := 3) rfl (.cons (k := 2) rfl .nil))) ?_; refine Zk ?_; refine Za (l := [0]) rfl ?_
          refine Zbm rfl rfl F.zero34 (by constructor) rfl ?_; intro b5
          refine Zg ?_; refine Ze ?_; refine Zk ?_; refine Zk ?_; refine Za (l := [0]) rfl ?_; refine Zd rfl rfl rfl rfl ?_; refine Zg ?_; refine Ze ?_; refine Zad ?_; refine Zl (.cons (k := 30) rfl (.cons (k := 7) rfl (.cons (k := 6) rfl (.cons (k := 3) rfl (.cons (k := 2) rfl .nil))))) ?_; refine Zbu (Hin := [(b5, rowO [idSeg 0] 34)]) (.succ .zero) (by repeat first | exact Rem.here _ | exact Rem.two | apply Rem.skip | apply Rem.over) (fun (i : Nat) M3 h1 z => M3 = M2 ∧ z = [(30, .int .i64 (i : Int))] ∧ i ≤ 20 ∧ h1 = [(b5, rowO [.arr 20 (frontV (stPlc g) 0 i)] 34)]) (fun i => 20 - i) (0) (⟨rfl, rfl, by omega, by rw [frontV_none]; rfl⟩) ?_
          rintro i M3 h1 z hm3 ⟨hM3, rfl, hi, rfl⟩
          subst hM3
          refine Zk ?_; refine Za (l := [0]) rfl ?_; refine Zaq rfl rfl rfl rfl rfl rfl ?_; refine Zg ?_; refine Ze ?_; refine Zk ?_
          refine Zai rfl (fun hc6 => ?_) (fun hc6 => ?_)
          · first | replace hc6 := dT hc6 | replace hc6 := dF hc6 | replace hc6 := nT hc6 | replace hc6 := nF hc6 | skip
            try simp only [PeerV.eta] at hc6
            first
            | (exfalso; omega)
            | (exfalso; simp [eqX] at hc6; done)
            | contradiction
            | skip
              refine Zah ?_; refine Ze ?_; refine Zk ?_; refine Zad ?_; refine Zk ?_; refine Za (l := [0, 1]) rfl ?_; refine Zd rfl rfl rfl rfl ?_; refine Zc rfl rfl rfl rfl ?_; refine Zg ?_; refine Ze ?_; refine Za (l := [0, 1, 2, 3, 4, 5, 6, 7, 8, 9, 10, 11, 12]) rfl ?_; refine Zd rfl rfl rfl rfl ?_; refine Zd rfl rfl rfl rfl ?_; refine X_quo rfl rfl rfl rfl (by first | decide | omega) (by first | exact quo_in rfl (by omega) (by omega) (by omega) | rfl) rfl ?_
              rw [show (i : Int) / 4 = ((i / 4 : Nat) : Int) by omega]
              refine Zw rfl rfl rfl rfl F.arr57 (by first | rfl | exact (Int.toNat_of_nonneg (by omega)).symm) (by first | omega | decide | (simp; omega)) rfl ?_; refine Zr rfl rfl rfl (by repeat first | exact List.Mem.head _ | refine List.Mem.tail _ ?_ | refine List.mem_append_right _ ?_) F.lay55 (stCell _ (by omega)) rfl ?_; refine Zd rfl rfl rfl rfl ?_; refine Zck rfl rfl rfl rfl (by first | decide | omega) (by first | exact Zch (by omega) | rfl) rfl ?_
              rw [show (i : Int) % 4 = ((i % 4 : Nat) : Int) by omega]
              refine Zav rfl rfl rfl rfl rfl (by first | exact Zaa (by decide) (by omega) | exact Zm (by decide) (by omega) | exact Zo (by decide) (by omega) | exact Zn (by decide) (by omega) | exact Zt _ | exact Zz _ | exact Zq _ | exact rfl) rfl ?_; refine Zav rfl rfl rfl rfl rfl (by first | exact Zaa (by decide) (by omega) | exact Zm (by decide) (by omega) | exact Zo (by decide) (by omega) | exact Zn (by decide) (by omega) | exact Zt _ | exact Zz _ | exact Zq _ | exact rfl) rfl ?_
              rw [show (24 : Int) - 8 * ((i % 4 : Nat) : Int) = ((24 - 8 * (i % 4) : Nat) : Int) by omega]
              refine X_shift rfl rfl rfl rfl (by omega) (shr_lit (24 - 8 * (i % 4)) (by show _ ≤ 32; omega)) rfl rfl ?_; refine Zci rfl rfl rfl Tryd.underlying55 Tryd.underlying5 (by first | exact Zaa (by decide) (by omega) | exact Zm (by decide) (by omega) | exact Zo (by decide) (by omega) | exact Zn (by decide) (by omega) | exact Zt _ | exact Zz _ | exact Zq _ | exact rfl) rfl ?_; refine Zw rfl rfl rfl rfl F.arr34 (by first | rfl | exact (Int.toNat_of_nonneg (by omega)).symm) (by first | omega | decide | (simp; omega)) rfl ?_
              first | refine Zbi rfl rfl rfl rfl (by constructor) (by first | ((try simp only [cat, List.cons_append, List.nil_append, List.append_nil]); (repeat (first | exact Zag | refine Zau ?_ | (refine Zae ?_ ?_; rfl))); done) | (simp [flat, cat, Segs.cells, Seg.cells, Value.oneCell']; done)) (by repeat first | exact Upd.head | apply Upd.tail | apply Upd.over) F.lay5 rfl rfl ?_ | refine X_store_cell rfl rfl rfl rfl rfl rfl (by repeat first | exact Upd.head | apply Upd.tail | apply Upd.over) F.lay5 (arr_len (by first | omega | decide)) (arr_set (by first | omega | decide)) ?_
              rw [frontV_step (stPlc g) 0 (k := i) (by omega) (byte_at hg (by omega))]
              refine Zg ?_; refine Zbs ?_; refine Ze ?_; refine Za (l := [0, 1]) rfl ?_; refine Zav rfl rfl rfl rfl rfl (by first | exact Zaa (by decide) (by omega) | exact Zm (by decide) (by omega) | exact Zo (by decide) (by omega) | exact Zn (by decide) (by omega) | exact Zt _ | exact Zz _ | exact Zq _ | exact rfl) rfl ?_; refine Zd rfl rfl rfl rfl ?_; refine Zg ?_; refine Zbj (a' := [(30, _)]) (i + 1) ([(b5, rowO [.arr 20 (frontV (stPlc g) 0 (i + 1))] 34)]) (.cons (k := 30) rfl (.cons (k := 7) rfl (.cons (k := 6) rfl (.cons (k := 3) rfl (.cons (k := 2) rfl (.nil)))))) (by first | exact Mem.le.refl _ | assumption | (repeat first | assumption | refine Mem.le.trans (by assumption) ?_)) (fun w hw => by first | exact hw | exact hw.cnt (by intro zz; first | exact Nat.le_refl _ | (simp only [Zh, Zf, Zi, cat, List.append_eq, List.append_assoc, List.cons_append, List.nil_append, List.append_nil]; omega) | (simp only [Zh, Zf, Zi, cat, List.append_eq, List.append_assoc, List.cons_append, List.nil_append, List.append_nil, PeerV.segs]; omega))) ?_ ?_
              · exact ⟨rfl, rfl, by omega, rfl⟩
              · omega
          · first | replace hc6 := dT hc6 | replace hc6 := dF hc6 | replace hc6 := nT hc6 | replace hc6 := nF hc6 | skip
            try simp only [PeerV.eta] at hc6
            first
            | (exfalso; omega)
            | (exfalso; simp [eqX] at hc6; done)
            | contradiction
            | skip
              refine Zbl ?_; refine Zao ?_; refine Zao ?_; refine Zbx ?_; refine Ze ?_; refine Zl (.cons (k := 7) rfl (.cons (k := 3) rfl (.cons (k := 2) rfl .nil))) ?_; refine Zk ?_; refine Za (l := [0, 1, 2]) rfl ?_
              obtain rfl : i = 20 := by omega
              rw [frontV_all]
              rw [show (Seg.arr 20 (idV (stPlc g))) = idSeg (stPlc g) from rfl]
              first | refine Zan rfl rfl rfl (by repeat first | exact List.Mem.head _ | refine List.Mem.tail _ ?_ | refine List.mem_append_right _ ?_) F.lay34 rfl rfl rfl ?_ | refine Zv rfl rfl rfl (by first | assumption | exact SlM.mono (by assumption) (by assumption)) (by first | exact Zb (by omega) | exact List.getElem?_eq_getElem (by omega) | exact rfl | exact Zb (by first | (simp; done) | (simp; omega))) F.lay34 rfl rfl rfl ?_ | refine Zu rfl rfl rfl (by assumption) (by first | exact Zb (by omega) | exact List.getElem?_eq_getElem (by omega) | exact rfl | exact Zb (by first | (simp; done) | (simp; omega))) F.lay34 rfl rfl rfl ?_ | refine Zs rfl rfl rfl (by first | assumption | exact Mem.get_of (by assumption) (by repeat first | assumption | refine Mem.le.trans (by assumption) ?_)) F.lay34 rfl rfl rfl ?_ | refine Zp rfl rfl rfl (by assumption) (by repeat first | exact Rem.here _ | exact Rem.two | apply Rem.skip | apply Rem.over) (by first | exact Zb (by omega) | exact List.getElem?_eq_getElem (by omega) | exact rfl | exact Zb (by first | (simp; done) | (simp; omega))) F.lay34 rfl rfl rfl ?_
              refine Zbi rfl rfl rfl rfl (by constructor) (by first | ((try simp only [cat, List.cons_append, List.nil_append, List.append_nil]); (repeat (first | exact Zag | refine Zau ?_ | (refine Zae ?_ ?_; rfl))); done) | exact PeerV.flat _ | exact PeerV.flat ⟨_, _⟩ | exact stFlat _ | exact Zay _ | exact Zaz | (simp [flat, cat, Segs.cells, Seg.cells, Value.oneCell']; done)) (by repeat first | exact Upd.head | apply Upd.tail | apply Upd.over) F.lay34 rfl rfl ?_; refine Zc rfl rfl rfl rfl ?_; refine Zg ?_; refine Ze ?_; refine Zl (.cons (k := 3) rfl (.cons (k := 2) rfl .nil)) ?_; refine Zam ?_
              refine Zal (.inr rfl) (.cell rfl (by repeat first | exact List.Mem.head _ | refine List.Mem.tail _ ?_ | refine List.mem_append_right _ ?_) F.lay34 rfl rfl (.tmp rfl .nil)) (fun w hw => ?_)
              have hq0 : q = ⟨#[]⟩ := by simp_all
              refine ⟨_, M3, rfl, (by first | exact Mem.le.refl _ | assumption | exact Mem.le.trans (by assumption) (by assumption) | exact Mem.le.trans (by assumption) (Mem.le.trans (by assumption) (by assumption))), hw.cnt (by intro zz; first | exact Nat.le_refl _ | (simp only [Zh, Zf, Zi, cat, List.append_eq, List.append_assoc, List.cons_append, List.nil_append, List.append_nil]; omega) | (simp only [Zh, Zf, Zi, cat, List.append_eq, List.append_assoc, List.cons_append, List.nil_append, List.append_nil, PeerV.segs]; omega)), ?_⟩
              have hg9 : stPlc g = sumP (natsOf s) := by
                unfold sumP; rw [← hf, ← hp, show f = f - 0 by omega, hR, ← hb, hq0]
                show _ = stPlc (blocksN _ [] g)
                rw [blocksN_nil]
              rw [← hg9]
              rfl
end Go.Proofs.YtpfdblknaihidaaDoor
namespace Go.Proofs
open Go.Shelf
def Tryd.itoaL_ren : Go.Shelf.Ren := ⟨fun | 171 => 13 | 243 => 30 | 246 => 42 | 283 => 69 | 284 => 70 | 285 => 71 | 286 => 72 | 129 => 52 | 317 => 86 | 318 => 87 | 319 => 88 | 320 => 89 | 337 => 93 | 338 => 94 | n => n, fun | 3 => 3 | 9 => 9 | 2 => 2 | 4 => 4 | 171 => 106 | 0 => 0 | 53 => 68 | 37 => 67 | 5 => 5 | 173 => 108 | 212 => 124 | 51 => 55 | 20 => 20 | 213 => 125 | 46 => 63 | 232 => 132 | 233 => 105 | n => n, fun | 17 => 1 | 18 => 2 | 19 => 3 | n => n⟩
theorem Tryd.itoaL : Go.Proofs.Lays.n171 Tryd.prog Tryd.itoaL_ren := {
  mixed := by kernel_rfl
  f129 := Tryd.func52.trans (congrArg some (by kernel_rfl))
  f171 := Tryd.func13.trans (congrArg some (by kernel_rfl))
  f243 := Tryd.func30.trans (congrArg some (by kernel_rfl))
  f246 := Tryd.func42.trans (congrArg some (by kernel_rfl))
  f283 := Tryd.func69.trans (congrArg some (by kernel_rfl))
  f284 := Tryd.func70.trans (congrArg some (by kernel_rfl))
  f285 := Tryd.func71.trans (congrArg some (by kernel_rfl))
  f286 := Tryd.func72.trans (congrArg some (by kernel_rfl))
  f317 := Tryd.func86.trans (congrArg some (by kernel_rfl))
  f318 := Tryd.func87.trans (congrArg some (by kernel_rfl))
  f319 := Tryd.func88.trans (congrArg some (by kernel_rfl))
  f320 := Tryd.func89.trans (congrArg some (by kernel_rfl))
  f337 := Tryd.func93.trans (congrArg some (by kernel_rfl))
  f338 := Tryd.func94.trans (congrArg some (by kernel_rfl))
  t0 := Tryd.underlying0
  a0 := Tryd.isAgg0
  z0 := Tryd.sizeOf0
  v0 := Tryd.zeroValue0
  t2 := Tryd.underlying2
  a2 := Tryd.isAgg2
  z2 := Tryd.sizeOf2
  v2 := Tryd.zeroValue2
  t3 := Tryd.underlying3
  a3 := Tryd.isAgg3
  z3 := Tryd.sizeOf3
  v3 := Tryd.zeroValue3
  t4 := Tryd.underlying4
  a4 := Tryd.isAgg4
  z4 := Tryd.sizeOf4
  v4 := Tryd.zeroValue4
  t5 := Tryd.underlying5
  a5 := Tryd.isAgg5
  z5 := Tryd.sizeOf5
  v5 := Tryd.zeroValue5
  t9 := Tryd.underlying9
  a9 := Tryd.isAgg9
  z9 := Tryd.sizeOf9
  v9 := Tryd.zeroValue9
  t20 := Tryd.underlying20
  a20 := Tryd.isAgg20
  z20 := Tryd.sizeOf20
  v20 := Tryd.zeroValue20
  t37 := Tryd.underlying67
  a37 := Tryd.isAgg67
  z37 := Tryd.sizeOf67
  v37 := Tryd.zeroValue67
  t46 := Tryd.underlying63
  a46 := Tryd.isAgg63
  z46 := Tryd.sizeOf63
  v46 := Tryd.zeroValue63
  t51 := Tryd.underlying55
  a51 := Tryd.isAgg55
  z51 := Tryd.sizeOf55
  v51 := Tryd.zeroValue55
  t53 := Tryd.underlying68
  a53 := Tryd.isAgg68
  z53 := Tryd.sizeOf68
  v53 := Tryd.zeroValue68
  t171 := Tryd.underlying106
  a171 := Tryd.isAgg106
  z171 := Tryd.sizeOf106
  v171 := Tryd.zeroValue106
  t173 := Tryd.underlying108
  a173 := Tryd.isAgg108
  z173 := Tryd.sizeOf108
  v173 := Tryd.zeroValue108
  t212 := Tryd.underlying124
  a212 := Tryd.isAgg124
  z212 := Tryd.sizeOf124
  v212 := Tryd.zeroValue124
  t213 := Tryd.underlying125
  a213 := Tryd.isAgg125
  z213 := Tryd.sizeOf125
  t232 := Tryd.underlying132
  a232 := Tryd.isAgg132
  z232 := Tryd.sizeOf132
  v232 := Tryd.zeroValue132
  t233 := Tryd.underlying105
  a233 := Tryd.isAgg105
  z233 := Tryd.sizeOf105
  v233 := Tryd.zeroValue105
  g17 := by kernel_rfl
  g18 := by kernel_rfl
  g19 := by kernel_rfl }
end Go.Proofs
namespace Go.Esp
open Go.Proofs Go.Shelf Go.RowKit Go.Lib
theorem Itoa_ok (M : Mem) (i : Nat) (hi : i < 100) : Fs Tryd.prog (Tryd.itoaL_ren.f 171) [.int .i64 (i : Int)] M (fun v => v = .string ⟨(decDigits i).toArray⟩) := fun H w hw =>
  (Any.strconv_Itoa_small Tryd.itoaL i hi w).mono fun e w' ⟨he, hw'⟩ => ⟨_, he, hw'.symm ▸ hw, rfl⟩
end Go.Esp
namespace Go.Proofs
open Go.Shelf
def Tryd.sortL_ren : Go.Shelf.Ren := ⟨fun | 6 => 14 | 15 => 32 | 14 => 31 | 28 => 51 | 29 => 52 | 20 => 43 | 21 => 44 | 22 => 45 | 23 => 46 | 24 => 47 | 25 => 48 | 26 => 49 | 27 => 50 | 46 => 73 | 47 => 74 | 48 => 75 | 49 => 76 | 50 => 77 | 57 => 90 | n => n, fun | 22 => 23 | 24 => 39 | 25 => 41 | 3 => 3 | 39 => 63 | 0 => 0 | 53 => 55 | 55 => 68 | 4 => 4 | 46 => 82 | 45 => 81 | 50 => 86 | 5 => 5 | 9 => 9 | 66 => 110 | 70 => 114 | 76 => 126 | 77 => 127 | n => n, fun | n => n⟩
theorem Tryd.sortL : Go.Proofs.SlLaysF0.n6 Tryd.prog Tryd.sortL_ren := {
  mixed := by kernel_rfl
  f6 := ⟨Tryd.f14.name, by decide, Tryd.func14.trans (congrArg some (by kernel_rfl))⟩
  f14 := ⟨Tryd.f31.name, by decide, Tryd.func31.trans (congrArg some (by kernel_rfl))⟩
  f15 := Tryd.func32.trans (congrArg some (by kernel_rfl))
  f20 := ⟨Tryd.f43.name, by decide, Tryd.func43.trans (congrArg some (by kernel_rfl))⟩
  f21 := ⟨Tryd.f44.name, by decide, Tryd.func44.trans (congrArg some (by kernel_rfl))⟩
  f22 := ⟨Tryd.f45.name, by decide, Tryd.func45.trans (congrArg some (by kernel_rfl))⟩
  f23 := ⟨Tryd.f46.name, by decide, Tryd.func46.trans (congrArg some (by kernel_rfl))⟩
  f24 := ⟨Tryd.f47.name, by decide, Tryd.func47.trans (congrArg some (by kernel_rfl))⟩
  f25 := ⟨Tryd.f48.name, by decide, Tryd.func48.trans (congrArg some (by kernel_rfl))⟩
  f26 := ⟨Tryd.f49.name, by decide, Tryd.func49.trans (congrArg some (by kernel_rfl))⟩
  f27 := ⟨Tryd.f50.name, by decide, Tryd.func50.trans (congrArg some (by kernel_rfl))⟩
  f28 := Tryd.func51.trans (congrArg some (by kernel_rfl))
  f29 := Tryd.func52.trans (congrArg some (by kernel_rfl))
  f46 := ⟨Tryd.f73.name, by decide, Tryd.func73.trans (congrArg some (by kernel_rfl))⟩
  f47 := Tryd.func74.trans (congrArg some (by kernel_rfl))
  f48 := Tryd.func75.trans (congrArg some (by kernel_rfl))
  f49 := ⟨Tryd.f76.name, by decide, Tryd.func76.trans (congrArg some (by kernel_rfl))⟩
  f50 := ⟨Tryd.f77.name, by decide, Tryd.func77.trans (congrArg some (by kernel_rfl))⟩
  f57 := ⟨Tryd.f90.name, by decide, Tryd.func90.trans (congrArg some (by kernel_rfl))⟩
  t0 := Tryd.underlying0
  a0 := Tryd.isAgg0
  z0 := Tryd.sizeOf0
  v0 := Tryd.zeroValue0
  t3 := Tryd.underlying3
  a3 := Tryd.isAgg3
  z3 := Tryd.sizeOf3
  v3 := Tryd.zeroValue3
  t4 := Tryd.underlying4
  a4 := Tryd.isAgg4
  z4 := Tryd.sizeOf4
  v4 := Tryd.zeroValue4
  t5 := Tryd.underlying5
  a5 := Tryd.isAgg5
  z5 := Tryd.sizeOf5
  v5 := Tryd.zeroValue5
  t9 := Tryd.underlying9
  a9 := Tryd.isAgg9
  z9 := Tryd.sizeOf9
  v9 := Tryd.zeroValue9
  t22 := Tryd.underlying23
  a22 := Tryd.isAgg23
  z22 := Tryd.sizeOf23
  v22 := Tryd.zeroValue23
  t25 := Tryd.underlying41
  a25 := Tryd.isAgg41
  z25 := Tryd.sizeOf41
  v25 := Tryd.zeroValue41
  t39 := Tryd.underlying63
  a39 := Tryd.isAgg63
  z39 := Tryd.sizeOf63
  v39 := Tryd.zeroValue63
  t45 := Tryd.underlying81
  a45 := Tryd.isAgg81
  z45 := Tryd.sizeOf81
  v45 := Tryd.zeroValue81
  t46 := Tryd.underlying82
  a46 := Tryd.isAgg82
  z46 := Tryd.sizeOf82
  v46 := Tryd.zeroValue82
  t50 := Tryd.underlying86
  a50 := Tryd.isAgg86
  z50 := Tryd.sizeOf86
  v50 := Tryd.zeroValue86
  t53 := Tryd.underlying55
  a53 := Tryd.isAgg55
  z53 := Tryd.sizeOf55
  v53 := Tryd.zeroValue55
  t55 := Tryd.underlying68
  a55 := Tryd.isAgg68
  z55 := Tryd.sizeOf68
  v55 := Tryd.zeroValue68
  t66 := Tryd.underlying110
  a66 := Tryd.isAgg110
  z66 := Tryd.sizeOf110
  v66 := Tryd.zeroValue110
  t70 := Tryd.underlying114
  a70 := Tryd.isAgg114
  z70 := Tryd.sizeOf114
  v70 := Tryd.zeroValue114
  t76 := Tryd.underlying126
  a76 := Tryd.isAgg126
  z76 := Tryd.sizeOf126
  v76 := Tryd.zeroValue126
  t77 := Tryd.underlying127
  a77 := Tryd.isAgg127
  z77 := Tryd.sizeOf127
  v77 := Tryd.zeroValue127 }
end Go.Proofs
namespace Go.Esp
open Go.Proofs Go.Shelf Go.RowKit Go.Lib Go.Sort
def memS (W : World) : Mem := ⟨fun b => W.heap[b]?, W.os, W.tape, W.output, W.drawn⟩
theorem St.startS (W : World) : St (memS W) [] W := ⟨fun _ _ h => h, fun _ _ h => (by cases h), fun _ _ h => (by cases h), List.nodup_nil, rfl, rfl, rfl, Nat.le_refl _⟩
theorem lays_of_fs {P : Program} {g : FuncId} {vs : List Value} {r : Value} (h : ∀ M, Fs P g vs M (fun v => v = r)) (W : World) : Calls P g vs.toArray W fun e w' => e = .returned r ∧ ∃ q os', w' = grow (W.drewN q) os' := by
  refine (h (memS W) [] W (St.startS W)).mono ?_
  rintro e w' ⟨v, rfl, hst, rfl⟩
  refine ⟨rfl, w'.drawn - W.drawn, w'.heap.extract W.heap.size w'.heap.size, ?_⟩
  have hp : ∀ b o, W.heap[b]? = some o → w'.heap[b]? = some o := hst.mem
  obtain ⟨h1, h2, h3, h4⟩ := hst.io
  have hle : W.heap.size ≤ w'.heap.size := by
    rcases Nat.eq_zero_or_pos W.heap.size with h0 | h0
    · omega
    · have := hp (W.heap.size - 1) _ (Array.getElem?_eq_getElem (by omega))
      have := (Array.getElem?_eq_some_iff.1 this).1
      omega
  have hh : w'.heap = W.heap ++ w'.heap.extract W.heap.size w'.heap.size := by
    apply Array.ext_getElem?
    intro i
    rw [Array.getElem?_append]
    split
    · rename_i hi
      rw [hp i _ (Array.getElem?_eq_getElem hi), Array.getElem?_eq_getElem hi]
    · rename_i hi
      rw [Array.getElem?_extract]
      rw [show W.heap.size + (i - W.heap.size) = i by omega]
      split
      · rfl
      · rw [Array.getElem?_eq_none]; omega
  cases w' with
  | mk heap tape drawn os output =>
    simp only [grow, World.drewN, World.mk.injEq]
    simp only [memS] at h1 h2 h3 h4
    exact ⟨hh, h2, (Nat.add_sub_cancel' h4).symm, h1, h3⟩
section
variable {α : Type} [Inhabited α] {f : α → Segs} {sz : Nat}
theorem rowsCells_get {rows : List Segs} (h : lens sz rows) {j i : Nat} {r : Segs} (hr : rows[j]? = some r) (hi : i < sz) : (rowsCells rows)[j * sz + i]? = (Segs.cells r)[i]? := by
  rw [← rowsCells_at h hr, List.getElem?_take, if_pos hi, List.getElem?_drop]
theorem flat_get (hpos : 0 < sz) (hk : ∀ x, (Segs.cells (f x)).length = sz) {l : List α} (hl : lens sz (l.map f)) {t : Nat} (ht : t < l.length * sz) :
    (rowsCells (l.map f))[t]? = some ((flatK (fun x => Segs.cells (f x)) sz l.toArray)[t]!) := by
  have hj : t / sz < l.length := (Nat.div_lt_iff_lt_mul hpos).2 ht
  have hm := Nat.mod_lt t hpos
  have h := rowsCells_get hl (j := t / sz) (i := t % sz) (r := f l[t / sz]) (by rw [List.getElem?_map, List.getElem?_eq_getElem hj]; rfl) hm
  rw [Nat.div_add_mod'] at h
  rw [h, get_flatK _ _ _ _ (by simpa using ht)]
  have e : l.toArray[t / sz]! = l[t / sz] := by rw [getElem!_pos _ _ (by simpa using hj)]; simp
  rw [e, List.getElem?_eq_getElem (by rw [hk]; exact hm)]
  congr 1
  rw [getElem!_pos _ _ (by rw [hk]; exact hm)]
theorem st_sorted {M : Mem} {H : Hp} {w : World} {b T : Nat} {cur F : Array Value} (hw : St M ((b, .cells cur T (0, 0)) :: H) w) (n : Nat) (os : Array Obj) :
    St M ((b, .cells (putCells id 0 F cur) T (0, 0)) :: H) (grow (putRow id (Sort.ahead w n) b 0 F) os) := by
  have hb := hw.own b _ (.head _)
  have hlt := (Array.getElem?_eq_some_iff.1 hb).1
  refine hw.upd .head ?_ (fun c hc x hx => ?_) ⟨rfl, rfl, rfl, Nat.le_add_right _ _⟩
  · show ((w.heap.modify b _) ++ os)[b]? = _
    rw [Array.getElem?_append_left (by simpa using hlt), Array.getElem?_modify, if_pos rfl, hb]
    rfl
  · show ((w.heap.modify b _) ++ os)[c]? = _
    have hcl := (Array.getElem?_eq_some_iff.1 hx).1
    rw [Array.getElem?_append_left (by simpa using hcl), Array.getElem?_modify, if_neg (Ne.symm hc), hx]
theorem sort_fh {P : Program} {ρ : Ren} (L : SlLaysF0.n6 P ρ) (aE : ∀ w, (isAgg (ρ.t 24)).run P w = .ok true w) (zE : ∀ w, (Go.sizeOf (ρ.t 24)).run P w = .ok sz w) (hpos : 0 < sz) (hk : ∀ x, (Segs.cells (f x)).length = sz)
    (h1 : ∀ x, ∀ v ∈ Segs.cells (f x), v.oneCell' = true) (cf : α → α → Int) (hO : SWO (ltOf cf)) (g : FuncId) (hg : okFn P g = true) (hc : ∀ M x y, Fs P g [aggV (f x), aggV (f y)] M (fun v => v = .int .i64 (cf x y)))
    {T b c : Nat} {l : List α} {hs : Hp} (ho : OSl T sz (.slice (some ⟨b, 0, none⟩) l.length c) hs (l.map f)) (hl : l.length ≤ 1000000) (M : Mem) :
    Fh P (ρ.f 6) [.slice (some ⟨b, 0, none⟩) l.length c, .func (.func g) #[] #[]] M hs (fun M' v Hout => M' = M ∧ v = .tuple #[] ∧ ∃ l' : List α, l'.Perm l ∧ l'.Pairwise (fun x y => ¬ cf y x < 0) ∧ OSl T sz (.slice (some ⟨b, 0, none⟩) l.length c) Hout (l'.map f)) := by
  obtain ⟨cur, rfl, hl0, hlens, hle, hcm, hcs, htk⟩ := ho.inv
  have hml : (l.map f).length = l.length := List.length_map ..
  rw [hml] at hle htk
  intro H w hw
  have hb := hw.own b _ (.head _)
  have hlt := (Array.getElem?_eq_some_iff.1 hb).1
  have hsz : l.length * sz ≤ cur.size := by rw [hcs]; exact Nat.mul_le_mul_right _ hle
  have hH : HoldsK (fun x => Segs.cells (f x)) sz w b 0 l.toArray := by
    intro j hj
    have hj' : j < l.length * sz := by simpa using hj
    refine ⟨?_, ?_⟩
    · unfold World.cell?
      simp only [hb, Option.isSome_none, Bool.false_eq_true, if_false, Nat.zero_add, id]
      rw [← flat_get hpos hk hlens hj', ← htk, List.getElem?_take, if_pos hj']
      simp
    · unfold World.frozen?
      simp only [hb]
      simp
  have hcl : CmpLays P g #[] (fun x => Segs.cells (f x)) sz cf b 0 l.toArray.size w := fun m os dk _ x y => lays_of_fs (fun M => hc M x y) _
  have key := AnyQ.slices_SortFunc L sz aE zE (fun x => Segs.cells (f x)) hk h1 cf hO g #[] b 0 c l.toArray w (fun args w => callFunc_run hg) hcl hH hlt (by simp; omega)
  rw [show l.toArray.size = l.length from by simp] at key
  refine key.mono ?_
  rintro e w' ⟨rfl, d', n, os, ⟨hp1, _, hp3⟩, hs1, rfl⟩
  have hd : d'.size = l.length := by simpa using hp1
  have hst := st_sorted (F := flatK (fun x => Segs.cells (f x)) sz d') hw n os
  have hperm : d'.toList.Perm l := by
    have h9 := hp3
    rw [show d'.extract 0 l.length = d' from by rw [← hd]; simp, show l.toArray.extract 0 l.length = l.toArray from by rw [show l.length = l.toArray.size from by simp]; simp] at h9
    simpa using h9
  have hlens' : lens sz (d'.toList.map f) := fun r hr => by
    obtain ⟨x, hx, rfl⟩ := List.mem_map.1 hr
    rw [← Segs.cells_length]; exact hk x
  refine ⟨_, M, [(b, .cells (putCells id 0 (flatK (fun x => Segs.cells (f x)) sz d') cur) T (0, 0))], rfl, Mem.le.refl M, hst, rfl, rfl, d'.toList, hperm, ?_, ?_⟩
  · rw [List.pairwise_iff_getElem]
    intro i j hi hj hij
    have h9 := hs1 i j (Nat.zero_le _) hij (by rw [← hd]; simpa using hj)
    rw [getElem!_pos _ _ (by simpa using hj), getElem!_pos _ _ (by simpa using hi)] at h9
    unfold ltOf at h9
    simpa using h9
  · have hln : (d'.toList.map f).length = l.length := by simpa using hd
    have := OSl.own (T := T) b c (d'.toList.map f) (putCells id 0 (flatK (fun x => Segs.cells (f x)) sz d') cur) hlens' (by rw [hln]; exact hle) hcm (by simpa [putCells] using hcs) ?_
    · rw [hln] at this; exact this
    · apply List.ext_getElem?
      intro t
      rw [List.getElem?_take]
      by_cases ht : t < (d'.toList.map f).length * sz
      · rw [if_pos ht]
        have ht' : t < d'.toList.length * sz := by simpa using ht
        rw [flat_get hpos hk hlens' ht']
        have htc : t < cur.size := by rw [hln] at ht; omega
        simp only [putCells, Array.getElem?_toList, Array.getElem?_mapIdx, Array.getElem?_eq_getElem htc, Option.map_some]
        rw [if_pos ⟨Nat.zero_le _, by simpa using ht⟩]
        simp
      · rw [if_neg ht, List.getElem?_eq_none]
        rw [rowsCells_len hlens']; omega
end
end Go.Esp
namespace Go.Proofs.YtpfdblknaihidaaDoor
open Go.Esp
theorem F.ok15 : okFn Tryd.prog 15 = true := by kernel_rfl
def lessF (a b : PeerV) : Int := if a = b then 0 else if LessP a.id b.id then -1 else 1
theorem less_ok (M : Mem) (a : PeerV) (b : PeerV) : Fs Tryd.prog 15 [a.enc, b.enc] M (fun v => v = Value.int .i64 (lessF a b)) := by
  obtain ⟨a_addr, a_id⟩ := a
  obtain ⟨b_addr, b_id⟩ := b
  refine Zbd Tryd.func15 rfl Tryd.ntmps15 rfl ?_; intro H
  refine Zk ?_; refine Za (l := [0, 1, 2]) rfl ?_
  refine Zcj rfl rfl rfl (by constructor) rfl ?_; intro b1
  refine Zcj rfl rfl rfl (by constructor) rfl ?_; intro b2
  refine Zc rfl rfl rfl rfl ?_; refine Zg ?_; refine Ze ?_; refine Zl (.cons (k := 4) rfl (.cons (k := 3) rfl (.cons (k := 2) rfl .nil))) ?_; refine Zk ?_; refine Zad ?_; refine Zk ?_; refine Za (l := [0, 1, 2, 3]) rfl ?_
  first | refine Zan rfl rfl rfl (by repeat first | exact List.Mem.head _ | refine List.Mem.tail _ ?_ | refine List.mem_append_right _ ?_) F.lay39 rfl rfl rfl ?_ | refine Zv rfl rfl rfl (by first | assumption | exact SlM.mono (by assumption) (by assumption)) (by first | exact Zb (by omega) | exact List.getElem?_eq_getElem (by omega) | exact rfl | exact Zb (by first | (simp; done) | (simp; omega))) F.lay39 rfl rfl rfl ?_ | refine Zu rfl rfl rfl (by assumption) (by first | exact Zb (by omega) | exact List.getElem?_eq_getElem (by omega) | exact rfl | exact Zb (by first | (simp; done) | (simp; omega))) F.lay39 rfl rfl rfl ?_ | refine Zs rfl rfl rfl (by first | assumption | exact Mem.get_of (by assumption) (by repeat first | assumption | refine Mem.le.trans (by assumption) ?_)) F.lay39 rfl rfl rfl ?_ | refine Zp rfl rfl rfl (by assumption) (by repeat first | exact Rem.here _ | exact Rem.two | apply Rem.skip | apply Rem.over) (by first | exact Zb (by omega) | exact List.getElem?_eq_getElem (by omega) | exact rfl | exact Zb (by first | (simp; done) | (simp; omega))) F.lay39 rfl rfl rfl ?_
  first | refine Zan rfl rfl rfl (by repeat first | exact List.Mem.head _ | refine List.Mem.tail _ ?_ | refine List.mem_append_right _ ?_) F.lay39 rfl rfl rfl ?_ | refine Zv rfl rfl rfl (by first | assumption | exact SlM.mono (by assumption) (by assumption)) (by first | exact Zb (by omega) | exact List.getElem?_eq_getElem (by omega) | exact rfl | exact Zb (by first | (simp; done) | (simp; omega))) F.lay39 rfl rfl rfl ?_ | refine Zu rfl rfl rfl (by assumption) (by first | exact Zb (by omega) | exact List.getElem?_eq_getElem (by omega) | exact rfl | exact Zb (by first | (simp; done) | (simp; omega))) F.lay39 rfl rfl rfl ?_ | refine Zs rfl rfl rfl (by first | assumption | exact Mem.get_of (by assumption) (by repeat first | assumption | refine Mem.le.trans (by assumption) ?_)) F.lay39 rfl rfl rfl ?_ | refine Zp rfl rfl rfl (by assumption) (by repeat first | exact Rem.here _ | exact Rem.two | apply Rem.skip | apply Rem.over) (by first | exact Zb (by omega) | exact List.getElem?_eq_getElem (by omega) | exact rfl | exact Zb (by first | (simp; done) | (simp; omega))) F.lay39 rfl rfl rfl ?_
  refine X_same (m := 20) rfl rfl rfl rfl rfl (by constructor) (by constructor) F.lay39 F.kinds39 rfl F.guard39 (by first | exact FitPeerV _ | exact FitPeerV (⟨_, _⟩) | (repeat first | exact trivial | exact rfl | refine And.intro ?_ ?_ | refine idFits _ ?_)) (by first | exact FitPeerV _ | exact FitPeerV (⟨_, _⟩) | (repeat first | exact trivial | exact rfl | refine And.intro ?_ ?_ | refine idFits _ ?_)) rfl rfl rfl ?_; intro c3 he4
  replace he4 : c3 = true ↔ Segs.cells _ = Segs.cells _ := he4
  obtain rfl := eqD he4 (PeerV.inj (x := ⟨_, _⟩) (y := ⟨_, _⟩)); clear he4
  refine Zc rfl rfl rfl rfl ?_; refine Zg ?_; refine Ze ?_; refine Zl (.cons (k := 5) rfl (.cons (k := 4) rfl (.cons (k := 3) rfl (.cons (k := 2) rfl .nil)))) ?_
  refine Zai rfl (fun hc5 => ?_) (fun hc5 => ?_)
  · first | replace hc5 := dT hc5 | replace hc5 := dF hc5 | replace hc5 := nT hc5 | replace hc5 := nF hc5 | skip
    try simp only [PeerV.eta] at hc5
    first
    | (exfalso; omega)
    | (exfalso; simp [eqX] at hc5; done)
    | contradiction
    | skip
      refine Zk ?_; refine Za (l := [0]) rfl ?_; refine Zc rfl rfl rfl rfl ?_; refine Zg ?_; refine Ze ?_; refine Zl (.cons (k := 4) rfl .nil) ?_; refine Zam ?_; refine Zbe ?_; refine Zar ?_
      refine Zal (.inr rfl) (.tmp rfl .nil) (fun w hw => ?_)
      refine ⟨_, rfl, (hw.cnt (by intro zz; first | exact Nat.le_refl _ | (simp only [Zh, Zf, Zi, cat, List.append_eq, List.append_assoc, List.cons_append, List.nil_append, List.append_nil]; omega) | (simp only [Zh, Zf, Zi, cat, List.append_eq, List.append_assoc, List.cons_append, List.nil_append, List.append_nil, PeerV.segs]; omega))), ?_⟩
      clear hw
      refine congrArg (Value.int .i64) ?_
      unfold lessF
      simp_all
  · first | replace hc5 := dT hc5 | replace hc5 := dF hc5 | replace hc5 := nT hc5 | replace hc5 := nF hc5 | skip
    try simp only [PeerV.eta] at hc5
    first
    | (exfalso; omega)
    | (exfalso; simp [eqX] at hc5; done)
    | contradiction
    | skip
      refine Zk ?_; refine Za (l := [0, 1, 2, 3, 4, 5]) rfl ?_
      first | refine Zak rfl rfl rfl F.foff39_1 rfl ?_ | refine Zac rfl rfl rfl (by first | exact ⟨_, _, rfl⟩ | assumption | exact SlM.plain (by assumption) (by first | (simp; done) | (simp; omega)) | exact RdS.plain (by assumption) (by first | (simp; done) | (simp; omega)) | exact OSl.plain (by assumption) (by first | (simp; done) | (simp; omega))) F.foff39_1 rfl ?_
      first | refine Zan rfl rfl rfl (by repeat first | exact List.Mem.head _ | refine List.Mem.tail _ ?_ | refine List.mem_append_right _ ?_) F.lay34 rfl rfl rfl ?_ | refine Zv rfl rfl rfl (by first | assumption | exact SlM.mono (by assumption) (by assumption)) (by first | exact Zb (by omega) | exact List.getElem?_eq_getElem (by omega) | exact rfl | exact Zb (by first | (simp; done) | (simp; omega))) F.lay34 rfl rfl rfl ?_ | refine Zu rfl rfl rfl (by assumption) (by first | exact Zb (by omega) | exact List.getElem?_eq_getElem (by omega) | exact rfl | exact Zb (by first | (simp; done) | (simp; omega))) F.lay34 rfl rfl rfl ?_ | refine Zs rfl rfl rfl (by first | assumption | exact Mem.get_of (by assumption) (by repeat first | assumption | refine Mem.le.trans (by assumption) ?_)) F.lay34 rfl rfl rfl ?_ | refine Zp rfl rfl rfl (by assumption) (by repeat first | exact Rem.here _ | exact Rem.two | apply Rem.skip | apply Rem.over) (by first | exact Zb (by omega) | exact List.getElem?_eq_getElem (by omega) | exact rfl | exact Zb (by first | (simp; done) | (simp; omega))) F.lay34 rfl rfl rfl ?_
      first | refine Zak rfl rfl rfl F.foff39_1 rfl ?_ | refine Zac rfl rfl rfl (by first | exact ⟨_, _, rfl⟩ | assumption | exact SlM.plain (by assumption) (by first | (simp; done) | (simp; omega)) | exact RdS.plain (by assumption) (by first | (simp; done) | (simp; omega)) | exact OSl.plain (by assumption) (by first | (simp; done) | (simp; omega))) F.foff39_1 rfl ?_
      first | refine Zan rfl rfl rfl (by repeat first | exact List.Mem.head _ | refine List.Mem.tail _ ?_ | refine List.mem_append_right _ ?_) F.lay34 rfl rfl rfl ?_ | refine Zv rfl rfl rfl (by first | assumption | exact SlM.mono (by assumption) (by assumption)) (by first | exact Zb (by omega) | exact List.getElem?_eq_getElem (by omega) | exact rfl | exact Zb (by first | (simp; done) | (simp; omega))) F.lay34 rfl rfl rfl ?_ | refine Zu rfl rfl rfl (by assumption) (by first | exact Zb (by omega) | exact List.getElem?_eq_getElem (by omega) | exact rfl | exact Zb (by first | (simp; done) | (simp; omega))) F.lay34 rfl rfl rfl ?_ | refine Zs rfl rfl rfl (by first | assumption | exact Mem.get_of (by assumption) (by repeat first | assumption | refine Mem.le.trans (by assumption) ?_)) F.lay34 rfl rfl rfl ?_ | refine Zp rfl rfl rfl (by assumption) (by repeat first | exact Rem.here _ | exact Rem.two | apply Rem.skip | apply Rem.over) (by first | exact Zb (by omega) | exact List.getElem?_eq_getElem (by omega) | exact rfl | exact Zb (by first | (simp; done) | (simp; omega))) F.lay34 rfl rfl rfl ?_
      refine X_fs rfl rfl F.ok25 rfl (Less_ok _ _ _) rfl ?_
      rintro _ rfl
      refine Zc rfl rfl rfl rfl ?_; refine Zg ?_; refine Ze ?_; refine Zl (.cons (k := 9) rfl (.cons (k := 4) rfl .nil)) ?_
      refine Zai rfl (fun hc6 => ?_) (fun hc6 => ?_)
      · first | replace hc6 := dT hc6 | replace hc6 := dF hc6 | replace hc6 := nT hc6 | replace hc6 := nF hc6 | skip
        try simp only [PeerV.eta] at hc6
        first
        | (exfalso; omega)
        | (exfalso; simp [eqX] at hc6; done)
        | contradiction
        | skip
          refine Zk ?_; refine Za (l := [0]) rfl ?_; refine Zc rfl rfl rfl rfl ?_; refine Zg ?_; refine Ze ?_; refine Zl (.cons (k := 4) rfl .nil) ?_; refine Zam ?_; refine Zbe ?_; refine Zar ?_
          refine Zal (.inr rfl) (.tmp rfl .nil) (fun w hw => ?_)
          refine ⟨_, rfl, (hw.cnt (by intro zz; first | exact Nat.le_refl _ | (simp only [Zh, Zf, Zi, cat, List.append_eq, List.append_assoc, List.cons_append, List.nil_append, List.append_nil]; omega) | (simp only [Zh, Zf, Zi, cat, List.append_eq, List.append_assoc, List.cons_append, List.nil_append, List.append_nil, PeerV.segs]; omega))), ?_⟩
          clear hw
          refine congrArg (Value.int .i64) ?_
          unfold lessF
          simp_all
      · first | replace hc6 := dT hc6 | replace hc6 := dF hc6 | replace hc6 := nT hc6 | replace hc6 := nF hc6 | skip
        try simp only [PeerV.eta] at hc6
        first
        | (exfalso; omega)
        | (exfalso; simp [eqX] at hc6; done)
        | contradiction
        | skip
          refine Zah ?_; refine Zbs ?_; refine Ze ?_; refine Zl (.cons (k := 4) rfl .nil) ?_; refine Zk ?_; refine Za (l := [0]) rfl ?_; refine Zc rfl rfl rfl rfl ?_; refine Zg ?_; refine Ze ?_; refine Zam ?_
          refine Zal (.inr rfl) (.tmp rfl .nil) (fun w hw => ?_)
          refine ⟨_, rfl, (hw.cnt (by intro zz; first | exact Nat.le_refl _ | (simp only [Zh, Zf, Zi, cat, List.append_eq, List.append_assoc, List.cons_append, List.nil_append, List.append_nil]; omega) | (simp only [Zh, Zf, Zi, cat, List.append_eq, List.append_assoc, List.cons_append, List.nil_append, List.append_nil, PeerV.segs]; omega))), ?_⟩
          clear hw
          refine congrArg (Value.int .i64) ?_
          unfold lessF
          simp_all
theorem less_swo : Sort.SWO (ltOf lessF) := by
  have e : ∀ x y : PeerV, ltOf lessF x y = decide (LessP x.id y.id) := by
    intro x y; unfold ltOf lessF
    by_cases h0 : x = y
    · subst h0; simp [LessP]
    · by_cases h : LessP x.id y.id <;> simp [h, h0]
  exact ⟨fun x => by rw [e]; simp [LessP], fun x y z h1 h2 => by rw [e] at h1 h2 ⊢; exact decide_eq_true (Nat.lt_trans (of_decide_eq_true h1) (of_decide_eq_true h2)), fun x y z h1 h2 => by rw [e] at h1 h2 ⊢; exact decide_eq_false (Nat.not_lt.2 (Nat.le_trans (Nat.not_lt.1 (of_decide_eq_false h2)) (Nat.not_lt.1 (of_decide_eq_false h1))))⟩
instance : Inhabited PeerV := ⟨⟨0, 0⟩⟩
theorem SortC_ok (M : Mem) (b c : Nat) (l : List PeerV) (hs : Hp) (ho : OSl 39 21 (.slice (some ⟨b, 0, none⟩) l.length c) hs (l.map PeerV.segs)) (hl : l.length ≤ 1000000) : Fh Tryd.prog 14 [.slice (some ⟨b, 0, none⟩) l.length c, .func (.func 15) #[] #[]] M hs (fun M' v Hout => M' = M ∧ v = .tuple #[] ∧ ∃ l' : List PeerV, l'.Perm l ∧ l'.Pairwise (fun x y => ¬ lessF y x < 0) ∧ OSl 39 21 (.slice (some ⟨b, 0, none⟩) l.length c) Hout (l'.map PeerV.segs)) :=
  sort_fh (f := PeerV.segs) (sz := 21) Tryd.sortL Tryd.isAgg39 Tryd.sizeOf39 (by decide) (fun x => (Segs.cells_length _).trans (PeerV.len x)) (fun x => PeerV.flat x) lessF less_swo 15 F.ok15 (fun M x y => less_ok M x y) ho hl M
end Go.Proofs.YtpfdblknaihidaaDoor
namespace Go.Proofs.YtpfdblknaihidaaDoor
open Go.Esp
theorem F.ok10 : okFn Tryd.prog 10 = true := by kernel_rfl
theorem F.ok26 : okFn Tryd.prog 26 = true := by kernel_rfl
def OddA (z : Int) : Prop := z < 0 ∨ 999 < z
instance (z : Int) : Decidable (OddA z) := by unfold OddA; exact inferInstance
theorem odd_ok (M : Mem) (addr : Int) : Fs Tryd.prog 10 [.int .i64 addr] M (fun v => v = Value.bool (decide (OddA addr))) := by
  refine Zbd Tryd.func10 rfl Tryd.ntmps10 rfl ?_; intro H
  refine Zk ?_; refine Za (l := [0]) rfl ?_; refine Zc rfl rfl rfl rfl ?_; refine Zg ?_; refine Ze ?_; refine Zk ?_; refine Za (l := [0, 1, 2, 3, 4, 5, 6]) rfl ?_; refine Zd rfl rfl rfl rfl ?_; refine Zaq rfl rfl rfl rfl rfl rfl ?_; refine Zd rfl rfl rfl rfl ?_
  refine Zbb 5 rfl (fun hc1 => ?_) (fun hc1 => ?_)
  · first | replace hc1 := dT hc1 | replace hc1 := dF hc1 | replace hc1 := nT hc1 | replace hc1 := nF hc1 | skip
    try simp only [PeerV.eta] at hc1
    first
    | (exfalso; omega)
    | (exfalso; simp [eqX] at hc1; done)
    | contradiction
    | skip
      refine Zj rfl rfl rfl ?_; refine Zj rfl rfl rfl ?_; refine Zx rfl rfl rfl rfl rfl ?_; refine Zc rfl rfl rfl rfl ?_; refine Zg ?_; refine Ze ?_; refine Zl (.cons (k := 2) rfl .nil) ?_; refine Zam ?_
      refine Zal (.inr rfl) (.tmp rfl .nil) (fun w hw => ?_)
      refine ⟨_, rfl, (hw.cnt (by intro zz; first | exact Nat.le_refl _ | (simp only [Zh, Zf, Zi, cat, List.append_eq, List.append_assoc, List.cons_append, List.nil_append, List.append_nil]; omega) | (simp only [Zh, Zf, Zi, cat, List.append_eq, List.append_assoc, List.cons_append, List.nil_append, List.append_nil, PeerV.segs]; omega))), ?_⟩
      clear hw
      refine congrArg Value.bool ?_
      first | exact (decide_eq_true (by unfold OddA; omega)).symm | exact decide_eq_decide.2 (by unfold OddA; omega)
  · first | replace hc1 := dT hc1 | replace hc1 := dF hc1 | replace hc1 := nT hc1 | replace hc1 := nF hc1 | skip
    try simp only [PeerV.eta] at hc1
    first
    | (exfalso; omega)
    | (exfalso; simp [eqX] at hc1; done)
    | contradiction
    | skip
      refine Zd rfl rfl rfl rfl ?_; refine Zaq rfl rfl rfl rfl rfl rfl ?_; refine Zx rfl rfl rfl rfl rfl ?_; refine Zc rfl rfl rfl rfl ?_; refine Zg ?_; refine Ze ?_; refine Zl (.cons (k := 2) rfl .nil) ?_; refine Zam ?_
      refine Zal (.inr rfl) (.tmp rfl .nil) (fun w hw => ?_)
      refine ⟨_, rfl, (hw.cnt (by intro zz; first | exact Nat.le_refl _ | (simp only [Zh, Zf, Zi, cat, List.append_eq, List.append_assoc, List.cons_append, List.nil_append, List.append_nil]; omega) | (simp only [Zh, Zf, Zi, cat, List.append_eq, List.append_assoc, List.cons_append, List.nil_append, List.append_nil, PeerV.segs]; omega))), ?_⟩
      clear hw
      refine congrArg Value.bool ?_
      first | exact (decide_eq_true (by unfold OddA; omega)).symm | exact decide_eq_decide.2 (by unfold OddA; omega)
theorem IndexOdd_ok (M : Mem) (l : (Sl Int))  (hl0 : SlK M (oneI .i64) 1 l) : Fs Tryd.prog 26 [Sl.val l, .func (.func 10) #[] #[]] M (fun v => ∃ z : Int, v = .int .i64 z ∧ (0 ≤ z ↔ ∃ a ∈ l.l, OddA a)) := by
  obtain ⟨l_a, l_c, l_l⟩ := l
  have k_l : SlK M (oneI .i64) 1 ⟨l_a, l_c, l_l⟩ := hl0
  have s_l : SlM M l_a (l_l.map (oneI .i64)) 1 := k_l.h1
  have n_l : (l_l.map (oneI .i64)).length = l_l.length := List.length_map ..
  have m_l : l_l.length ≤ 9223372036854775807 := k_l.h2
  have c_l : l_l.length ≤ l_c := k_l.h3
  refine Zbd Tryd.func26 rfl Tryd.ntmps26 rfl ?_; intro H
  refine Zk ?_; refine Za (l := [0]) rfl ?_; refine Zc rfl rfl rfl rfl ?_; refine Zg ?_; refine Ze ?_; refine Zk ?_; refine Zk ?_; refine Za (l := [0, 1, 2]) rfl ?_; refine Zd rfl rfl rfl rfl ?_; refine Zat rfl rfl rfl rfl F.elem22 rfl ?_; refine Zd rfl rfl rfl rfl ?_; refine Zg ?_; refine Ze ?_; refine Zl (.cons (k := 8) rfl (.cons (k := 7) rfl (.cons (k := 4) rfl (.cons (k := 0) rfl (.cons (k := 1) rfl .nil))))) ?_; refine Zad ?_; refine Zl (.cons (k := 8) rfl (.cons (k := 7) rfl (.cons (k := 4) rfl (.cons (k := 0) rfl (.cons (k := 1) rfl .nil))))) ?_; refine Zbz (.succ .zero) (fun (k : Nat) z => z = [(8, .int .i64 (k : Int))] ∧ k ≤ l_l.length ∧ (∀ j (hj : j < l_l.length), j < k → ¬ OddA l_l[j])) (fun k => l_l.length - k) (0) (⟨rfl, by omega, by (intro j h2 hj; omega)⟩) ?_
  rintro k _ ⟨rfl, hk, hI⟩
  refine Zk ?_; refine Za (l := [0]) rfl ?_; refine Zaq rfl rfl rfl rfl rfl rfl ?_; refine Zg ?_; refine Ze ?_; refine Zk ?_
  refine Zai rfl (fun hc1 => ?_) (fun hc1 => ?_)
  · first | replace hc1 := dT hc1 | replace hc1 := dF hc1 | replace hc1 := nT hc1 | replace hc1 := nF hc1 | skip
    try simp only [PeerV.eta] at hc1
    first
    | (exfalso; omega)
    | (exfalso; simp [eqX] at hc1; done)
    | contradiction
    | skip
      refine Zah ?_; refine Ze ?_; refine Zk ?_; refine Zad ?_; refine Zk ?_; refine Za (l := [0, 1]) rfl ?_; refine Zd rfl rfl rfl rfl ?_; refine Zc rfl rfl rfl rfl ?_; refine Zg ?_; refine Ze ?_; refine Zk ?_; refine Za (l := [0, 1, 2, 3, 4, 5]) rfl ?_; refine Zd rfl rfl rfl rfl ?_; refine Zd rfl rfl rfl rfl ?_; refine Zd rfl rfl rfl rfl ?_; refine Zab rfl rfl rfl rfl F.elem22 (by first | rfl | exact (Int.toNat_of_nonneg (by omega)).symm) (by first | omega | (simp; done) | (simp; omega)) (by first | exact ⟨_, _, rfl⟩ | assumption | exact SlM.plain (by assumption) (by first | (simp; done) | (simp; omega)) | exact RdS.plain (by assumption) (by first | (simp; done) | (simp; omega)) | exact OSl.plain (by assumption) (by first | (simp; done) | (simp; omega))) rfl ?_
      first | refine Zan rfl rfl rfl (by repeat first | exact List.Mem.head _ | refine List.Mem.tail _ ?_ | refine List.mem_append_right _ ?_) F.lay3 rfl rfl rfl ?_ | refine Zv rfl rfl rfl (by first | assumption | exact SlM.mono (by assumption) (by assumption)) (by first | exact Zb (by omega) | exact List.getElem?_eq_getElem (by omega) | exact rfl | exact Zb (by first | (simp; done) | (simp; omega))) F.lay3 rfl rfl rfl ?_ | refine Zu rfl rfl rfl (by assumption) (by first | exact Zb (by omega) | exact List.getElem?_eq_getElem (by omega) | exact rfl | exact Zb (by first | (simp; done) | (simp; omega))) F.lay3 rfl rfl rfl ?_ | refine Zs rfl rfl rfl (by first | assumption | exact Mem.get_of (by assumption) (by repeat first | assumption | refine Mem.le.trans (by assumption) ?_)) F.lay3 rfl rfl rfl ?_ | refine Zp rfl rfl rfl (by assumption) (by repeat first | exact Rem.here _ | exact Rem.two | apply Rem.skip | apply Rem.over) (by first | exact Zb (by omega) | exact List.getElem?_eq_getElem (by omega) | exact rfl | exact Zb (by first | (simp; done) | (simp; omega))) F.lay3 rfl rfl rfl ?_ | refine Zr rfl rfl rfl (by repeat first | exact List.Mem.head _ | refine List.Mem.tail _ ?_ | refine List.mem_append_right _ ?_) F.lay3 (by first | exact Zbw (by first | omega | decide) | exact Zbk (by first | omega | decide)) rfl ?_
      refine X_fsV rfl rfl rfl F.ok10 rfl rfl (odd_ok M _) rfl ?_
      rintro _ rfl
      refine Zg ?_; refine Ze ?_
      refine Zai rfl (fun hc2 => ?_) (fun hc2 => ?_)
      · first | replace hc2 := dT hc2 | replace hc2 := dF hc2 | replace hc2 := nT hc2 | replace hc2 := nF hc2 | skip
        try simp only [PeerV.eta] at hc2
        first
        | (exfalso; omega)
        | (exfalso; simp [eqX] at hc2; done)
        | contradiction
        | skip
          refine Zk ?_; refine Za (l := [0, 1]) rfl ?_; refine Zd rfl rfl rfl rfl ?_; refine Zc rfl rfl rfl rfl ?_; refine Zg ?_; refine Ze ?_; refine Zam ?_; refine Zbe ?_; refine Zar ?_; refine Zar ?_; refine Zbe ?_; refine Zar ?_
          refine Zal (.inr rfl) (.tmp rfl .nil) (fun w hw => ?_)
          refine ⟨_, rfl, hw.cnt (by intro zz; first | exact Nat.le_refl _ | (simp only [Zh, Zf, Zi, cat, List.append_eq, List.append_assoc, List.cons_append, List.nil_append, List.append_nil]; omega) | (simp only [Zh, Zf, Zi, cat, List.append_eq, List.append_assoc, List.cons_append, List.nil_append, List.append_nil, PeerV.segs]; omega)), _, rfl, ?_⟩
          show _ ↔ ∃ a ∈ l_l, OddA a
          first | exact ⟨fun _ => ⟨l_l[k]'(by omega), List.getElem_mem (by omega), by first | assumption | simp_all⟩, fun _ => by omega⟩ | exact ⟨fun h9 => by omega, fun ⟨x9, h8, h9⟩ => by obtain ⟨j, hj, rfl⟩ := List.getElem_of_mem h8; exact absurd h9 (hI j (show j < l_l.length from hj) (by have : j < l_l.length := hj; omega))⟩
      · first | replace hc2 := dT hc2 | replace hc2 := dF hc2 | replace hc2 := nT hc2 | replace hc2 := nF hc2 | skip
        try simp only [PeerV.eta] at hc2
        first
        | (exfalso; omega)
        | (exfalso; simp [eqX] at hc2; done)
        | contradiction
        | skip
          refine Zah ?_; refine Zbs ?_; refine Ze ?_; refine Za (l := [0, 1]) rfl ?_; refine Zav rfl rfl rfl rfl rfl (by first | exact Zaa (by decide) (by omega) | exact Zm (by decide) (by omega) | exact Zo (by decide) (by omega) | exact Zn (by decide) (by omega) | exact Zt _ | exact Zz _ | exact Zq _ | exact rfl) rfl ?_; refine Zd rfl rfl rfl rfl ?_; refine Zg ?_; refine Zbp (a' := [(8, _)]) (k + 1) (.cons (k := 8) rfl (.cons (k := 7) rfl (.cons (k := 4) rfl (.cons (k := 0) rfl (.cons (k := 1) rfl (.nil)))))) (fun w hw => by first | exact hw | exact hw.cnt (by intro zz; first | exact Nat.le_refl _ | (simp only [Zh, Zf, Zi, cat, List.append_eq, List.append_assoc, List.cons_append, List.nil_append, List.append_nil]; omega) | (simp only [Zh, Zf, Zi, cat, List.append_eq, List.append_assoc, List.cons_append, List.nil_append, List.append_nil, PeerV.segs]; omega))) ?_ ?_
          · refine ⟨rfl, by omega, ?_⟩
            (intro j h2 hj; rcases Nat.lt_or_ge j k with h9 | h9; exact hI j h2 h9; obtain rfl : j = k := (by omega); simp_all)
          · omega
  · first | replace hc1 := dT hc1 | replace hc1 := dF hc1 | replace hc1 := nT hc1 | replace hc1 := nF hc1 | skip
    try simp only [PeerV.eta] at hc1
    first
    | (exfalso; omega)
    | (exfalso; simp [eqX] at hc1; done)
    | contradiction
    | skip
      refine Zbl ?_; refine Zao ?_; refine Zao ?_; refine Zbx ?_; refine Ze ?_; refine Zl (.cons (k := 4) rfl .nil) ?_; refine Zk ?_; refine Za (l := [0]) rfl ?_; refine Zc rfl rfl rfl rfl ?_; refine Zg ?_; refine Ze ?_; refine Zam ?_
      refine Zal (.inr rfl) (.tmp rfl .nil) (fun w hw => ?_)
      refine ⟨_, rfl, hw.cnt (by intro zz; first | exact Nat.le_refl _ | (simp only [Zh, Zf, Zi, cat, List.append_eq, List.append_assoc, List.cons_append, List.nil_append, List.append_nil]; omega) | (simp only [Zh, Zf, Zi, cat, List.append_eq, List.append_assoc, List.cons_append, List.nil_append, List.append_nil, PeerV.segs]; omega)), _, rfl, ?_⟩
      show _ ↔ ∃ a ∈ l_l, OddA a
      first | exact ⟨fun _ => ⟨l_l[k]'(by omega), List.getElem_mem (by omega), by first | assumption | simp_all⟩, fun _ => by omega⟩ | exact ⟨fun h9 => by omega, fun ⟨x9, h8, h9⟩ => by obtain ⟨j, hj, rfl⟩ := List.getElem_of_mem h8; exact absurd h9 (hI j (show j < l_l.length from hj) (by have : j < l_l.length := hj; omega))⟩
theorem ContainsOdd_ok (M : Mem) (l : (Sl Int))  (hl0 : SlK M (oneI .i64) 1 l) : Fs Tryd.prog 11 [Sl.val l, .func (.func 10) #[] #[]] M (fun v => v = .bool (decide (∃ a ∈ l.l, OddA a))) := by
  obtain ⟨l_a, l_c, l_l⟩ := l
  have k_l : SlK M (oneI .i64) 1 ⟨l_a, l_c, l_l⟩ := hl0
  have s_l : SlM M l_a (l_l.map (oneI .i64)) 1 := k_l.h1
  have n_l : (l_l.map (oneI .i64)).length = l_l.length := List.length_map ..
  have m_l : l_l.length ≤ 9223372036854775807 := k_l.h2
  have c_l : l_l.length ≤ l_c := k_l.h3
  refine Zbd Tryd.func11 rfl Tryd.ntmps11 rfl ?_; intro H
  refine Zk ?_; refine Za (l := [0]) rfl ?_; refine Zc rfl rfl rfl rfl ?_; refine Zg ?_; refine Ze ?_; refine Zk ?_; refine Za (l := [0, 1, 2, 3, 4]) rfl ?_; refine Zd rfl rfl rfl rfl ?_; refine Zd rfl rfl rfl rfl ?_; refine X_fs rfl rfl F.ok26 rfl (IndexOdd_ok _ ⟨l_a, l_c, l_l⟩ k_l) rfl ?_
  rintro _ ⟨z9, rfl, hz9⟩
  refine Zaq rfl rfl rfl rfl rfl rfl ?_; refine Zc rfl rfl rfl rfl ?_; refine Zg ?_; refine Ze ?_; refine Zl (.cons (k := 4) rfl .nil) ?_; refine Zam ?_
  refine Zal (.inr rfl) (.tmp rfl .nil) (fun w hw => ?_)
  exact ⟨_, rfl, hw.cnt (by intro zz; first | exact Nat.le_refl _ | (simp only [Zh, Zf, Zi, cat, List.append_eq, List.append_assoc, List.cons_append, List.nil_append, List.append_nil]; omega) | (simp only [Zh, Zf, Zi, cat, List.append_eq, List.append_assoc, List.cons_append, List.nil_append, List.append_nil, PeerV.segs]; omega)), congrArg Value.bool (decide_eq_decide.2 hz9)⟩
end Go.Proofs.YtpfdblknaihidaaDoor
namespace Go.Esp
section
variable {P : Program} {n : Sh} {Q : Exit → Act → World → Prop} {M : Mem} {H H0 : Hp} {e : Env} {x : Exit} {c : Code}
theorem OSl.frz {α : Type} {T sz k cp : Nat} {f : α → Segs} {l : List α} {ad : Option Addr} {hs : Hp} (ho : OSl T sz (.slice ad k cp) hs (l.map f)) {w : World} (hw : St M (hs ++ H) w) : ∃ M', M.le M' ∧ St M' H w ∧ SlK M' f sz ⟨ad, cp, l⟩ := by
  obtain ⟨M', ⟨a', c', l'⟩, h1, h2, h3, h4, h5⟩ := ho.freezeK hw
  simp only [Sl.val, Value.slice.injEq] at h3
  obtain ⟨rfl, _, rfl⟩ := h3
  simp only at h4
  subst h4
  exact ⟨M', h1, h2, h5⟩
theorem C_frz {α : Type} {T sz k cp : Nat} {f : α → Segs} {l : List α} {ad : Option Addr} {hs : Hp} (ho : OSl T sz (.slice ad k cp) hs (l.map f)) (hR : Rem hs H H0) (h : ∀ M', M.le M' → SlK M' f sz ⟨ad, cp, l⟩ → C P n c Q (St M' H0) e) : C P n c Q (St M H) e := by
  intro a w ha hw
  obtain ⟨M', h1, h2, h3⟩ := ho.frz (hw.perm hR.perm)
  exact h M' h1 h3 a w ha h2
end
end Go.Esp
namespace Go.Proofs.YtpfdblknaihidaaDoor
open Go.Esp
theorem F.ok11 : okFn Tryd.prog 11 = true := by kernel_rfl
theorem F.ok12 : okFn Tryd.prog 12 = true := by kernel_rfl
theorem F.ok13 : okFn Tryd.prog 13 = true := by kernel_rfl
theorem F.ok14 : okFn Tryd.prog 14 = true := by kernel_rfl
def digS (a : Int) : ByteArray := ⟨(Lib.decDigits a.toNat).toArray⟩
def nodeS : ByteArray := ⟨#[110, 111, 100, 101]⟩
def peerN (a : Int) : PeerV := ⟨a, sumP (natsOf (nodeS ++ digS a))⟩
theorem dec_len {u : Nat} (h : u < 1000) : (Lib.decDigits u).length ≤ 3 := by
  rw [Lib.decDigits]; split
  · simp
  · rw [Lib.decDigits]; split
    · simp
    · rw [Lib.decDigits]; split
      · simp
      · omega
theorem digS_size {a : Int} (h : ¬ OddA a) : (nodeS ++ digS a).size ≤ 7 := by
  unfold OddA at h
  have h9 : (digS a).size ≤ 3 := by
    show (Lib.decDigits a.toNat).toArray.size ≤ 3
    rw [List.size_toArray]; exact dec_len (by omega)
  rw [ByteArray.size_append]; show 4 + _ ≤ 7; omega
def Digs (M0 : Mem) (l : List Int) : Prop := ∀ (M : Mem), M0.le M → ∀ (a : Int), a ∈ l → ¬ OddA a → Fs Tryd.prog 13 [.int .i64 a] M (fun v => v = .string (digS a))
theorem Digs.mono {M0 M1 : Mem} {l : List Int} (h : Digs M0 l) (hm : M0.le M1) : Digs M1 l := fun M hM => h M (hm.trans hM)
def OfR (M : Mem) (l : List Int) (v : Value) : Prop := ∃ (s : Sl PeerV) (c : Int), v = .tuple #[s.val, .int .i64 c] ∧ SlK M PeerV.segs 21 s ∧
  (if l.length < 1 ∨ 16 < l.length then s.l = [] ∧ c = 2 else if ∃ a ∈ l, OddA a then s.l = [] ∧ c = 1 else ∃ l' : List PeerV, l'.Perm (l.map peerN) ∧ l'.Pairwise (fun x y => ¬ lessF y x < 0) ∧ if IsCircle l' then s.l = l' ∧ c = 0 else s.l = [] ∧ c = 9)
theorem Of_ok (M : Mem) (l : (Sl Int)) (hl0 : SlK M (oneI .i64) 1 l) (hM : M.dr = 0) (hI : Digs M l.l) : Esp.Fn Tryd.prog 4 [Sl.val l] M (fun M' v => OfR M' l.l v) := by
  obtain ⟨l_a, l_c, l_l⟩ := l
  have k_l : SlK M (oneI .i64) 1 ⟨l_a, l_c, l_l⟩ := hl0
  have s_l : SlM M l_a (l_l.map (oneI .i64)) 1 := k_l.h1
  have n_l : (l_l.map (oneI .i64)).length = l_l.length := List.length_map ..
  have m_l : l_l.length ≤ 9223372036854775807 := k_l.h2
  have c_l : l_l.length ≤ l_c := k_l.h3
  replace hI : Digs M l_l := hI
  refine Zbv Tryd.func4 rfl Tryd.ntmps4 rfl ?_; intro H
  refine Zk ?_; refine Za (l := [0, 1]) rfl ?_; refine Zc rfl rfl rfl rfl ?_; refine Zc rfl rfl rfl rfl ?_; refine Zg ?_; refine Ze ?_; refine Zk ?_; refine Zk ?_; refine Za (l := [0, 1, 2, 3, 4, 5, 6, 7]) rfl ?_; refine Zd rfl rfl rfl rfl ?_; refine Zat rfl rfl rfl rfl F.elem22 rfl ?_; refine Zaq rfl rfl rfl rfl rfl rfl ?_; refine Zd rfl rfl rfl rfl ?_
  refine Zbb 13 rfl (fun hc1 => ?_) (fun hc1 => ?_)
  · first | replace hc1 := dT hc1 | replace hc1 := dF hc1 | replace hc1 := nT hc1 | replace hc1 := nF hc1 | skip
    try simp only [PeerV.eta] at hc1
    first
    | (exfalso; omega)
    | (exfalso; simp [eqX] at hc1; done)
    | contradiction
    | skip
      refine Zj rfl rfl rfl ?_; refine Zj rfl rfl rfl ?_; refine Zj rfl rfl rfl ?_; refine Zx rfl rfl rfl rfl rfl ?_; refine Zg ?_; refine Ze ?_; refine Zl (.cons (k := 17) rfl (.cons (k := 3) rfl (.cons (k := 2) rfl (.cons (k := 0) rfl .nil)))) ?_; refine Zcg rfl ?_; refine Zk ?_; refine Za (l := [0, 1]) rfl ?_; refine Zc rfl rfl rfl rfl ?_; refine Zc rfl rfl rfl rfl ?_; refine Zg ?_; refine Ze ?_; refine Zl (.cons (k := 3) rfl (.cons (k := 2) rfl (.cons (k := 0) rfl .nil))) ?_; refine Zam ?_; refine Zar ?_
      refine Zal (.inr rfl) (.tmp rfl (.tmp rfl .nil)) (fun w hw => ?_)
      refine ⟨_, M, rfl, Mem.le.refl M, hw.cnt (by intro zz; first | exact Nat.le_refl _ | (simp only [Zh, Zf, Zi, cat, List.append_eq, List.append_assoc, List.cons_append, List.nil_append, List.append_nil]; omega) | (simp only [Zh, Zf, Zi, cat, List.append_eq, List.append_assoc, List.cons_append, List.nil_append, List.append_nil, PeerV.segs]; omega)), ?_⟩
      show OfR _ l_l _
      refine ⟨⟨none, 0, []⟩, _, rfl, SlK.nil, ?_⟩
      rw [if_pos (by omega)]
      exact ⟨rfl, rfl⟩
  · first | replace hc1 := dT hc1 | replace hc1 := dF hc1 | replace hc1 := nT hc1 | replace hc1 := nF hc1 | skip
    try simp only [PeerV.eta] at hc1
    first
    | (exfalso; omega)
    | (exfalso; simp [eqX] at hc1; done)
    | contradiction
    | skip
      refine Zd rfl rfl rfl rfl ?_; refine Zat rfl rfl rfl rfl F.elem22 rfl ?_; refine Zaq rfl rfl rfl rfl rfl rfl ?_; refine Zx rfl rfl rfl rfl rfl ?_; refine Zg ?_; refine Ze ?_; refine Zl (.cons (k := 17) rfl (.cons (k := 3) rfl (.cons (k := 2) rfl (.cons (k := 0) rfl .nil)))) ?_
      refine Zai rfl (fun hc2 => ?_) (fun hc2 => ?_)
      · first | replace hc2 := dT hc2 | replace hc2 := dF hc2 | replace hc2 := nT hc2 | replace hc2 := nF hc2 | skip
        try simp only [PeerV.eta] at hc2
        first
        | (exfalso; omega)
        | (exfalso; simp [eqX] at hc2; done)
        | contradiction
        | skip
          refine Zk ?_; refine Za (l := [0, 1]) rfl ?_; refine Zc rfl rfl rfl rfl ?_; refine Zc rfl rfl rfl rfl ?_; refine Zg ?_; refine Ze ?_; refine Zl (.cons (k := 3) rfl (.cons (k := 2) rfl (.cons (k := 0) rfl .nil))) ?_; refine Zam ?_; refine Zar ?_
          refine Zal (.inr rfl) (.tmp rfl (.tmp rfl .nil)) (fun w hw => ?_)
          refine ⟨_, M, rfl, Mem.le.refl M, hw.cnt (by intro zz; first | exact Nat.le_refl _ | (simp only [Zh, Zf, Zi, cat, List.append_eq, List.append_assoc, List.cons_append, List.nil_append, List.append_nil]; omega) | (simp only [Zh, Zf, Zi, cat, List.append_eq, List.append_assoc, List.cons_append, List.nil_append, List.append_nil, PeerV.segs]; omega)), ?_⟩
          show OfR _ l_l _
          refine ⟨⟨none, 0, []⟩, _, rfl, SlK.nil, ?_⟩
          rw [if_pos (by omega)]
          exact ⟨rfl, rfl⟩
      · first | replace hc2 := dT hc2 | replace hc2 := dF hc2 | replace hc2 := nT hc2 | replace hc2 := nF hc2 | skip
        try simp only [PeerV.eta] at hc2
        first
        | (exfalso; omega)
        | (exfalso; simp [eqX] at hc2; done)
        | contradiction
        | skip
          refine Zah ?_; refine Ze ?_; refine Zl (.cons (k := 3) rfl (.cons (k := 2) rfl (.cons (k := 0) rfl .nil))) ?_; refine Zk ?_; refine Za (l := [0]) rfl ?_; refine Zc rfl rfl rfl rfl ?_; refine Zg ?_; refine Ze ?_; refine Zk ?_; refine Zk ?_; refine Za (l := [0, 1, 2]) rfl ?_; refine Zd rfl rfl rfl rfl ?_; refine Zd rfl rfl rfl rfl ?_; refine X_fs rfl rfl F.ok11 rfl (ContainsOdd_ok _ ⟨l_a, l_c, l_l⟩ k_l) rfl ?_
          rintro _ rfl
          refine Zg ?_; refine Ze ?_; refine Zl (.cons (k := 20) rfl (.cons (k := 3) rfl (.cons (k := 2) rfl (.cons (k := 0) rfl .nil)))) ?_
          refine Zai rfl (fun hc3 => ?_) (fun hc3 => ?_)
          · first | replace hc3 := dT hc3 | replace hc3 := dF hc3 | replace hc3 := nT hc3 | replace hc3 := nF hc3 | skip
            try simp only [PeerV.eta] at hc3
            first
            | (exfalso; omega)
            | (exfalso; simp [eqX] at hc3; done)
            | contradiction
            | skip
              refine Zk ?_; refine Za (l := [0, 1]) rfl ?_; refine Zc rfl rfl rfl rfl ?_; refine Zc rfl rfl rfl rfl ?_; refine Zg ?_; refine Ze ?_; refine Zl (.cons (k := 3) rfl (.cons (k := 2) rfl (.cons (k := 0) rfl .nil))) ?_; refine Zam ?_; refine Zar ?_
              refine Zal (.inr rfl) (.tmp rfl (.tmp rfl .nil)) (fun w hw => ?_)
              refine ⟨_, M, rfl, Mem.le.refl M, hw.cnt (by intro zz; first | exact Nat.le_refl _ | (simp only [Zh, Zf, Zi, cat, List.append_eq, List.append_assoc, List.cons_append, List.nil_append, List.append_nil]; omega) | (simp only [Zh, Zf, Zi, cat, List.append_eq, List.append_assoc, List.cons_append, List.nil_append, List.append_nil, PeerV.segs]; omega)), ?_⟩
              show OfR _ l_l _
              refine ⟨⟨none, 0, []⟩, _, rfl, SlK.nil, ?_⟩
              rw [if_neg (by omega), if_pos (by assumption)]
              exact ⟨rfl, rfl⟩
          · first | replace hc3 := dT hc3 | replace hc3 := dF hc3 | replace hc3 := nT hc3 | replace hc3 := nF hc3 | skip
            try simp only [PeerV.eta] at hc3
            first
            | (exfalso; omega)
            | (exfalso; simp [eqX] at hc3; done)
            | contradiction
            | skip
              refine Zah ?_; refine Ze ?_; refine Zl (.cons (k := 3) rfl (.cons (k := 2) rfl (.cons (k := 0) rfl .nil))) ?_; refine Zk ?_; refine Za (l := [0]) rfl ?_
              have hodd : ¬ ∃ a ∈ l_l, OddA a := by assumption
              refine Zc rfl rfl rfl rfl ?_; refine Zg ?_; refine Ze ?_; refine Zk ?_; refine Zk ?_; refine Za (l := [0, 1, 2]) rfl ?_; refine Zd rfl rfl rfl rfl ?_; refine Zat rfl rfl rfl rfl F.elem22 rfl ?_; refine Zd rfl rfl rfl rfl ?_; refine Zg ?_; refine Ze ?_; refine Zl (.cons (k := 23) rfl (.cons (k := 22) rfl (.cons (k := 21) rfl (.cons (k := 5) rfl (.cons (k := 3) rfl (.cons (k := 2) rfl .nil)))))) ?_; refine Zad ?_; refine Zl (.cons (k := 23) rfl (.cons (k := 5) rfl (.cons (k := 22) rfl (.cons (k := 21) rfl (.cons (k := 3) rfl (.cons (k := 2) rfl .nil)))))) ?_; refine Zbu (Hin := []) (.succ (.succ .zero)) (by repeat first | exact Rem.here _ | exact Rem.two | apply Rem.skip | apply Rem.over) (fun (k : Nat) M1 h1 z => ∃ v, z = [(23, .int .i64 (k : Int)), (5, v)] ∧ k ≤ l_l.length ∧ OSl 39 21 v h1 (((l_l.take k).map peerN).map PeerV.segs)) (fun k => l_l.length - k) (0) (⟨_, rfl, by omega, OSl.nil⟩) ?_
              rintro k M1 h1 z hm1 ⟨v0, rfl, hk, ho⟩
              obtain ⟨ad0, cp0, rfl⟩ := ho.val
              have hml : (((l_l.take k).map peerN).map PeerV.segs).length = k := by simp; omega
              rw [hml] at ho ⊢
              refine Zk ?_; refine Za (l := [0]) rfl ?_; refine Zaq rfl rfl rfl rfl rfl rfl ?_; refine Zg ?_; refine Ze ?_; refine Zk ?_
              refine Zai rfl (fun hc4 => ?_) (fun hc4 => ?_)
              · first | replace hc4 := dT hc4 | replace hc4 := dF hc4 | replace hc4 := nT hc4 | replace hc4 := nF hc4 | skip
                try simp only [PeerV.eta] at hc4
                first
                | (exfalso; omega)
                | (exfalso; simp [eqX] at hc4; done)
                | contradiction
                | skip
                  refine Zah ?_; refine Ze ?_; refine Zk ?_; refine Zad ?_; refine Zk ?_; refine Za (l := [0, 1, 2]) rfl ?_; refine Zab rfl rfl rfl rfl F.elem22 (by first | rfl | exact (Int.toNat_of_nonneg (by omega)).symm) (by first | omega | (simp; done) | (simp; omega)) (by first | exact ⟨_, _, rfl⟩ | assumption | exact SlM.plain (by assumption) (by first | (simp; done) | (simp; omega)) | exact RdS.plain (by assumption) (by first | (simp; done) | (simp; omega)) | exact OSl.plain (by assumption) (by first | (simp; done) | (simp; omega))) rfl ?_
                  first | refine Zan rfl rfl rfl (by repeat first | exact List.Mem.head _ | refine List.Mem.tail _ ?_ | refine List.mem_append_right _ ?_) F.lay3 rfl rfl rfl ?_ | refine Zv rfl rfl rfl (by first | assumption | exact SlM.mono (by assumption) (by assumption)) (by first | exact Zb (by omega) | exact List.getElem?_eq_getElem (by omega) | exact rfl | exact Zb (by first | (simp; done) | (simp; omega))) F.lay3 rfl rfl rfl ?_ | refine Zu rfl rfl rfl (by assumption) (by first | exact Zb (by omega) | exact List.getElem?_eq_getElem (by omega) | exact rfl | exact Zb (by first | (simp; done) | (simp; omega))) F.lay3 rfl rfl rfl ?_ | refine Zs rfl rfl rfl (by first | assumption | exact Mem.get_of (by assumption) (by repeat first | assumption | refine Mem.le.trans (by assumption) ?_)) F.lay3 rfl rfl rfl ?_ | refine Zp rfl rfl rfl (by assumption) (by repeat first | exact Rem.here _ | exact Rem.two | apply Rem.skip | apply Rem.over) (by first | exact Zb (by omega) | exact List.getElem?_eq_getElem (by omega) | exact rfl | exact Zb (by first | (simp; done) | (simp; omega))) F.lay3 rfl rfl rfl ?_ | refine Zr rfl rfl rfl (by repeat first | exact List.Mem.head _ | refine List.Mem.tail _ ?_ | refine List.mem_append_right _ ?_) F.lay3 (by first | exact Zbw (by first | omega | decide) | exact Zbk (by first | omega | decide)) rfl ?_
                  refine Zc rfl rfl rfl rfl ?_; refine Zg ?_; refine Ze ?_; refine Zk ?_; refine Za (l := [0, 1, 2, 3, 4, 5, 6, 7, 8, 9]) rfl ?_; refine Zd rfl rfl rfl rfl ?_; refine X_fs rfl rfl F.ok13 rfl (hI _ hm1 l_l[k] (List.getElem_mem (by omega)) (fun h9 => hodd ⟨_, List.getElem_mem (by omega), h9⟩)) rfl ?_
                  rintro _ rfl
                  refine Zcl (a := nodeS) rfl rfl rfl rfl (by have := digS_size (show ¬ OddA l_l[k] from fun h9 => hodd ⟨_, List.getElem_mem (by omega), h9⟩); rw [ByteArray.size_append] at this; omega) rfl rfl ?_; refine X_fn rfl rfl F.ok12 rfl (Sum_ok _ (nodeS ++ digS l_l[k]) (Nat.le_trans (digS_size (fun h9 => hodd ⟨_, List.getElem_mem (by omega), h9⟩)) (by decide)) (hm1.loose hM)) rfl ?_
                  rintro _ M2 hm2 rfl
                  refine Zd rfl rfl rfl rfl ?_; refine Zap rfl rfl rfl rfl rfl ?_; refine Zap rfl rfl rfl rfl rfl ?_
                  refine Zbm rfl rfl F.zero34 (by constructor) rfl ?_; intro b5
                  refine Zbi rfl rfl rfl rfl (by constructor) (by first | ((try simp only [cat, List.cons_append, List.nil_append, List.append_nil]); (repeat (first | exact Zag | refine Zau ?_ | (refine Zae ?_ ?_; rfl))); done) | exact PeerV.flat _ | exact PeerV.flat ⟨_, _⟩ | exact stFlat _ | exact Zay _ | exact Zaz | (simp [flat, cat, Segs.cells, Seg.cells, Value.oneCell']; done)) (by repeat first | exact Upd.head | apply Upd.tail | apply Upd.over) F.lay34 rfl rfl ?_; refine Zc rfl rfl rfl rfl ?_; refine Zg ?_; refine Ze ?_; refine Zk ?_; refine Zk ?_; refine Za (l := [0, 1]) rfl ?_; refine Zd rfl rfl rfl rfl ?_; refine Zaq rfl rfl rfl rfl rfl rfl ?_; refine Zg ?_; refine Ze ?_
                  refine Zai rfl (fun hc6 => ?_) (fun hc6 => ?_)
                  · first | replace hc6 := dT hc6 | replace hc6 := dF hc6 | replace hc6 := nT hc6 | replace hc6 := nF hc6 | skip
                    try simp only [PeerV.eta] at hc6
                    first | (exfalso; omega) | (exfalso; simp [eqX] at hc6; done) | contradiction
                  · first | replace hc6 := dT hc6 | replace hc6 := dF hc6 | replace hc6 := nT hc6 | replace hc6 := nF hc6 | skip
                    try simp only [PeerV.eta] at hc6
                    first
                    | (exfalso; omega)
                    | (exfalso; simp [eqX] at hc6; done)
                    | contradiction
                    | skip
                      refine Zah ?_; refine Ze ?_; refine Za (l := [0, 1, 2, 3, 4, 5, 6]) rfl ?_; refine Zd rfl rfl rfl rfl ?_; refine Zd rfl rfl rfl rfl ?_
                      first | refine Zan rfl rfl rfl (by repeat first | exact List.Mem.head _ | refine List.Mem.tail _ ?_ | refine List.mem_append_right _ ?_) F.lay34 rfl rfl rfl ?_ | refine Zv rfl rfl rfl (by first | assumption | exact SlM.mono (by assumption) (by assumption)) (by first | exact Zb (by omega) | exact List.getElem?_eq_getElem (by omega) | exact rfl | exact Zb (by first | (simp; done) | (simp; omega))) F.lay34 rfl rfl rfl ?_ | refine Zu rfl rfl rfl (by assumption) (by first | exact Zb (by omega) | exact List.getElem?_eq_getElem (by omega) | exact rfl | exact Zb (by first | (simp; done) | (simp; omega))) F.lay34 rfl rfl rfl ?_ | refine Zs rfl rfl rfl (by first | assumption | exact Mem.get_of (by assumption) (by repeat first | assumption | refine Mem.le.trans (by assumption) ?_)) F.lay34 rfl rfl rfl ?_ | refine Zp rfl rfl rfl (by assumption) (by repeat first | exact Rem.here _ | exact Rem.two | apply Rem.skip | apply Rem.over) (by first | exact Zb (by omega) | exact List.getElem?_eq_getElem (by omega) | exact rfl | exact Zb (by first | (simp; done) | (simp; omega))) F.lay34 rfl rfl rfl ?_
                      refine Zcd rfl rfl F.bld39 (.cons rfl (by constructor) (.cons rfl (by constructor) .nil)) rfl rfl ?_
                      refine Zba rfl rfl F.elem23 F.zero39 rfl rfl (.cons rfl (by constructor) .nil) rfl rfl (by simp only [List.map_cons, List.map_nil] <;> rfl) rfl ?_; intro b7 hob8
                      refine Zca (m := 1000000) rfl rfl rfl rfl rfl F.elem23 F.zero39 (by first | rfl | exact Zbo rfl) rfl (by first | assumption | exact OSl.nil) (by repeat first | exact Rem.here _ | exact Rem.two | apply Rem.skip | apply Rem.over) (Src.own hob8.lens (by first | exact PeerV.flat1 _ | exact PeerV.flat1 ⟨_, _⟩ | exact stFlat _ | exact Zay _ | exact Zaz | (refine Zbf ?_; (repeat (first | exact Zag | refine Zau ?_ | (refine Zae ?_ ?_; rfl))); done) | (refine Zbf ?_; exact PeerV.flat _) | (simp [rowsCells, Segs.cells, Seg.cells, Value.oneCell']; done)) rfl (by repeat first | exact List.Mem.head _ | refine List.Mem.tail _ ?_ | refine List.mem_append_right _ ?_)) (by first | omega | (simp; done) | (simp; omega)) (by decide) rfl ?_; intro v11 hs10 ho9; obtain ⟨adv11, cpv11, rfl⟩ := ho9.val
                      refine Zc rfl rfl rfl rfl ?_; refine Zg ?_; refine Zbs ?_; refine Ze ?_; refine Za (l := [0, 1]) rfl ?_; refine Zav rfl rfl rfl rfl rfl (by first | exact Zaa (by decide) (by omega) | exact Zm (by decide) (by omega) | exact Zo (by decide) (by omega) | exact Zn (by decide) (by omega) | exact Zt _ | exact Zz _ | exact Zq _ | exact rfl) rfl ?_; refine Zd rfl rfl rfl rfl ?_; refine Zg ?_; refine Zbj (a' := [(23, _), (5, _)]) (k + 1) (hs10) (.cons (k := 23) rfl (.cons (k := 5) rfl (.cons (k := 22) rfl (.cons (k := 21) rfl (.cons (k := 3) rfl (.cons (k := 2) rfl (.nil))))))) (hm1.trans hm2) (fun w hw => by first | exact hw | exact hw.cnt (by intro zz; first | exact Nat.le_refl _ | (simp only [Zh, Zf, Zi, cat, List.append_eq, List.append_assoc, List.cons_append, List.nil_append, List.append_nil]; omega) | (simp only [Zh, Zf, Zi, cat, List.append_eq, List.append_assoc, List.cons_append, List.nil_append, List.append_nil, PeerV.segs]; omega))) ?_ ?_
                      · refine ⟨_, rfl, by omega, ?_⟩
                        rw [List.take_succ_eq_append_getElem (by omega), List.map_append, List.map_append]
                        exact ho9
                      · omega
              · first | replace hc4 := dT hc4 | replace hc4 := dF hc4 | replace hc4 := nT hc4 | replace hc4 := nF hc4 | skip
                try simp only [PeerV.eta] at hc4
                first
                | (exfalso; omega)
                | (exfalso; simp [eqX] at hc4; done)
                | contradiction
                | skip
                  refine Zbl ?_; refine Zao ?_; refine Zao ?_; refine Zbx ?_; refine Ze ?_; refine Zl (.cons (k := 5) rfl (.cons (k := 3) rfl (.cons (k := 2) rfl .nil))) ?_; refine Zk ?_
                  obtain rfl : k = l_l.length := by omega
                  rw [List.take_length] at ho
                  obtain ⟨pl, hpl⟩ : ∃ pl, pl = l_l.map peerN := ⟨_, rfl⟩
                  have hpn : l_l.length = pl.length := by rw [hpl, List.length_map]
                  rw [hpn]
                  rw [hpn, ← hpl] at ho
                  obtain ⟨b9, rfl⟩ : ∃ b, ad0 = some ⟨b, 0, none⟩ := by
                    cases ad0 with
                    | none =>
                      have h9 := ho.noneAll.1
                      rw [h9] at hpn
                      exact absurd hpn (by show l_l.length ≠ 0; omega)
                    | some ad => obtain ⟨b, rfl⟩ := ho.someAll; exact ⟨b, rfl⟩
                  refine C_regionR (l := [0, 1]) (Hin := h1) (by repeat first | exact Rem.here _ | exact Rem.two | apply Rem.skip | apply Rem.over) rfl ?_; refine Zd rfl rfl rfl rfl ?_; refine X_fhR rfl rfl F.ok14 rfl (SortC_ok _ b9 cp0 pl h1 ho (by omega)) (by repeat first | exact Rem.here _ | exact Rem.two | apply Rem.skip | apply Rem.over) (fun _ _ _ hm hw => (hw.lower (by first | exact hm | exact Mem.le.trans (by assumption) hm | exact Mem.le.trans (by first | exact Mem.le.refl _ | assumption | (repeat first | assumption | refine Mem.le.trans (by assumption) ?_)) hm)).cnt (by intro zz; first | exact Nat.le_refl _ | (simp only [Zh, Zf, Zi, cat, List.append_eq, List.append_assoc, List.cons_append, List.nil_append, List.append_nil]; omega) | (simp only [Zh, Zf, Zi, cat, List.append_eq, List.append_assoc, List.cons_append, List.nil_append, List.append_nil, PeerV.segs]; omega))) (putE_some rfl) ?_
                  rintro _ M3 hs9 hm3 ⟨hM3, rfl, l9, hp9, hsw9, ho9⟩; subst M3
                  refine Zg ?_; refine Ze ?_; refine Zl (.cons (k := 5) rfl (.cons (k := 3) rfl (.cons (k := 2) rfl .nil))) ?_; refine Zk ?_; refine Zk ?_
                  have hl9 := hp9.length_eq
                  rw [← hl9]
                  rw [← hl9] at ho9
                  refine C_frz ho9 (by repeat first | exact Rem.here _ | exact Rem.two | apply Rem.skip | apply Rem.over) (fun M4 hm4 k_s => ?_)
                  refine Za (l := [0, 1, 2]) rfl ?_; refine Zd rfl rfl rfl rfl ?_; refine X_fs rfl rfl F.ok8 rfl (Circ_ok _ ⟨_, _, _⟩ (by first | assumption | omega | exact SlK.mono (by assumption) (by assumption) | exact SlM.mono (by assumption) (by assumption) | exact SlM.mono (by assumption) (by repeat first | assumption | refine Mem.le.trans (by assumption) ?_))) rfl ?_
                  rintro _ rfl
                  refine X_not rfl rfl rfl rfl ?_; refine Zg ?_; refine Ze ?_; refine Zl (.cons (k := 48) rfl (.cons (k := 5) rfl (.cons (k := 3) rfl (.cons (k := 2) rfl .nil)))) ?_
                  refine Zai rfl (fun hc12 => ?_) (fun hc12 => ?_)
                  · first | replace hc12 := dT hc12 | replace hc12 := dF hc12 | replace hc12 := nT hc12 | replace hc12 := nF hc12 | skip
                    try simp only [PeerV.eta] at hc12
                    first
                    | (exfalso; omega)
                    | (exfalso; simp [eqX] at hc12; done)
                    | contradiction
                    | skip
                      refine Zk ?_; refine Za (l := [0, 1]) rfl ?_; refine Zc rfl rfl rfl rfl ?_; refine Zc rfl rfl rfl rfl ?_; refine Zg ?_; refine Ze ?_; refine Zl (.cons (k := 3) rfl (.cons (k := 2) rfl (.cons (k := 5) rfl .nil))) ?_; refine Zam ?_; refine Zar ?_
                      refine Zal (.inr rfl) (.tmp rfl (.tmp rfl .nil)) (fun w hw => ?_)
                      refine ⟨_, M4, rfl, hm1.trans hm4, hw.cnt (by intro zz; first | exact Nat.le_refl _ | (simp only [Zh, Zf, Zi, cat, List.append_eq, List.append_assoc, List.cons_append, List.nil_append, List.append_nil]; omega) | (simp only [Zh, Zf, Zi, cat, List.append_eq, List.append_assoc, List.cons_append, List.nil_append, List.append_nil, PeerV.segs]; omega)), ?_⟩
                      show OfR _ l_l _
                      refine ⟨⟨none, 0, []⟩, _, rfl, SlK.nil, ?_⟩
                      rw [if_neg (by omega), if_neg hodd]
                      refine ⟨l9, by rw [← hpl]; exact hp9, hsw9, ?_⟩
                      rw [if_neg (by assumption)]
                      exact ⟨rfl, rfl⟩
                  · first | replace hc12 := dT hc12 | replace hc12 := dF hc12 | replace hc12 := nT hc12 | replace hc12 := nF hc12 | skip
                    try simp only [PeerV.eta] at hc12
                    first
                    | (exfalso; omega)
                    | (exfalso; simp [eqX] at hc12; done)
                    | contradiction
                    | skip
                      refine Zah ?_; refine Ze ?_; refine Zl (.cons (k := 5) rfl (.cons (k := 3) rfl (.cons (k := 2) rfl .nil))) ?_; refine Zk ?_; refine Za (l := [0, 1, 2]) rfl ?_; refine Zd rfl rfl rfl rfl ?_; refine Zc rfl rfl rfl rfl ?_; refine Zc rfl rfl rfl rfl ?_; refine Zg ?_; refine Ze ?_; refine Zl (.cons (k := 3) rfl (.cons (k := 2) rfl .nil)) ?_; refine Zam ?_
                      refine Zal (.inr rfl) (.tmp rfl (.tmp rfl .nil)) (fun w hw => ?_)
                      refine ⟨_, M4, rfl, hm1.trans hm4, hw.cnt (by intro zz; first | exact Nat.le_refl _ | (simp only [Zh, Zf, Zi, cat, List.append_eq, List.append_assoc, List.cons_append, List.nil_append, List.append_nil]; omega) | (simp only [Zh, Zf, Zi, cat, List.append_eq, List.append_assoc, List.cons_append, List.nil_append, List.append_nil, PeerV.segs]; omega)), ?_⟩
                      show OfR _ l_l _
                      refine ⟨⟨_, cp0, l9⟩, _, rfl, k_s, ?_⟩
                      rw [if_neg (by omega), if_neg hodd]
                      refine ⟨l9, by rw [← hpl]; exact hp9, hsw9, ?_⟩
                      rw [if_pos (by assumption)]
                      exact ⟨rfl, rfl⟩
end Go.Proofs.YtpfdblknaihidaaDoor
namespace Go.Esp
def smallP (n : Int) : Plc := ofBytes fun i => if i = 19 then (n % 256).toNat else if i = 18 then (n / 256 % 256).toNat else 0
theorem smallP_lt (n : Int) : ∀ i, (if i = 19 then (n % 256).toNat else if i = 18 then (n / 256 % 256).toNat else 0) < 256 := fun i => by
  split
  · omega
  · split
    · omega
    · decide
theorem idV0 {i : Nat} (h : i < 20) : (idV 0)[i] = .int .u8 0 := by rw [Zcc _ h]; simp [idB]
theorem small_seg (n : Int) : idV (smallP n) = ((idV 0).set 19 (.int .u8 (n % 256))).set 18 (.int .u8 (n / 256 % 256)) := by
  apply Vector.ext
  intro i hi
  rw [Zcc _ hi]
  unfold smallP
  rw [idB_ofBytes (smallP_lt n) hi]
  by_cases e8 : i = 18
  · subst e8
    rw [Vector.getElem_set_self]
    simp
    omega
  · rw [Vector.getElem_set_ne _ _ (Ne.symm e8)]
    by_cases e9 : i = 19
    · subst e9
      rw [Vector.getElem_set_self]
      simp
      omega
    · rw [Vector.getElem_set_ne _ _ (Ne.symm e9), idV0 hi]
      simp [e8, e9]
end Go.Esp
namespace Go.Proofs.YtpfdblknaihidaaDoor
open Go.Esp
theorem F.ok18 : okFn Tryd.prog 18 = true := by kernel_rfl
theorem F.ok19 : okFn Tryd.prog 19 = true := by kernel_rfl
theorem F.ok20 : okFn Tryd.prog 20 = true := by kernel_rfl
theorem F.ok21 : okFn Tryd.prog 21 = true := by kernel_rfl
theorem F.ok22 : okFn Tryd.prog 22 = true := by kernel_rfl
theorem F.ok23 : okFn Tryd.prog 23 = true := by kernel_rfl
theorem F.ok4 : okFn Tryd.prog 4 = true := by kernel_rfl
theorem Small_ok (M : Mem) (n : Int) (hn : 0 ≤ n ∧ n ≤ 1000000) : Fs Tryd.prog 20 [.int .i64 n] M (fun v => v = (fun x => aggV [idSeg x]) (smallP n)) := by
  refine Zbd Tryd.func20 rfl Tryd.ntmps20 rfl ?_; intro H
  refine Zk ?_; refine Za (l := [0]) rfl ?_
  refine Zbm rfl rfl F.zero34 (by constructor) rfl ?_; intro b1
  refine Zg ?_; refine Ze ?_; refine Zk ?_; refine Za (l := [0]) rfl ?_
  refine Zbm rfl rfl F.zero34 (by constructor) rfl ?_; intro b2
  refine Zg ?_; refine Ze ?_; refine Zk ?_; refine Za (l := [0, 1, 2, 3, 4]) rfl ?_; refine Zd rfl rfl rfl rfl ?_; refine Zck rfl rfl rfl rfl (by first | decide | omega) (by first | exact Zch (by omega) | rfl) rfl ?_; refine Zci rfl rfl rfl Tryd.underlying3 Tryd.underlying5 (by first | exact Zaa (by decide) (by omega) | exact Zm (by decide) (by omega) | exact Zo (by decide) (by omega) | exact Zn (by decide) (by omega) | exact Zt _ | exact Zz _ | exact Zq _ | exact rfl) rfl ?_; refine Zw rfl rfl rfl rfl F.arr34 (by first | rfl | exact (Int.toNat_of_nonneg (by omega)).symm) (by first | omega | decide | (simp; omega)) rfl ?_
  first | refine Zbi rfl rfl rfl rfl (by constructor) (by first | ((try simp only [cat, List.cons_append, List.nil_append, List.append_nil]); (repeat (first | exact Zag | refine Zau ?_ | (refine Zae ?_ ?_; rfl))); done) | (simp [flat, cat, Segs.cells, Seg.cells, Value.oneCell']; done)) (by repeat first | exact Upd.head | apply Upd.tail | apply Upd.over) F.lay5 rfl rfl ?_ | refine X_store_cell rfl rfl rfl rfl rfl rfl (by repeat first | exact Upd.head | apply Upd.tail | apply Upd.over) F.lay5 (arr_len (by first | omega | decide)) (arr_set (by first | omega | decide)) ?_
  refine Zg ?_; refine Ze ?_; refine Zl (.cons (k := 3) rfl (.cons (k := 2) rfl (.cons (k := 0) rfl .nil))) ?_; refine Zk ?_; refine Za (l := [0, 1, 2, 3, 4, 5]) rfl ?_; refine Zd rfl rfl rfl rfl ?_; refine X_quo rfl rfl rfl rfl (by first | decide | omega) (by first | exact quo_in rfl (by omega) (by omega) (by omega) | rfl) rfl ?_; refine Zck rfl rfl rfl rfl (by first | decide | omega) (by first | exact Zch (by omega) | rfl) rfl ?_; refine Zci rfl rfl rfl Tryd.underlying3 Tryd.underlying5 (by first | exact Zaa (by decide) (by omega) | exact Zm (by decide) (by omega) | exact Zo (by decide) (by omega) | exact Zn (by decide) (by omega) | exact Zt _ | exact Zz _ | exact Zq _ | exact rfl) rfl ?_; refine Zw rfl rfl rfl rfl F.arr34 (by first | rfl | exact (Int.toNat_of_nonneg (by omega)).symm) (by first | omega | decide | (simp; omega)) rfl ?_
  first | refine Zbi rfl rfl rfl rfl (by constructor) (by first | ((try simp only [cat, List.cons_append, List.nil_append, List.append_nil]); (repeat (first | exact Zag | refine Zau ?_ | (refine Zae ?_ ?_; rfl))); done) | (simp [flat, cat, Segs.cells, Seg.cells, Value.oneCell']; done)) (by repeat first | exact Upd.head | apply Upd.tail | apply Upd.over) F.lay5 rfl rfl ?_ | refine X_store_cell rfl rfl rfl rfl rfl rfl (by repeat first | exact Upd.head | apply Upd.tail | apply Upd.over) F.lay5 (arr_len (by first | omega | decide)) (arr_set (by first | omega | decide)) ?_
  refine Zg ?_; refine Ze ?_; refine Zl (.cons (k := 3) rfl (.cons (k := 2) rfl .nil)) ?_; refine Zk ?_; refine Za (l := [0, 1]) rfl ?_
  first | refine Zan rfl rfl rfl (by repeat first | exact List.Mem.head _ | refine List.Mem.tail _ ?_ | refine List.mem_append_right _ ?_) F.lay34 rfl rfl rfl ?_ | refine Zv rfl rfl rfl (by first | assumption | exact SlM.mono (by assumption) (by assumption)) (by first | exact Zb (by omega) | exact List.getElem?_eq_getElem (by omega) | exact rfl | exact Zb (by first | (simp; done) | (simp; omega))) F.lay34 rfl rfl rfl ?_ | refine Zu rfl rfl rfl (by assumption) (by first | exact Zb (by omega) | exact List.getElem?_eq_getElem (by omega) | exact rfl | exact Zb (by first | (simp; done) | (simp; omega))) F.lay34 rfl rfl rfl ?_ | refine Zs rfl rfl rfl (by first | assumption | exact Mem.get_of (by assumption) (by repeat first | assumption | refine Mem.le.trans (by assumption) ?_)) F.lay34 rfl rfl rfl ?_ | refine Zp rfl rfl rfl (by assumption) (by repeat first | exact Rem.here _ | exact Rem.two | apply Rem.skip | apply Rem.over) (by first | exact Zb (by omega) | exact List.getElem?_eq_getElem (by omega) | exact rfl | exact Zb (by first | (simp; done) | (simp; omega))) F.lay34 rfl rfl rfl ?_
  refine XD_is 13 rfl (show aggV [.arr 20 _] = aggV [idSeg (smallP n)] from by unfold idSeg; rw [small_seg]) ?_; refine Zbi rfl rfl rfl rfl (by constructor) (by first | ((try simp only [cat, List.cons_append, List.nil_append, List.append_nil]); (repeat (first | exact Zag | refine Zau ?_ | (refine Zae ?_ ?_; rfl))); done) | exact PeerV.flat _ | exact PeerV.flat ⟨_, _⟩ | exact stFlat _ | exact Zay _ | exact Zaz | (simp [flat, cat, Segs.cells, Seg.cells, Value.oneCell']; done)) (by repeat first | exact Upd.head | apply Upd.tail | apply Upd.over) F.lay34 rfl rfl ?_; refine Zg ?_; refine Ze ?_; refine Zl (.cons (k := 2) rfl .nil) ?_; refine Zam ?_
  refine Zal (.inr rfl) (.cell rfl (by repeat first | exact List.Mem.head _ | refine List.Mem.tail _ ?_ | refine List.mem_append_right _ ?_) F.lay34 rfl rfl .nil) (fun w hw => ?_)
  refine ⟨_, rfl, (hw.cnt (by intro zz; first | exact Nat.le_refl _ | (simp only [Zh, Zf, Zi, cat, List.append_eq, List.append_assoc, List.cons_append, List.nil_append, List.append_nil]; omega) | (simp only [Zh, Zf, Zi, cat, List.append_eq, List.append_assoc, List.cons_append, List.nil_append, List.append_nil, PeerV.segs]; omega))), ?_⟩
  clear hw
  rfl
theorem xs10 : smallP 10 = 10#160 := by kernel_rfl
theorem small10_ok (M : Mem) : Fs Tryd.prog 20 [.int .i64 10] M (fun v => v = aggV [idSeg 10#160]) := by
  have h := Small_ok M 10 (by decide)
  rw [xs10] at h
  exact h
theorem xs20 : smallP 20 = 20#160 := by kernel_rfl
theorem small20_ok (M : Mem) : Fs Tryd.prog 20 [.int .i64 20] M (fun v => v = aggV [idSeg 20#160]) := by
  have h := Small_ok M 20 (by decide)
  rw [xs20] at h
  exact h
theorem xs21 : smallP 21 = 21#160 := by kernel_rfl
theorem small21_ok (M : Mem) : Fs Tryd.prog 20 [.int .i64 21] M (fun v => v = aggV [idSeg 21#160]) := by
  have h := Small_ok M 21 (by decide)
  rw [xs21] at h
  exact h
theorem xs25 : smallP 25 = 25#160 := by kernel_rfl
theorem small25_ok (M : Mem) : Fs Tryd.prog 20 [.int .i64 25] M (fun v => v = aggV [idSeg 25#160]) := by
  have h := Small_ok M 25 (by decide)
  rw [xs25] at h
  exact h
theorem xs30 : smallP 30 = 30#160 := by kernel_rfl
theorem small30_ok (M : Mem) : Fs Tryd.prog 20 [.int .i64 30] M (fun v => v = aggV [idSeg 30#160]) := by
  have h := Small_ok M 30 (by decide)
  rw [xs30] at h
  exact h
theorem xs31 : smallP 31 = 31#160 := by kernel_rfl
theorem small31_ok (M : Mem) : Fs Tryd.prog 20 [.int .i64 31] M (fun v => v = aggV [idSeg 31#160]) := by
  have h := Small_ok M 31 (by decide)
  rw [xs31] at h
  exact h
def threeL : List PeerV := [⟨1, 10#160⟩, ⟨2, 20#160⟩, ⟨3, 30#160⟩]
theorem own20 : ownerR threeL 20#160 = (1, 0) := by kernel_rfl
theorem own21 : ownerR threeL 21#160 = (2, 0) := by kernel_rfl
theorem own31 : ownerR threeL 31#160 = (0, 0) := by kernel_rfl
theorem cop25 : copiesR threeL 25#160 2 = ([2, 0], 0) := by kernel_rfl
theorem isc3 : IsCircle threeL := of_decide_eq_true (by kernel_rfl)
theorem three_ok (M : Mem) : Esp.Fn Tryd.prog 19 [] M (fun M' v => ∃ s : Sl PeerV, v = s.val ∧ s.l = threeL ∧ SlK M' PeerV.segs 21 s) := by
  refine Zbv Tryd.func19 rfl Tryd.ntmps19 rfl ?_; intro H
  refine Zk ?_; refine Za (l := [0]) rfl ?_; refine Zc rfl rfl rfl rfl ?_; refine Zg ?_; refine Ze ?_; refine Zk ?_; refine Za (l := [0, 1, 2, 3, 4, 5, 6, 7]) rfl ?_; refine X_fs rfl rfl F.ok20 rfl (small10_ok _) rfl ?_
  rintro _ rfl
  refine Zcd rfl rfl F.bld39 (.cons rfl (by constructor) (.cons rfl (by constructor) .nil)) rfl rfl ?_; refine X_fs rfl rfl F.ok20 rfl (small20_ok _) rfl ?_
  rintro _ rfl
  refine Zcd rfl rfl F.bld39 (.cons rfl (by constructor) (.cons rfl (by constructor) .nil)) rfl rfl ?_; refine X_fs rfl rfl F.ok20 rfl (small30_ok _) rfl ?_
  rintro _ rfl
  refine Zcd rfl rfl F.bld39 (.cons rfl (by constructor) (.cons rfl (by constructor) .nil)) rfl rfl ?_
  refine Zba rfl rfl F.elem23 F.zero39 rfl rfl (.cons rfl (by constructor) (.cons rfl (by constructor) (.cons rfl (by constructor) .nil))) rfl rfl (by simp only [List.map_cons, List.map_nil] <;> rfl) rfl ?_; intro b1 hob2
  refine Zc rfl rfl rfl rfl ?_; refine Zg ?_; refine Ze ?_; refine Zl (.cons (k := 0) rfl .nil) ?_; refine Zam ?_
  refine Zal (.inr rfl) (.tmp rfl .nil) (fun w hw => ?_)
  obtain ⟨M9, j1, j2, j3⟩ := OSl.frz (l := threeL) (f := PeerV.segs) (show OSl 39 21 _ _ (threeL.map PeerV.segs) from hob2) hw
  exact ⟨_, M9, rfl, j1, j2, ⟨_, 3, threeL⟩, rfl, rfl, j3⟩
theorem IntsF_ok (M : Mem) (x : Sl Int) (a : Option Addr) (c : Nat) (l : List Int) (hs : Hp) (hx : SlK M (oneI .i64) 1 x) (ho : OSl 3 1 (.slice a l.length c) hs (l.map (oneI .i64))) : Fh Tryd.prog 23 [Sl.val x, .slice a l.length c] M hs (fun M' v Hout => Hout = [] ∧ v = .bool (decide (x.l = l))) := fun H w hw => by
  obtain ⟨M1, h1, h2, h3⟩ := ho.frz hw
  exact (Ints_ok M1 x ⟨a, c, l⟩ (hx.mono h1) h3 H w h2).mono fun e w2 ⟨v, g1, g2, g3⟩ => ⟨v, M1, [], g1, h1, g2, rfl, g3⟩
theorem OfF_ok (M : Mem) (a : Option Addr) (c : Nat) (l : List Int) (hs : Hp) (ho : OSl 3 1 (.slice a l.length c) hs (l.map (oneI .i64))) (hM : M.dr = 0) (hI : Digs M l) : Fh Tryd.prog 4 [.slice a l.length c] M hs (fun M' v Hout => Hout = [] ∧ OfR M' l v) := fun H w hw => by
  obtain ⟨M1, h1, h2, h3⟩ := ho.frz hw
  exact (Of_ok M1 ⟨a, c, l⟩ h3 (h1.loose hM) (hI.mono h1) H w h2).mono fun e w2 ⟨v, M2, g1, g2, g3, g4⟩ => ⟨v, M2, [], g1, h1.trans g2, g3, rfl, g4⟩
theorem digs575 {M0 : Mem} : Digs M0 [5, 7, 5] := by
  intro M _ a ha ho
  have h9 : a = 5 ∨ a = 7 ∨ a = 5 := by simpa using ha
  have h : a = 5 ∨ a = 7 := by omega
  rcases h with rfl | rfl
  · exact Itoa_ok M 5 (by decide)
  · exact Itoa_ok M 7 (by decide)
theorem of575 {M : Mem} {v : Value} (h : OfR M [5, 7, 5] v) : ∃ s : Sl PeerV, v = .tuple #[s.val, .int .i64 9] := by
  obtain ⟨s, c, rfl, _, h⟩ := h
  rw [if_neg (by decide), if_neg (by decide)] at h
  obtain ⟨l', hp, _, h⟩ := h
  have hn : ¬ IsCircle l' := fun hc => by
    have h1 : (l'.map PeerV.addr).Perm (([5, 7, 5].map peerN).map PeerV.addr) := hp.map _
    have h2 : (([5, 7, 5].map peerN).map PeerV.addr).Nodup := (h1.nodup_iff).1 hc.2.2.1
    have h3 : ([5, 7, 5] : List Int).Nodup := h2
    exact absurd h3 (by decide)
  rw [if_neg hn] at h
  obtain ⟨_, rfl⟩ := h
  exact ⟨s, rfl⟩
theorem rounded_ok (M : Mem) (hM : M.dr = 0) : Esp.Fn Tryd.prog 6 [] M (fun _ v => v = .bool true) := by
  refine Zbv Tryd.func6 rfl Tryd.ntmps6 rfl ?_; intro H
  refine Zk ?_; refine Za (l := [0]) rfl ?_; refine Zc rfl rfl rfl rfl ?_; refine Zg ?_; refine Ze ?_; refine Zk ?_; refine Za (l := [0, 1, 2, 3, 4, 5, 6, 7]) rfl ?_; refine X_fn rfl rfl F.ok19 rfl (three_ok _) rfl ?_
  rintro _ M1 hm1 ⟨⟨a1, c1, l1⟩, rfl, h1, k1⟩
  simp only at h1
  subst h1
  refine X_fs rfl rfl F.ok20 rfl (small20_ok _) rfl ?_
  rintro _ rfl
  refine X_fs rfl rfl F.ok18 rfl (Owner_ok _ ⟨a1, c1, threeL⟩ 20#160 k1) rfl ?_
  rintro _ hv
  replace hv : _ = ofII (ownerR threeL 20#160) := hv
  rw [own20] at hv
  subst hv
  refine Zd rfl rfl rfl rfl ?_; refine Zap rfl rfl rfl rfl rfl ?_; refine Zap rfl rfl rfl rfl rfl ?_; refine Zc rfl rfl rfl rfl ?_; refine Zc rfl rfl rfl rfl ?_; refine Zg ?_; refine Ze ?_; refine Zl (.cons (k := 2) rfl (.cons (k := 1) rfl (.cons (k := 0) rfl .nil))) ?_; refine Zk ?_; refine Za (l := [0, 1, 2, 3, 4, 5, 6, 7]) rfl ?_; refine X_fn rfl rfl F.ok19 rfl (three_ok _) rfl ?_
  rintro _ M2 hm2 ⟨⟨a2, c2, l2⟩, rfl, h2, k2⟩
  simp only at h2
  subst h2
  refine X_fs rfl rfl F.ok20 rfl (small21_ok _) rfl ?_
  rintro _ rfl
  refine X_fs rfl rfl F.ok18 rfl (Owner_ok _ ⟨a2, c2, threeL⟩ 21#160 k2) rfl ?_
  rintro _ hv
  replace hv : _ = ofII (ownerR threeL 21#160) := hv
  rw [own21] at hv
  subst hv
  refine Zd rfl rfl rfl rfl ?_; refine Zap rfl rfl rfl rfl rfl ?_; refine Zap rfl rfl rfl rfl rfl ?_; refine Zc rfl rfl rfl rfl ?_; refine Zc rfl rfl rfl rfl ?_; refine Zg ?_; refine Ze ?_; refine Zl (.cons (k := 4) rfl (.cons (k := 3) rfl (.cons (k := 2) rfl (.cons (k := 1) rfl (.cons (k := 0) rfl .nil))))) ?_; refine Zk ?_; refine Za (l := [0, 1, 2, 3, 4, 5, 6, 7]) rfl ?_; refine X_fn rfl rfl F.ok19 rfl (three_ok _) rfl ?_
  rintro _ M3 hm3 ⟨⟨a3, c3, l3⟩, rfl, h3, k3⟩
  simp only at h3
  subst h3
  refine X_fs rfl rfl F.ok20 rfl (small31_ok _) rfl ?_
  rintro _ rfl
  refine X_fs rfl rfl F.ok18 rfl (Owner_ok _ ⟨a3, c3, threeL⟩ 31#160 k3) rfl ?_
  rintro _ hv
  replace hv : _ = ofII (ownerR threeL 31#160) := hv
  rw [own31] at hv
  subst hv
  refine Zd rfl rfl rfl rfl ?_; refine Zap rfl rfl rfl rfl rfl ?_; refine Zap rfl rfl rfl rfl rfl ?_; refine Zc rfl rfl rfl rfl ?_; refine Zc rfl rfl rfl rfl ?_; refine Zg ?_; refine Ze ?_; refine Zl (.cons (k := 6) rfl (.cons (k := 5) rfl (.cons (k := 4) rfl (.cons (k := 3) rfl (.cons (k := 2) rfl (.cons (k := 1) rfl (.cons (k := 0) rfl .nil))))))) ?_; refine Zk ?_; refine Za (l := [0, 1, 2, 3, 4, 5, 6, 7]) rfl ?_; refine X_fn rfl rfl F.ok19 rfl (three_ok _) rfl ?_
  rintro _ M4 hm4 ⟨⟨a4, c4, l4⟩, rfl, h4, k4⟩
  simp only at h4
  subst h4
  refine X_fs rfl rfl F.ok20 rfl (small25_ok _) rfl ?_
  rintro _ rfl
  refine X_fn rfl rfl F.ok21 rfl (Copies_ok _ ⟨a4, c4, threeL⟩ 25#160 2 k4) rfl ?_
  rintro _ M6 hm6 hv
  replace hv : IntsE _ _ (copiesR threeL 25#160 2) := hv
  rw [cop25] at hv
  obtain ⟨⟨a6, c6, l6⟩, rfl, h6, k6⟩ := hv
  simp only at h6
  subst h6
  refine Zd rfl rfl rfl rfl ?_; refine Zap rfl rfl rfl rfl rfl ?_; refine Zap rfl rfl rfl rfl rfl ?_; refine Zc rfl rfl rfl rfl ?_; refine Zc rfl rfl rfl rfl ?_; refine Zg ?_; refine Ze ?_; refine Zl (.cons (k := 8) rfl (.cons (k := 7) rfl (.cons (k := 6) rfl (.cons (k := 5) rfl (.cons (k := 4) rfl (.cons (k := 3) rfl (.cons (k := 2) rfl (.cons (k := 1) rfl (.cons (k := 0) rfl .nil))))))))) ?_; refine Zk ?_; refine Za (l := [0, 1, 2, 3, 4, 5, 6]) rfl ?_
  refine Zba rfl rfl F.elem22 F.zero3 rfl rfl (.cons rfl (by constructor) (.cons rfl (by constructor) (.cons rfl (by constructor) .nil))) rfl rfl (by simp only [List.map_cons, List.map_nil] <;> rfl) rfl ?_; intro b1 hob2
  refine X_fhR rfl rfl F.ok4 rfl (OfF_ok _ _ _ [5, 7, 5] _ hob2 (Mem.le.loose (by first | exact Mem.le.refl _ | assumption | (repeat first | assumption | refine Mem.le.trans (by assumption) ?_)) hM) digs575) (by repeat first | exact Rem.here _ | exact Rem.two | apply Rem.skip | apply Rem.over) (fun _ _ _ hm hw => (hw.lower (by first | exact hm | exact Mem.le.trans (by assumption) hm | exact Mem.le.trans (by first | exact Mem.le.refl _ | assumption | (repeat first | assumption | refine Mem.le.trans (by assumption) ?_)) hm)).cnt (by intro zz; first | exact Nat.le_refl _ | (simp only [Zh, Zf, Zi, cat, List.append_eq, List.append_assoc, List.cons_append, List.nil_append, List.append_nil]; omega) | (simp only [Zh, Zf, Zi, cat, List.append_eq, List.append_assoc, List.cons_append, List.nil_append, List.append_nil, PeerV.segs]; omega))) (putE_some rfl) ?_
  rintro _ M7 _ hm7 ⟨rfl, h7⟩
  obtain ⟨⟨a7, c7, l7⟩, rfl⟩ := of575 h7
  refine Zd rfl rfl rfl rfl ?_; refine Zap rfl rfl rfl rfl rfl ?_; refine Zap rfl rfl rfl rfl rfl ?_; refine Zc rfl rfl rfl rfl ?_; refine Zc rfl rfl rfl rfl ?_; refine Zg ?_; refine Ze ?_; refine Zl (.cons (k := 10) rfl (.cons (k := 8) rfl (.cons (k := 7) rfl (.cons (k := 6) rfl (.cons (k := 5) rfl (.cons (k := 4) rfl (.cons (k := 3) rfl (.cons (k := 2) rfl (.cons (k := 1) rfl (.cons (k := 0) rfl .nil)))))))))) ?_; refine Zk ?_; refine Za (l := [0, 1, 2, 3, 4, 5, 6, 7, 8, 9, 10, 11, 12, 13, 14, 15, 16, 17, 18, 19, 20, 21, 22, 23, 24, 25, 26, 27, 28, 29, 30, 31, 32, 33, 34, 35, 36, 37, 38, 39, 40, 41, 42, 43, 44, 45, 46, 47]) rfl ?_; refine X_fs rfl rfl F.ok22 rfl (None_ok _) rfl ?_
  rintro _ rfl
  refine XD_is 40 rfl (show _ = aggV [.one (.int .i64 (-1)), idSeg 0] from rfl) ?_; refine Zcd rfl rfl F.bld39 (.cons rfl (by constructor) .nil) rfl rfl ?_
  refine X_same (m := 20) rfl rfl rfl rfl rfl (by constructor) (by constructor) F.lay39 F.kinds39 rfl F.guard39 (by first | exact FitPeerV _ | exact FitPeerV (⟨_, _⟩) | (repeat first | exact trivial | exact rfl | refine And.intro ?_ ?_ | refine idFits _ ?_)) (by first | exact FitPeerV _ | exact FitPeerV (⟨_, _⟩) | (repeat first | exact trivial | exact rfl | refine And.intro ?_ ?_ | refine idFits _ ?_)) rfl rfl rfl ?_; intro c3 he4
  replace he4 : c3 = true ↔ Segs.cells _ = Segs.cells _ := he4
  obtain rfl := eqD he4 (PeerV.inj (x := ⟨_, _⟩) (y := ⟨_, _⟩)); clear he4
  refine Zd rfl rfl rfl rfl ?_
  refine Zbb 43 rfl (fun hc5 => ?_) (fun hc5 => ?_)
  · first | replace hc5 := dT hc5 | replace hc5 := dF hc5 | replace hc5 := nT hc5 | replace hc5 := nF hc5 | skip
    try simp only [PeerV.eta] at hc5
    first
    | (exfalso; omega)
    | (exfalso; simp [eqX] at hc5; done)
    | contradiction
    | skip
      refine X_fn rfl rfl F.ok19 rfl (three_ok _) rfl ?_
      rintro _ M5 hm5 ⟨⟨a5, c5, l5⟩, rfl, h5, k5⟩
      simp only at h5
      subst h5
      refine X_fs rfl rfl F.ok8 rfl (Circ_ok _ ⟨a5, c5, threeL⟩ k5) rfl ?_
      rintro _ hv
      replace hv : _ = Value.bool (decide (IsCircle threeL)) := hv
      rw [decide_eq_true isc3] at hv
      subst hv
      refine Zx rfl rfl rfl rfl rfl ?_; refine Zd rfl rfl rfl rfl ?_
      refine Zbb 47 rfl (fun hc6 => ?_) (fun hc6 => ?_)
      · first | replace hc6 := dT hc6 | replace hc6 := dF hc6 | replace hc6 := nT hc6 | replace hc6 := nF hc6 | skip
        try simp only [PeerV.eta] at hc6
        first
        | (exfalso; omega)
        | (exfalso; simp [eqX] at hc6; done)
        | contradiction
        | skip
          refine Zd rfl rfl rfl rfl ?_; refine Zaq rfl rfl rfl rfl rfl rfl ?_; refine Zx rfl rfl rfl rfl rfl ?_; refine Zd rfl rfl rfl rfl ?_
          refine Zbb 51 rfl (fun hc7 => ?_) (fun hc7 => ?_)
          · first | replace hc7 := dT hc7 | replace hc7 := dF hc7 | replace hc7 := nT hc7 | replace hc7 := nF hc7 | skip
            try simp only [PeerV.eta] at hc7
            first
            | (exfalso; omega)
            | (exfalso; simp [eqX] at hc7; done)
            | contradiction
            | skip
              refine Zd rfl rfl rfl rfl ?_; refine Zaq rfl rfl rfl rfl rfl rfl ?_; refine Zx rfl rfl rfl rfl rfl ?_; refine Zd rfl rfl rfl rfl ?_
              refine Zbb 55 rfl (fun hc8 => ?_) (fun hc8 => ?_)
              · first | replace hc8 := dT hc8 | replace hc8 := dF hc8 | replace hc8 := nT hc8 | replace hc8 := nF hc8 | skip
                try simp only [PeerV.eta] at hc8
                first
                | (exfalso; omega)
                | (exfalso; simp [eqX] at hc8; done)
                | contradiction
                | skip
                  refine Zd rfl rfl rfl rfl ?_; refine Zd rfl rfl rfl rfl ?_; refine Zaq rfl rfl rfl rfl rfl rfl ?_; refine Zx rfl rfl rfl rfl rfl ?_; refine Zd rfl rfl rfl rfl ?_
                  refine Zbb 60 rfl (fun hc9 => ?_) (fun hc9 => ?_)
                  · first | replace hc9 := dT hc9 | replace hc9 := dF hc9 | replace hc9 := nT hc9 | replace hc9 := nF hc9 | skip
                    try simp only [PeerV.eta] at hc9
                    first
                    | (exfalso; omega)
                    | (exfalso; simp [eqX] at hc9; done)
                    | contradiction
                    | skip
                      refine Zd rfl rfl rfl rfl ?_; refine Zaq rfl rfl rfl rfl rfl rfl ?_; refine Zx rfl rfl rfl rfl rfl ?_; refine Zd rfl rfl rfl rfl ?_
                      refine Zbb 64 rfl (fun hc10 => ?_) (fun hc10 => ?_)
                      · first | replace hc10 := dT hc10 | replace hc10 := dF hc10 | replace hc10 := nT hc10 | replace hc10 := nF hc10 | skip
                        try simp only [PeerV.eta] at hc10
                        first
                        | (exfalso; omega)
                        | (exfalso; simp [eqX] at hc10; done)
                        | contradiction
                        | skip
                          refine Zd rfl rfl rfl rfl ?_; refine Zd rfl rfl rfl rfl ?_; refine Zaq rfl rfl rfl rfl rfl rfl ?_; refine Zx rfl rfl rfl rfl rfl ?_; refine Zd rfl rfl rfl rfl ?_
                          refine Zbb 69 rfl (fun hc11 => ?_) (fun hc11 => ?_)
                          · first | replace hc11 := dT hc11 | replace hc11 := dF hc11 | replace hc11 := nT hc11 | replace hc11 := nF hc11 | skip
                            try simp only [PeerV.eta] at hc11
                            first
                            | (exfalso; omega)
                            | (exfalso; simp [eqX] at hc11; done)
                            | contradiction
                            | skip
                              refine Zd rfl rfl rfl rfl ?_; refine Zaq rfl rfl rfl rfl rfl rfl ?_; refine Zx rfl rfl rfl rfl rfl ?_; refine Zd rfl rfl rfl rfl ?_
                              refine Zbb 73 rfl (fun hc12 => ?_) (fun hc12 => ?_)
                              · first | replace hc12 := dT hc12 | replace hc12 := dF hc12 | replace hc12 := nT hc12 | replace hc12 := nF hc12 | skip
                                try simp only [PeerV.eta] at hc12
                                first
                                | (exfalso; omega)
                                | (exfalso; simp [eqX] at hc12; done)
                                | contradiction
                                | skip
                                  refine Zd rfl rfl rfl rfl ?_; refine Zd rfl rfl rfl rfl ?_; refine Zaq rfl rfl rfl rfl rfl rfl ?_; refine Zx rfl rfl rfl rfl rfl ?_; refine Zd rfl rfl rfl rfl ?_
                                  refine Zbb 78 rfl (fun hc13 => ?_) (fun hc13 => ?_)
                                  · first | replace hc13 := dT hc13 | replace hc13 := dF hc13 | replace hc13 := nT hc13 | replace hc13 := nF hc13 | skip
                                    try simp only [PeerV.eta] at hc13
                                    first
                                    | (exfalso; omega)
                                    | (exfalso; simp [eqX] at hc13; done)
                                    | contradiction
                                    | skip
                                      refine Zd rfl rfl rfl rfl ?_
                                      refine Zba rfl rfl F.elem22 F.zero3 rfl rfl (.cons rfl (by constructor) (.cons rfl (by constructor) .nil)) rfl rfl (by simp only [List.map_cons, List.map_nil] <;> rfl) rfl ?_; intro b14 hob15
                                      refine X_fhR rfl rfl F.ok23 rfl (IntsF_ok _ ⟨a6, c6, [2, 0]⟩ _ _ [2, 0] _ (k6.mono (by first | exact Mem.le.refl _ | assumption | (repeat first | assumption | refine Mem.le.trans (by assumption) ?_))) hob15) (by repeat first | exact Rem.here _ | exact Rem.two | apply Rem.skip | apply Rem.over) (fun _ _ _ hm hw => (hw.lower (by first | exact hm | exact Mem.le.trans (by assumption) hm | exact Mem.le.trans (by first | exact Mem.le.refl _ | assumption | (repeat first | assumption | refine Mem.le.trans (by assumption) ?_)) hm)).cnt (by intro zz; first | exact Nat.le_refl _ | (simp only [Zh, Zf, Zi, cat, List.append_eq, List.append_assoc, List.cons_append, List.nil_append, List.append_nil]; omega) | (simp only [Zh, Zf, Zi, cat, List.append_eq, List.append_assoc, List.cons_append, List.nil_append, List.append_nil, PeerV.segs]; omega))) (putE_some rfl) ?_
                                      rintro _ M8 _ hm8 ⟨rfl, hv⟩
                                      replace hv : _ = Value.bool (decide (([2, 0] : List Int) = [2, 0])) := hv
                                      rw [decide_eq_true rfl] at hv
                                      subst hv
                                      refine Zx rfl rfl rfl rfl rfl ?_; refine Zd rfl rfl rfl rfl ?_
                                      refine Zbb 83 rfl (fun hc16 => ?_) (fun hc16 => ?_)
                                      · first | replace hc16 := dT hc16 | replace hc16 := dF hc16 | replace hc16 := nT hc16 | replace hc16 := nF hc16 | skip
                                        try simp only [PeerV.eta] at hc16
                                        first
                                        | (exfalso; omega)
                                        | (exfalso; simp [eqX] at hc16; done)
                                        | contradiction
                                        | skip
                                          refine Zd rfl rfl rfl rfl ?_; refine Zaq rfl rfl rfl rfl rfl rfl ?_; refine Zx rfl rfl rfl rfl rfl ?_; refine Zc rfl rfl rfl rfl ?_; refine Zg ?_; refine Ze ?_; refine Zl (.cons (k := 0) rfl .nil) ?_; refine Zam ?_
                                          refine Zal (.inr rfl) (.tmp rfl .nil) (fun w hw => ?_)
                                          refine ⟨_, _, rfl, (by first | exact Mem.le.refl _ | assumption | (repeat first | assumption | refine Mem.le.trans (by assumption) ?_)), hw.cnt (by intro zz; first | exact Nat.le_refl _ | (simp only [Zh, Zf, Zi, cat, List.append_eq, List.append_assoc, List.cons_append, List.nil_append, List.append_nil]; omega) | (simp only [Zh, Zf, Zi, cat, List.append_eq, List.append_assoc, List.cons_append, List.nil_append, List.append_nil, PeerV.segs]; omega)), ?_⟩
                                          clear hw
                                          first | rfl | (simp; done)
                                      · first | replace hc16 := dT hc16 | replace hc16 := dF hc16 | replace hc16 := nT hc16 | replace hc16 := nF hc16 | skip
                                        try simp only [PeerV.eta] at hc16
                                        first
                                        | (exfalso; omega)
                                        | (exfalso; simp [eqX] at hc16; done)
                                        | contradiction
                                        | skip
                                          refine Zj rfl rfl rfl ?_; refine Zj rfl rfl rfl ?_; refine Zx rfl rfl rfl rfl rfl ?_; refine Zc rfl rfl rfl rfl ?_; refine Zg ?_; refine Ze ?_; refine Zl (.cons (k := 0) rfl .nil) ?_; refine Zam ?_
                                          refine Zal (.inr rfl) (.tmp rfl .nil) (fun w hw => ?_)
                                          refine ⟨_, _, rfl, (by first | exact Mem.le.refl _ | assumption | (repeat first | assumption | refine Mem.le.trans (by assumption) ?_)), hw.cnt (by intro zz; first | exact Nat.le_refl _ | (simp only [Zh, Zf, Zi, cat, List.append_eq, List.append_assoc, List.cons_append, List.nil_append, List.append_nil]; omega) | (simp only [Zh, Zf, Zi, cat, List.append_eq, List.append_assoc, List.cons_append, List.nil_append, List.append_nil, PeerV.segs]; omega)), ?_⟩
                                          clear hw
                                          first | rfl | (simp; done)
                                  · first | replace hc13 := dT hc13 | replace hc13 := dF hc13 | replace hc13 := nT hc13 | replace hc13 := nF hc13 | skip
                                    try simp only [PeerV.eta] at hc13
                                    first
                                    | (exfalso; omega)
                                    | (exfalso; simp [eqX] at hc13; done)
                                    | contradiction
                                    | skip
                                      refine Zj rfl rfl rfl ?_; refine Zj rfl rfl rfl ?_; refine Zj rfl rfl rfl ?_; refine Zx rfl rfl rfl rfl rfl ?_; refine Zd rfl rfl rfl rfl ?_; refine Zj rfl rfl rfl ?_; refine Zj rfl rfl rfl ?_; refine Zx rfl rfl rfl rfl rfl ?_; refine Zc rfl rfl rfl rfl ?_; refine Zg ?_; refine Ze ?_; refine Zl (.cons (k := 0) rfl .nil) ?_; refine Zam ?_
                                      refine Zal (.inr rfl) (.tmp rfl .nil) (fun w hw => ?_)
                                      refine ⟨_, _, rfl, (by first | exact Mem.le.refl _ | assumption | (repeat first | assumption | refine Mem.le.trans (by assumption) ?_)), hw.cnt (by intro zz; first | exact Nat.le_refl _ | (simp only [Zh, Zf, Zi, cat, List.append_eq, List.append_assoc, List.cons_append, List.nil_append, List.append_nil]; omega) | (simp only [Zh, Zf, Zi, cat, List.append_eq, List.append_assoc, List.cons_append, List.nil_append, List.append_nil, PeerV.segs]; omega)), ?_⟩
                                      clear hw
                                      first | rfl | (simp; done)
                              · first | replace hc12 := dT hc12 | replace hc12 := dF hc12 | replace hc12 := nT hc12 | replace hc12 := nF hc12 | skip
                                try simp only [PeerV.eta] at hc12
                                first
                                | (exfalso; omega)
                                | (exfalso; simp [eqX] at hc12; done)
                                | contradiction
                                | skip
                                  refine Zj rfl rfl rfl ?_; refine Zj rfl rfl rfl ?_; refine Zj rfl rfl rfl ?_; refine Zx rfl rfl rfl rfl rfl ?_; refine Zd rfl rfl rfl rfl ?_; refine Zj rfl rfl rfl ?_; refine Zj rfl rfl rfl ?_; refine Zj rfl rfl rfl ?_; refine Zx rfl rfl rfl rfl rfl ?_; refine Zd rfl rfl rfl rfl ?_; refine Zj rfl rfl rfl ?_; refine Zj rfl rfl rfl ?_; refine Zx rfl rfl rfl rfl rfl ?_; refine Zc rfl rfl rfl rfl ?_; refine Zg ?_; refine Ze ?_; refine Zl (.cons (k := 0) rfl .nil) ?_; refine Zam ?_
                                  refine Zal (.inr rfl) (.tmp rfl .nil) (fun w hw => ?_)
                                  refine ⟨_, _, rfl, (by first | exact Mem.le.refl _ | assumption | (repeat first | assumption | refine Mem.le.trans (by assumption) ?_)), hw.cnt (by intro zz; first | exact Nat.le_refl _ | (simp only [Zh, Zf, Zi, cat, List.append_eq, List.append_assoc, List.cons_append, List.nil_append, List.append_nil]; omega) | (simp only [Zh, Zf, Zi, cat, List.append_eq, List.append_assoc, List.cons_append, List.nil_append, List.append_nil, PeerV.segs]; omega)), ?_⟩
                                  clear hw
                                  first | rfl | (simp; done)
                          · first | replace hc11 := dT hc11 | replace hc11 := dF hc11 | replace hc11 := nT hc11 | replace hc11 := nF hc11 | skip
                            try simp only [PeerV.eta] at hc11
                            first
                            | (exfalso; omega)
                            | (exfalso; simp [eqX] at hc11; done)
                            | contradiction
                            | skip
                              refine Zj rfl rfl rfl ?_; refine Zj rfl rfl rfl ?_; refine Zx rfl rfl rfl rfl rfl ?_; refine Zd rfl rfl rfl rfl ?_; refine Zj rfl rfl rfl ?_; refine Zj rfl rfl rfl ?_; refine Zj rfl rfl rfl ?_; refine Zx rfl rfl rfl rfl rfl ?_; refine Zd rfl rfl rfl rfl ?_; refine Zj rfl rfl rfl ?_; refine Zj rfl rfl rfl ?_; refine Zj rfl rfl rfl ?_; refine Zx rfl rfl rfl rfl rfl ?_; refine Zd rfl rfl rfl rfl ?_; refine Zj rfl rfl rfl ?_; refine Zj rfl rfl rfl ?_; refine Zx rfl rfl rfl rfl rfl ?_; refine Zc rfl rfl rfl rfl ?_; refine Zg ?_; refine Ze ?_; refine Zl (.cons (k := 0) rfl .nil) ?_; refine Zam ?_
                              refine Zal (.inr rfl) (.tmp rfl .nil) (fun w hw => ?_)
                              refine ⟨_, _, rfl, (by first | exact Mem.le.refl _ | assumption | (repeat first | assumption | refine Mem.le.trans (by assumption) ?_)), hw.cnt (by intro zz; first | exact Nat.le_refl _ | (simp only [Zh, Zf, Zi, cat, List.append_eq, List.append_assoc, List.cons_append, List.nil_append, List.append_nil]; omega) | (simp only [Zh, Zf, Zi, cat, List.append_eq, List.append_assoc, List.cons_append, List.nil_append, List.append_nil, PeerV.segs]; omega)), ?_⟩
                              clear hw
                              first | rfl | (simp; done)
                      · first | replace hc10 := dT hc10 | replace hc10 := dF hc10 | replace hc10 := nT hc10 | replace hc10 := nF hc10 | skip
                        try simp only [PeerV.eta] at hc10
                        first
                        | (exfalso; omega)
                        | (exfalso; simp [eqX] at hc10; done)
                        | contradiction
                        | skip
                          refine Zj rfl rfl rfl ?_; refine Zj rfl rfl rfl ?_; refine Zj rfl rfl rfl ?_; refine Zx rfl rfl rfl rfl rfl ?_; refine Zd rfl rfl rfl rfl ?_; refine Zj rfl rfl rfl ?_; refine Zj rfl rfl rfl ?_; refine Zx rfl rfl rfl rfl rfl ?_; refine Zd rfl rfl rfl rfl ?_; refine Zj rfl rfl rfl ?_; refine Zj rfl rfl rfl ?_; refine Zj rfl rfl rfl ?_; refine Zx rfl rfl rfl rfl rfl ?_; refine Zd rfl rfl rfl rfl ?_; refine Zj rfl rfl rfl ?_; refine Zj rfl rfl rfl ?_; refine Zj rfl rfl rfl ?_; refine Zx rfl rfl rfl rfl rfl ?_; refine Zd rfl rfl rfl rfl ?_; refine Zj rfl rfl rfl ?_; refine Zj rfl rfl rfl ?_; refine Zx rfl rfl rfl rfl rfl ?_; refine Zc rfl rfl rfl rfl ?_; refine Zg ?_; refine Ze ?_; refine Zl (.cons (k := 0) rfl .nil) ?_; refine Zam ?_
                          refine Zal (.inr rfl) (.tmp rfl .nil) (fun w hw => ?_)
                          refine ⟨_, _, rfl, (by first | exact Mem.le.refl _ | assumption | (repeat first | assumption | refine Mem.le.trans (by assumption) ?_)), hw.cnt (by intro zz; first | exact Nat.le_refl _ | (simp only [Zh, Zf, Zi, cat, List.append_eq, List.append_assoc, List.cons_append, List.nil_append, List.append_nil]; omega) | (simp only [Zh, Zf, Zi, cat, List.append_eq, List.append_assoc, List.cons_append, List.nil_append, List.append_nil, PeerV.segs]; omega)), ?_⟩
                          clear hw
                          first | rfl | (simp; done)
                  · first | replace hc9 := dT hc9 | replace hc9 := dF hc9 | replace hc9 := nT hc9 | replace hc9 := nF hc9 | skip
                    try simp only [PeerV.eta] at hc9
                    first
                    | (exfalso; omega)
                    | (exfalso; simp [eqX] at hc9; done)
                    | contradiction
                    | skip
                      refine Zj rfl rfl rfl ?_; refine Zj rfl rfl rfl ?_; refine Zx rfl rfl rfl rfl rfl ?_; refine Zd rfl rfl rfl rfl ?_; refine Zj rfl rfl rfl ?_; refine Zj rfl rfl rfl ?_; refine Zj rfl rfl rfl ?_; refine Zx rfl rfl rfl rfl rfl ?_; refine Zd rfl rfl rfl rfl ?_; refine Zj rfl rfl rfl ?_; refine Zj rfl rfl rfl ?_; refine Zx rfl rfl rfl rfl rfl ?_; refine Zd rfl rfl rfl rfl ?_; refine Zj rfl rfl rfl ?_; refine Zj rfl rfl rfl ?_; refine Zj rfl rfl rfl ?_; refine Zx rfl rfl rfl rfl rfl ?_; refine Zd rfl rfl rfl rfl ?_; refine Zj rfl rfl rfl ?_; refine Zj rfl rfl rfl ?_; refine Zj rfl rfl rfl ?_; refine Zx rfl rfl rfl rfl rfl ?_; refine Zd rfl rfl rfl rfl ?_; refine Zj rfl rfl rfl ?_; refine Zj rfl rfl rfl ?_; refine Zx rfl rfl rfl rfl rfl ?_; refine Zc rfl rfl rfl rfl ?_
                      refine Zg ?_; refine Ze ?_; refine Zl (.cons (k := 0) rfl .nil) ?_; refine Zam ?_
                      refine Zal (.inr rfl) (.tmp rfl .nil) (fun w hw => ?_)
                      refine ⟨_, _, rfl, (by first | exact Mem.le.refl _ | assumption | (repeat first | assumption | refine Mem.le.trans (by assumption) ?_)), hw.cnt (by intro zz; first | exact Nat.le_refl _ | (simp only [Zh, Zf, Zi, cat, List.append_eq, List.append_assoc, List.cons_append, List.nil_append, List.append_nil]; omega) | (simp only [Zh, Zf, Zi, cat, List.append_eq, List.append_assoc, List.cons_append, List.nil_append, List.append_nil, PeerV.segs]; omega)), ?_⟩
                      clear hw
                      first | rfl | (simp; done)
              · first | replace hc8 := dT hc8 | replace hc8 := dF hc8 | replace hc8 := nT hc8 | replace hc8 := nF hc8 | skip
                try simp only [PeerV.eta] at hc8
                first
                | (exfalso; omega)
                | (exfalso; simp [eqX] at hc8; done)
                | contradiction
                | skip
                  refine Zj rfl rfl rfl ?_; refine Zj rfl rfl rfl ?_; refine Zj rfl rfl rfl ?_; refine Zx rfl rfl rfl rfl rfl ?_; refine Zd rfl rfl rfl rfl ?_; refine Zj rfl rfl rfl ?_; refine Zj rfl rfl rfl ?_; refine Zx rfl rfl rfl rfl rfl ?_; refine Zd rfl rfl rfl rfl ?_; refine Zj rfl rfl rfl ?_; refine Zj rfl rfl rfl ?_; refine Zj rfl rfl rfl ?_; refine Zx rfl rfl rfl rfl rfl ?_; refine Zd rfl rfl rfl rfl ?_; refine Zj rfl rfl rfl ?_; refine Zj rfl rfl rfl ?_; refine Zx rfl rfl rfl rfl rfl ?_; refine Zd rfl rfl rfl rfl ?_; refine Zj rfl rfl rfl ?_; refine Zj rfl rfl rfl ?_; refine Zj rfl rfl rfl ?_; refine Zx rfl rfl rfl rfl rfl ?_; refine Zd rfl rfl rfl rfl ?_; refine Zj rfl rfl rfl ?_; refine Zj rfl rfl rfl ?_; refine Zj rfl rfl rfl ?_; refine Zx rfl rfl rfl rfl rfl ?_; refine Zd rfl rfl rfl rfl ?_
                  refine Zj rfl rfl rfl ?_; refine Zj rfl rfl rfl ?_; refine Zx rfl rfl rfl rfl rfl ?_; refine Zc rfl rfl rfl rfl ?_; refine Zg ?_; refine Ze ?_; refine Zl (.cons (k := 0) rfl .nil) ?_; refine Zam ?_
                  refine Zal (.inr rfl) (.tmp rfl .nil) (fun w hw => ?_)
                  refine ⟨_, _, rfl, (by first | exact Mem.le.refl _ | assumption | (repeat first | assumption | refine Mem.le.trans (by assumption) ?_)), hw.cnt (by intro zz; first | exact Nat.le_refl _ | (simp only [Zh, Zf, Zi, cat, List.append_eq, List.append_assoc, List.cons_append, List.nil_append, List.append_nil]; omega) | (simp only [Zh, Zf, Zi, cat, List.append_eq, List.append_assoc, List.cons_append, List.nil_append, List.append_nil, PeerV.segs]; omega)), ?_⟩
                  clear hw
                  first | rfl | (simp; done)
          · first | replace hc7 := dT hc7 | replace hc7 := dF hc7 | replace hc7 := nT hc7 | replace hc7 := nF hc7 | skip
            try simp only [PeerV.eta] at hc7
            first
            | (exfalso; omega)
            | (exfalso; simp [eqX] at hc7; done)
            | contradiction
            | skip
              refine Zj rfl rfl rfl ?_; refine Zj rfl rfl rfl ?_; refine Zx rfl rfl rfl rfl rfl ?_; refine Zd rfl rfl rfl rfl ?_; refine Zj rfl rfl rfl ?_; refine Zj rfl rfl rfl ?_; refine Zj rfl rfl rfl ?_; refine Zx rfl rfl rfl rfl rfl ?_; refine Zd rfl rfl rfl rfl ?_; refine Zj rfl rfl rfl ?_; refine Zj rfl rfl rfl ?_; refine Zx rfl rfl rfl rfl rfl ?_; refine Zd rfl rfl rfl rfl ?_; refine Zj rfl rfl rfl ?_; refine Zj rfl rfl rfl ?_; refine Zj rfl rfl rfl ?_; refine Zx rfl rfl rfl rfl rfl ?_; refine Zd rfl rfl rfl rfl ?_; refine Zj rfl rfl rfl ?_; refine Zj rfl rfl rfl ?_; refine Zx rfl rfl rfl rfl rfl ?_; refine Zd rfl rfl rfl rfl ?_; refine Zj rfl rfl rfl ?_; refine Zj rfl rfl rfl ?_; refine Zj rfl rfl rfl ?_; refine Zx rfl rfl rfl rfl rfl ?_; refine Zd rfl rfl rfl rfl ?_; refine Zj rfl rfl rfl ?_
              refine Zj rfl rfl rfl ?_; refine Zj rfl rfl rfl ?_; refine Zx rfl rfl rfl rfl rfl ?_; refine Zd rfl rfl rfl rfl ?_; refine Zj rfl rfl rfl ?_; refine Zj rfl rfl rfl ?_; refine Zx rfl rfl rfl rfl rfl ?_; refine Zc rfl rfl rfl rfl ?_; refine Zg ?_; refine Ze ?_; refine Zl (.cons (k := 0) rfl .nil) ?_; refine Zam ?_
              refine Zal (.inr rfl) (.tmp rfl .nil) (fun w hw => ?_)
              refine ⟨_, _, rfl, (by first | exact Mem.le.refl _ | assumption | (repeat first | assumption | refine Mem.le.trans (by assumption) ?_)), hw.cnt (by intro zz; first | exact Nat.le_refl _ | (simp only [Zh, Zf, Zi, cat, List.append_eq, List.append_assoc, List.cons_append, List.nil_append, List.append_nil]; omega) | (simp only [Zh, Zf, Zi, cat, List.append_eq, List.append_assoc, List.cons_append, List.nil_append, List.append_nil, PeerV.segs]; omega)), ?_⟩
              clear hw
              first | rfl | (simp; done)
      · first | replace hc6 := dT hc6 | replace hc6 := dF hc6 | replace hc6 := nT hc6 | replace hc6 := nF hc6 | skip
        try simp only [PeerV.eta] at hc6
        first
        | (exfalso; omega)
        | (exfalso; simp [eqX] at hc6; done)
        | contradiction
        | skip
          refine Zj rfl rfl rfl ?_; refine Zj rfl rfl rfl ?_; refine Zx rfl rfl rfl rfl rfl ?_; refine Zd rfl rfl rfl rfl ?_; refine Zj rfl rfl rfl ?_; refine Zj rfl rfl rfl ?_; refine Zx rfl rfl rfl rfl rfl ?_; refine Zd rfl rfl rfl rfl ?_; refine Zj rfl rfl rfl ?_; refine Zj rfl rfl rfl ?_; refine Zj rfl rfl rfl ?_; refine Zx rfl rfl rfl rfl rfl ?_; refine Zd rfl rfl rfl rfl ?_; refine Zj rfl rfl rfl ?_; refine Zj rfl rfl rfl ?_; refine Zx rfl rfl rfl rfl rfl ?_; refine Zd rfl rfl rfl rfl ?_; refine Zj rfl rfl rfl ?_; refine Zj rfl rfl rfl ?_; refine Zj rfl rfl rfl ?_; refine Zx rfl rfl rfl rfl rfl ?_; refine Zd rfl rfl rfl rfl ?_; refine Zj rfl rfl rfl ?_; refine Zj rfl rfl rfl ?_; refine Zx rfl rfl rfl rfl rfl ?_; refine Zd rfl rfl rfl rfl ?_; refine Zj rfl rfl rfl ?_; refine Zj rfl rfl rfl ?_
          refine Zj rfl rfl rfl ?_; refine Zx rfl rfl rfl rfl rfl ?_; refine Zd rfl rfl rfl rfl ?_; refine Zj rfl rfl rfl ?_; refine Zj rfl rfl rfl ?_; refine Zj rfl rfl rfl ?_; refine Zx rfl rfl rfl rfl rfl ?_; refine Zd rfl rfl rfl rfl ?_; refine Zj rfl rfl rfl ?_; refine Zj rfl rfl rfl ?_; refine Zx rfl rfl rfl rfl rfl ?_; refine Zc rfl rfl rfl rfl ?_; refine Zg ?_; refine Ze ?_; refine Zl (.cons (k := 0) rfl .nil) ?_; refine Zam ?_
          refine Zal (.inr rfl) (.tmp rfl .nil) (fun w hw => ?_)
          refine ⟨_, _, rfl, (by first | exact Mem.le.refl _ | assumption | (repeat first | assumption | refine Mem.le.trans (by assumption) ?_)), hw.cnt (by intro zz; first | exact Nat.le_refl _ | (simp only [Zh, Zf, Zi, cat, List.append_eq, List.append_assoc, List.cons_append, List.nil_append, List.append_nil]; omega) | (simp only [Zh, Zf, Zi, cat, List.append_eq, List.append_assoc, List.cons_append, List.nil_append, List.append_nil, PeerV.segs]; omega)), ?_⟩
          clear hw
          first | rfl | (simp; done)
  · first | replace hc5 := dT hc5 | replace hc5 := dF hc5 | replace hc5 := nT hc5 | replace hc5 := nF hc5 | skip
    try simp only [PeerV.eta] at hc5
    first
    | (exfalso; omega)
    | (exfalso; simp [eqX] at hc5; done)
    | contradiction
    | skip
      refine Zj rfl rfl rfl ?_; refine Zj rfl rfl rfl ?_; refine Zx rfl rfl rfl rfl rfl ?_; refine Zd rfl rfl rfl rfl ?_; refine Zj rfl rfl rfl ?_; refine Zj rfl rfl rfl ?_; refine Zx rfl rfl rfl rfl rfl ?_; refine Zd rfl rfl rfl rfl ?_; refine Zj rfl rfl rfl ?_; refine Zj rfl rfl rfl ?_; refine Zx rfl rfl rfl rfl rfl ?_; refine Zd rfl rfl rfl rfl ?_; refine Zj rfl rfl rfl ?_; refine Zj rfl rfl rfl ?_; refine Zj rfl rfl rfl ?_; refine Zx rfl rfl rfl rfl rfl ?_; refine Zd rfl rfl rfl rfl ?_; refine Zj rfl rfl rfl ?_; refine Zj rfl rfl rfl ?_; refine Zx rfl rfl rfl rfl rfl ?_; refine Zd rfl rfl rfl rfl ?_; refine Zj rfl rfl rfl ?_; refine Zj rfl rfl rfl ?_; refine Zj rfl rfl rfl ?_; refine Zx rfl rfl rfl rfl rfl ?_; refine Zd rfl rfl rfl rfl ?_; refine Zj rfl rfl rfl ?_; refine Zj rfl rfl rfl ?_
      refine Zx rfl rfl rfl rfl rfl ?_; refine Zd rfl rfl rfl rfl ?_; refine Zj rfl rfl rfl ?_; refine Zj rfl rfl rfl ?_; refine Zj rfl rfl rfl ?_; refine Zx rfl rfl rfl rfl rfl ?_; refine Zd rfl rfl rfl rfl ?_; refine Zj rfl rfl rfl ?_; refine Zj rfl rfl rfl ?_; refine Zj rfl rfl rfl ?_; refine Zx rfl rfl rfl rfl rfl ?_; refine Zd rfl rfl rfl rfl ?_; refine Zj rfl rfl rfl ?_; refine Zj rfl rfl rfl ?_; refine Zx rfl rfl rfl rfl rfl ?_; refine Zc rfl rfl rfl rfl ?_; refine Zg ?_; refine Ze ?_; refine Zl (.cons (k := 0) rfl .nil) ?_; refine Zam ?_
      refine Zal (.inr rfl) (.tmp rfl .nil) (fun w hw => ?_)
      refine ⟨_, _, rfl, (by first | exact Mem.le.refl _ | assumption | (repeat first | assumption | refine Mem.le.trans (by assumption) ?_)), hw.cnt (by intro zz; first | exact Nat.le_refl _ | (simp only [Zh, Zf, Zi, cat, List.append_eq, List.append_assoc, List.cons_append, List.nil_append, List.append_nil]; omega) | (simp only [Zh, Zf, Zi, cat, List.append_eq, List.append_assoc, List.cons_append, List.nil_append, List.append_nil, PeerV.segs]; omega)), ?_⟩
      clear hw
      first | rfl | (simp; done)
end Go.Proofs.YtpfdblknaihidaaDoor
namespace Go.Esp
theorem rotl_sum {x k : Nat} (hx : x < 4294967296) (hk : k ≤ 31) : rotl x k = x % 2 ^ (32 - k) * 2 ^ k + x / 2 ^ (32 - k) := by
  rw [← rotl_is hx (by omega)]
  have e1 : x * 2 ^ k % 4294967296 = x % 2 ^ (32 - k) * 2 ^ k := by
    rw [show (4294967296 : Nat) = 2 ^ (32 - k) * 2 ^ k by rw [← Nat.pow_add, show 32 - k + k = 32 by omega]]
    exact Nat.mul_mod_mul_right _ _ _
  have h2 : x / 2 ^ (32 - k) < 2 ^ k := by
    rw [Nat.div_lt_iff_lt_mul (Nat.two_pow_pos _), ← Nat.pow_add, show k + (32 - k) = 32 by omega]
    exact hx
  rw [e1, ← Nat.shiftLeft_eq, ← Nat.shiftLeft_add_eq_or_of_lt h2]
theorem rotl_succ {x k : Nat} (hx : x < 4294967296) (hk : k < 31) : (rotl x k * 2 ^ 1 % 4294967296) ||| (rotl x k / 2 ^ 31) = rotl x (k + 1) := by
  rw [rotl_is (rotl_lt _ _) (n := 1) (by omega), rotl_sum (rotl_lt _ _) (by omega), rotl_sum hx (by omega), rotl_sum hx (by omega)]
  have : k = 0 ∨ k = 1 ∨ k = 2 ∨ k = 3 ∨ k = 4 ∨ k = 5 ∨ k = 6 ∨ k = 7 ∨ k = 8 ∨ k = 9 ∨ k = 10 ∨ k = 11 ∨ k = 12 ∨ k = 13 ∨ k = 14 ∨ k = 15 ∨ k = 16 ∨ k = 17 ∨ k = 18 ∨ k = 19 ∨ k = 20 ∨ k = 21 ∨ k = 22 ∨ k = 23 ∨ k = 24 ∨ k = 25 ∨ k = 26 ∨ k = 27 ∨ k = 28 ∨ k = 29 ∨ k = 30 := by omega
  rcases this with h | h | h | h | h | h | h | h | h | h | h | h | h | h | h | h | h | h | h | h | h | h | h | h | h | h | h | h | h | h | h <;> subst h <;> simp only [Nat.reduceSub, Nat.reduceAdd, Nat.reducePow] <;> omega
theorem rotl_zero {x : Nat} (hx : x < 4294967296) : rotl x 0 = x := by
  rw [rotl_sum hx (by omega)]
  simp only [Nat.reduceSub, Nat.reducePow]
  omega
def fillV (x : Plc) (i q : Nat) : Vector Value 20 := Vector.ofFn fun j : Fin 20 => if j.val / 4 < i ∨ j.val / 4 = i ∧ 4 ≤ j.val % 4 + q then .int .u8 (idB x j.val) else .int .u8 0
theorem fillV_get (x : Plc) (i q : Nat) {j : Nat} (h : j < 20) : (fillV x i q)[j] = if j / 4 < i ∨ j / 4 = i ∧ 4 ≤ j % 4 + q then .int .u8 (idB x j) else .int .u8 0 := by
  unfold fillV; rw [Vector.getElem_ofFn]
theorem fillV_none (x : Plc) : fillV x 0 0 = idV 0 := by
  apply Vector.ext; intro j hj
  rw [fillV_get x 0 0 hj, if_neg (by omega), Zcc _ hj]; simp [idB]
theorem fillV_all (x : Plc) : fillV x 5 0 = idV x := by
  apply Vector.ext; intro j hj
  rw [fillV_get x 5 0 hj, if_pos (by omega), Zcc _ hj]
theorem fillV_word (x : Plc) (i : Nat) : fillV x i 4 = fillV x (i + 1) 0 := by
  apply Vector.ext; intro j hj
  rw [fillV_get x i 4 hj, fillV_get x (i + 1) 0 hj]
  by_cases h : j / 4 < i + 1
  · rw [if_pos (by omega), if_pos (by omega)]
  · rw [if_neg (by omega), if_neg (by omega)]
theorem fillV_step (x : Plc) {i q : Nat} (h : i < 5) (hq : q < 4) {v : Int} (hv : v = (idB x (4 * i + (3 - q)) : Nat)) : (fillV x i q).set (4 * i + (3 - q)) (.int .u8 v) = fillV x i (q + 1) := by
  subst hv
  apply Vector.ext; intro j hj
  rw [fillV_get x i (q + 1) hj]
  by_cases e : j = 4 * i + (3 - q)
  · subst e
    rw [Vector.getElem_set_self, if_pos (by omega)]
  · rw [Vector.getElem_set_ne _ _ (Ne.symm e), fillV_get x i q hj]
    by_cases h1 : j / 4 < i ∨ j / 4 = i ∧ 4 ≤ j % 4 + q
    · rw [if_pos h1, if_pos (by omega)]
    · rw [if_neg h1, if_neg (by omega)]
theorem byte_div {g : St5} (hg : g.ok) {i q : Nat} (h : i < 5) (hq : q < 4) : idB (stPlc g) (4 * i + (3 - q)) = g.nth i / 256 ^ q % 256 := by
  rw [stPlc_at hg (by omega), show (4 * i + (3 - q)) / 4 = i by omega, show 24 - 8 * ((4 * i + (3 - q)) % 4) = 8 * q by omega, Nat.pow_mul]
theorem u8_tmod (n : Nat) : w8 (((n : Nat) : Int).tmod 256) = ((n % 256 : Nat) : Int) := by
  rw [Int.tmod_eq_emod_of_nonneg (by omega)]
  unfold w8; omega
theorem u32_tdiv {n : Nat} (h : n < 4294967296) : IntKind.u32.wrap (((n : Nat) : Int).tdiv 256) = ((n / 256 : Nat) : Int) := by
  rw [Int.tdiv_eq_ediv_of_nonneg (by omega), Zq]
  unfold w32; omega
open Go.Lib Go.Proofs
def FL (n : Nat) : Nat := (119 - n % 64) % 64
def Added (s q : ByteArray) (j : Nat) : Prop := natsOf q = natsOf s ++ 128 :: List.replicate j 0
theorem Added.start (s : ByteArray) : Added s (s ++ ⟨#[128]⟩) 0 := by unfold Added; rw [natsOf_app]; rfl
theorem Added.size {s q : ByteArray} {j : Nat} (h : Added s q j) : q.size = s.size + 1 + j := by
  have := congrArg List.length h
  rw [Zas, List.length_append, Zas, List.length_cons, List.length_replicate] at this
  omega
theorem Added.more {s q : ByteArray} {j : Nat} (h : Added s q j) : Added s (q ++ ⟨#[0]⟩) (j + 1) := by
  unfold Added at h ⊢
  rw [natsOf_app, h, List.replicate_succ', List.append_assoc, List.cons_append]; rfl
theorem FL_lt (n : Nat) : FL n < 64 := Nat.mod_lt _ (by decide)
theorem FL_done {n j : Nat} (h : j ≤ FL n) (he : (n + 1 + j) % 64 = 56) : j = FL n := by unfold FL at *; omega
theorem FL_more {n j : Nat} (h : j ≤ FL n) (he : (n + 1 + j) % 64 ≠ 56) : j + 1 ≤ FL n := by unfold FL at *; omega
def TailOf (n i : Nat) (q : ByteArray) : Prop := natsOf q = (tailN n).drop (8 - i)
theorem TailOf.none (n : Nat) : TailOf n 0 ⟨#[]⟩ := rfl
theorem TailOf.size {n i : Nat} {q : ByteArray} (h : TailOf n i q) (hi : i ≤ 8) : q.size = i := by
  have := congrArg List.length h
  rw [Zas, List.length_drop] at this
  rw [this]; show 8 - (8 - i) = i; omega
theorem TailOf.more {n i : Nat} {q : ByteArray} (h : TailOf n i q) (hi : i < 8) : TailOf n (i + 1) (strOfNums ([n / 256 ^ i % 256].map fun n : Nat => (n : Int)) ++ q) := by
  unfold TailOf at *
  rw [natsOf_app, natsOf_str (fun m hm => by simp only [List.mem_singleton] at hm; subst hm; exact Nat.mod_lt _ (by decide)), h]
  match i, hi with
  | 0, _ => rfl
  | 1, _ => rfl
  | 2, _ => rfl
  | 3, _ => rfl
  | 4, _ => rfl
  | 5, _ => rfl
  | 6, _ => rfl
  | 7, _ => rfl
theorem padR_is {s q t : ByteArray} (h : Added s q (FL s.size)) (ht : TailOf (8 * s.size) 8 t) : natsOf (q ++ t) = padN (natsOf s) := by
  unfold Added at h; unfold TailOf at ht
  rw [natsOf_app, h, ht]
  unfold padN
  rw [Zas, List.append_assoc]
  rfl
theorem div_pow (n i : Nat) : n / 256 ^ i / 256 = n / 256 ^ (i + 1) := by rw [Nat.div_div_eq_div_mul, ← Nat.pow_succ]
def SumAt (s p : ByteArray) (k : Nat) (g : St5) : Prop := g.ok ∧ blocksN ((natsOf s).length / 64 + 2 - k) ((natsOf p).drop (64 * k)) g = blocksN ((natsOf s).length / 64 + 2) (padN (natsOf s)) start5
theorem SumAt.start {s p : ByteArray} (hp : natsOf p = padN (natsOf s)) : SumAt s p 0 start5 := ⟨start5_ok, by rw [hp]; rfl⟩
theorem SumAt.more {s p : ByteArray} {k m : Nat} {g : St5} (h : SumAt s p k g) (hp : p.size = 64 * m) (hk : k < m) (hm : m ≤ (natsOf s).length / 64 + 2) : SumAt s p (k + 1) (stepN g (natsOf (p.extract (64 * k) (64 * k + 64)))) := by
  refine ⟨stepN_ok, ?_⟩
  rw [← h.2, show (natsOf s).length / 64 + 2 - k = ((natsOf s).length / 64 + 2 - (k + 1)) + 1 by omega, blocksN_step (by intro h9; have := congrArg List.length h9; rw [List.length_drop, Zas, List.length_nil] at this; omega), natsOf_ext, List.drop_drop]
  rw [show 64 * (k + 1) = 64 * k + 64 by omega, show 64 * k + 64 - 64 * k = 64 by omega]
theorem SumAt.done {s p : ByteArray} {m : Nat} {g : St5} (h : SumAt s p m g) (hp : p.size = 64 * m) : stPlc g = sumP (natsOf s) := by
  have h2 := h.2
  rw [List.drop_of_length_le (by rw [Zas]; omega), blocksN_nil] at h2
  unfold sumP; rw [← h2]
end Go.Esp
namespace Go.Esp
section
variable {P : Program} {ops : Array Oper} {Q : Exit → Act → World → Prop} {M M' : Mem} {H H' H0 : Hp} {e : Env}
theorem C_regionW {m : Nat} {ds : List Deferred} {ro : Option Nat} {id : Nat} {l : List Nat} (ws : List Nat) (hl : List.range ops.size = l) (h : XD P ⟨m, ds, ro, ws⟩ ops Q l (St M H) ⟨M, H⟩ e) : C P ⟨m, ds, ro, []⟩ (.region id ops false) Q (St M H) e :=
  fun a w ha hw => wpIn_region (wpOps_of_WD _ (St M H) ⟨M, H⟩ a w (fun _ h => h) hw (hl ▸ h (fun _ h => h) a ⟨ha.size, ha.defers, ha.slot⟩))
end
end Go.Esp
namespace Go.Esp
section
variable {P : Program} {n : Sh} {ops : Array Oper} {Q : Exit → Act → World → Prop} {rest : List Nat} {M M' : Mem} {H H' H0 : Hp} {e : Env} {J S : World → Prop} {A : As} {i : Nat}
  {dst : Option Tmp} {d : Tmp} {op : Op} {ty : TypeId} {pos : String} {af : Array Edge} {gd : Option (Nat × Bool)}
theorem X_index_str {t k : Nat} {x ix : Operand} {q : IntKind} {z : Int} {s : ByteArray} {v : Value} (hi : ops[i]? = some ⟨some d, .index t x ix, ty, pos, af, gd⟩) (hg : want ops e gd = some true)
    (hx : ev e x = some (.string s)) (hix : ev e ix = some (.int q z)) (ht : P.underlying t = some .string) (hz : z = (k : Int)) (hk : k < s.size) (hv : Value.int .u8 (((natsOf s).getD k 0 : Nat) : Int) = v) (hd : Nat.ble (d + 1) n.sz = true)
    (hK : XD P n ops Q rest J A ((d, v) :: e)) : XD P n ops Q (i :: rest) J A e :=
  Zbq hi rfl hg (fun a' w hA => Zaw (by
    subst hz hv
    simp only [execOp, hA.ev hx, hA.ev hix]
    refine Zbr ?_
    rw [run_index_string w t s q (k : Int) ht, dif_pos ⟨by omega, by omega⟩]
    have e1 : (natsOf s).getD k 0 = (s[k]'hk).toNat := by
      unfold natsOf
      rw [List.getD_eq_getElem?_getD, List.getElem?_map, List.getElem?_eq_getElem (by rw [Array.length_toList]; exact hk)]
      simp only [Option.map_some, Option.getD_some, Array.getElem_toList]
      rfl
    rw [e1]
    rfl)) (fun a ha => ha.put hd _) hK
theorem X_convSA {src dst' E by_ : Nat} {x : Operand} {u : Value} {l : List Nat} {s : ByteArray} (hi : ops[i]? = some ⟨some d, .convert src dst' x, ty, pos, af, gd⟩) (hws : n.wrs.contains i = true) (hg : want ops e gd = some true)
    (hx : ev e x = some u) (hsrc : Src M H 1 u (l.map u8R)) (ht : slOf P src = some (E, 1, by_)) (he : P.underlying E = some (.int .u8)) (hd' : P.underlying dst' = some .string) (hs : strOfNums (l.map fun n : Nat => (n : Int)) = s) (hd : Nat.ble (d + 1) n.sz = true)
    (hk : XD P n ops Q rest J ⟨M, H⟩ ((d, .string s) :: e)) : XD P n ops Q (i :: rest) J ⟨M, H⟩ e := by
  obtain ⟨it, hun, hit, hsz, rfl⟩ := elemOf_spec ht
  have hcl : clOf P (.convert src dst' x) = .read := by simp [clOf, hun, hd']
  obtain ⟨hln, h1, ad, c2, rfl, hsr⟩ := hsrc
  refine X_readA hi hcl hws hg (fun a w ha hw => Zaw ?_) (fun a ha => ha.put hd _) hk
  have hload := run_loadCells_list (P := P) w ad (rowsCells (l.map u8R)) (fun j v hj => hsr w hw j v hj)
  rw [u8_cells, List.length_map, List.length_map] at hload
  have hr : (convert src dst' (.slice (some ad) (l.map u8R).length c2)).run P w = .ok (.string s) w := by
    rw [run_convert_bytes_string w src dst' E _ _ c2 hun he hd', List.length_map, run_bytesToString w ad l.length c2 _ hload, foldl_push_bytes, ← hs]
    simp [strOfNums, ByteArray.empty, ByteArray.emptyWithCapacity]
    first | done | rfl
  simp only [execOp, ha.ev hx]
  exact Zbr hr
end
end Go.Esp
namespace Go.Proofs.YtpfdblknaihidaaDoor
open Go.Esp
theorem rLeft_ok (M : Mem) (x : Nat) (n : Nat) (hv : x < 4294967296) (hn : n < 31) : Fs Tryd.prog 80 [.int .u32 ((x : Nat) : Int), .int .i64 (n : Int)] M (fun v => v = Value.int .u32 (((rotl x n : Nat) : Int))) := by
  refine Zbd Tryd.func80 rfl Tryd.ntmps80 rfl ?_; intro H
  refine Zk ?_; refine Za (l := [0]) rfl ?_; refine Zc rfl rfl rfl rfl ?_; refine Zg ?_; refine Ze ?_; refine Zk ?_; refine Zk ?_; refine Za (l := [0]) rfl ?_; refine Zc rfl rfl rfl rfl ?_; refine Zg ?_; refine Ze ?_; refine Zad ?_; refine Zl (.cons (k := 5) rfl (.cons (k := 0) rfl (.cons (k := 4) rfl (.cons (k := 1) rfl .nil)))) ?_; refine Zbz (.succ (.succ .zero)) (fun (k : Nat) z => z = [(5, .int .i64 (k : Int)), (0, .int .u32 ((rotl x k : Nat) : Int))] ∧ k ≤ n) (fun k => n - k) (0) (⟨by rw [rotl_zero hv]; rfl, by omega⟩) ?_
  rintro k _ ⟨rfl, hk⟩
  have hr9 := rotl_lt x k
  refine Zk ?_; refine Zk ?_; refine Za (l := [0, 1, 2]) rfl ?_; refine Zd rfl rfl rfl rfl ?_; refine Zd rfl rfl rfl rfl ?_; refine Zaq rfl rfl rfl rfl rfl rfl ?_; refine Zg ?_; refine Ze ?_
  refine Zai rfl (fun hc1 => ?_) (fun hc1 => ?_)
  · first | replace hc1 := dT hc1 | replace hc1 := dF hc1 | replace hc1 := nT hc1 | replace hc1 := nF hc1 | skip
    try simp only [PeerV.eta] at hc1
    first
    | (exfalso; omega)
    | (exfalso; simp [eqX] at hc1; done)
    | contradiction
    | skip
      refine Zah ?_; refine Ze ?_; refine Zk ?_; refine Zad ?_; refine Za (l := [0, 1, 2, 3, 4, 5]) rfl ?_; refine Zd rfl rfl rfl rfl ?_; refine X_shift rfl rfl rfl rfl (by omega) (shl32 (n := 1) (by omega)) rfl rfl ?_; refine Zd rfl rfl rfl rfl ?_; refine X_shift rfl rfl rfl rfl (by omega) (shr32 (n := 31) (by omega)) rfl rfl ?_; refine Zbn rfl rfl rfl rfl (or32 (Nat.mod_lt _ (by decide)) (Nat.lt_of_le_of_lt (Nat.div_le_self _ _) hr9)) rfl rfl ?_
      rw [rotl_succ hv (by omega)]
      refine Zc rfl rfl rfl rfl ?_; refine Zg ?_; refine Zbs ?_; refine Ze ?_; refine Za (l := [0, 1, 2]) rfl ?_; refine Zd rfl rfl rfl rfl ?_; refine Zav rfl rfl rfl rfl rfl (by first | exact Zaa (by decide) (by omega) | exact Zm (by decide) (by omega) | exact Zo (by decide) (by omega) | exact Zn (by decide) (by omega) | exact Zt _ | exact Zz _ | exact Zq _ | exact rfl) rfl ?_; refine Zc rfl rfl rfl rfl ?_; refine Zg ?_; refine Zbp (a' := [(5, _), (0, _)]) (k + 1) (.cons (k := 5) rfl (.cons (k := 0) rfl (.cons (k := 4) rfl (.cons (k := 1) rfl (.nil))))) (fun w hw => by first | exact hw | exact hw.cnt (by intro zz; first | exact Nat.le_refl _ | (simp only [Zh, Zf, Zi, cat, List.append_eq, List.append_assoc, List.cons_append, List.nil_append, List.append_nil]; omega) | (simp only [Zh, Zf, Zi, cat, List.append_eq, List.append_assoc, List.cons_append, List.nil_append, List.append_nil, PeerV.segs]; omega))) ?_ ?_
      · exact ⟨rfl, by omega⟩
      · omega
  · first | replace hc1 := dT hc1 | replace hc1 := dF hc1 | replace hc1 := nT hc1 | replace hc1 := nF hc1 | skip
    try simp only [PeerV.eta] at hc1
    first
    | (exfalso; omega)
    | (exfalso; simp [eqX] at hc1; done)
    | contradiction
    | skip
      refine Zbl ?_; refine Zao ?_; refine Zao ?_; refine Zbx ?_; refine Ze ?_; refine Zl (.cons (k := 0) rfl (.cons (k := 4) rfl .nil)) ?_; refine Zk ?_; refine Za (l := [0, 1]) rfl ?_; refine Zd rfl rfl rfl rfl ?_; refine Zc rfl rfl rfl rfl ?_; refine Zg ?_; refine Ze ?_; refine Zl (.cons (k := 4) rfl .nil) ?_; refine Zam ?_
      refine Zal (.inr rfl) (.tmp rfl .nil) (fun w hw => ?_)
      refine ⟨_, rfl, (hw.cnt (by intro zz; first | exact Nat.le_refl _ | (simp only [Zh, Zf, Zi, cat, List.append_eq, List.append_assoc, List.cons_append, List.nil_append, List.append_nil]; omega) | (simp only [Zh, Zf, Zi, cat, List.append_eq, List.append_assoc, List.cons_append, List.nil_append, List.append_nil, PeerV.segs]; omega))), ?_⟩
      clear hw
      obtain rfl : k = n := by omega
      rfl
theorem rmixed_ok (M : Mem) (t b c d : Nat) (ht : t < 80) (hb : b < 4294967296) (hc : c < 4294967296) (hd : d < 4294967296) : Fs Tryd.prog 79 [.int .i64 (t : Int), .int .u32 ((b : Nat) : Int), .int .u32 ((c : Nat) : Int), .int .u32 ((d : Nat) : Int)] M (fun v => v = .tuple #[.int .u32 ((mixN t b c d : Nat) : Int), .int .u32 ((addN t : Nat) : Int)]) := by
  refine Zbd Tryd.func79 rfl Tryd.ntmps79 rfl ?_; intro H
  refine Zk ?_; refine Za (l := [0, 1]) rfl ?_; refine Zc rfl rfl rfl rfl ?_; refine Zc rfl rfl rfl rfl ?_; refine Zg ?_; refine Ze ?_; refine Zk ?_; refine Zk ?_; refine Za (l := [0, 1]) rfl ?_; refine Zd rfl rfl rfl rfl ?_; refine Zaq rfl rfl rfl rfl rfl rfl ?_; refine Zg ?_; refine Ze ?_; refine Zl (.cons (k := 11) rfl (.cons (k := 9) rfl (.cons (k := 8) rfl (.cons (k := 0) rfl (.cons (k := 1) rfl (.cons (k := 2) rfl (.cons (k := 3) rfl .nil))))))) ?_
  refine Zai rfl (fun hc1 => ?_) (fun hc1 => ?_)
  · first | replace hc1 := dT hc1 | replace hc1 := dF hc1 | replace hc1 := nT hc1 | replace hc1 := nF hc1 | skip
    try simp only [PeerV.eta] at hc1
    first
    | (exfalso; omega)
    | (exfalso; simp [eqX] at hc1; done)
    | contradiction
    | skip
      refine Zk ?_; refine Za (l := [0, 1, 2, 3, 4, 5, 6, 7, 8, 9]) rfl ?_; refine Zd rfl rfl rfl rfl ?_; refine Zd rfl rfl rfl rfl ?_; refine Zbn rfl rfl rfl rfl (and32 hb hc) rfl rfl ?_; refine Zd rfl rfl rfl rfl ?_; refine Zbn rfl rfl rfl rfl (xor32 (a := 4294967295) (by decide) hb) rfl rfl ?_; refine Zd rfl rfl rfl rfl ?_; refine Zbn rfl rfl rfl rfl (and32 (Zcb (by decide) hb) hd) rfl rfl ?_; refine Zbn rfl rfl rfl rfl (or32 (Zce hc) (Zce hd)) rfl rfl ?_; refine Zc rfl rfl rfl rfl ?_; refine Zc rfl rfl rfl rfl ?_; refine Zg ?_; refine Ze ?_; refine Zl (.cons (k := 9) rfl (.cons (k := 8) rfl (.cons (k := 0) rfl (.cons (k := 1) rfl (.cons (k := 2) rfl (.cons (k := 3) rfl .nil)))))) ?_; refine Zam ?_; refine Zar ?_
      refine Zal (.inr rfl) (.tmp rfl (.tmp rfl .nil)) (fun w hw => ?_)
      refine ⟨_, rfl, hw.cnt (by intro zz; first | exact Nat.le_refl _ | (simp only [Zh, Zf, Zi, cat, List.append_eq, List.append_assoc, List.cons_append, List.nil_append, List.append_nil]; omega) | (simp only [Zh, Zf, Zi, cat, List.append_eq, List.append_assoc, List.cons_append, List.nil_append, List.append_nil, PeerV.segs]; omega)), ?_⟩
      clear hw
      unfold mixN addN
      simp only [if_pos (show t < 20 by omega)]
      try rfl
  · first | replace hc1 := dT hc1 | replace hc1 := dF hc1 | replace hc1 := nT hc1 | replace hc1 := nF hc1 | skip
    try simp only [PeerV.eta] at hc1
    first
    | (exfalso; omega)
    | (exfalso; simp [eqX] at hc1; done)
    | contradiction
    | skip
      refine Zah ?_; refine Ze ?_; refine Zl (.cons (k := 9) rfl (.cons (k := 8) rfl (.cons (k := 0) rfl (.cons (k := 1) rfl (.cons (k := 2) rfl (.cons (k := 3) rfl .nil)))))) ?_; refine Zk ?_; refine Zk ?_; refine Za (l := [0, 1]) rfl ?_; refine Zd rfl rfl rfl rfl ?_; refine Zaq rfl rfl rfl rfl rfl rfl ?_; refine Zg ?_; refine Ze ?_; refine Zl (.cons (k := 21) rfl (.cons (k := 9) rfl (.cons (k := 8) rfl (.cons (k := 0) rfl (.cons (k := 1) rfl (.cons (k := 2) rfl (.cons (k := 3) rfl .nil))))))) ?_
      refine Zai rfl (fun hc2 => ?_) (fun hc2 => ?_)
      · first | replace hc2 := dT hc2 | replace hc2 := dF hc2 | replace hc2 := nT hc2 | replace hc2 := nF hc2 | skip
        try simp only [PeerV.eta] at hc2
        first
        | (exfalso; omega)
        | (exfalso; simp [eqX] at hc2; done)
        | contradiction
        | skip
          refine Zk ?_; refine Za (l := [0, 1, 2, 3, 4, 5, 6]) rfl ?_; refine Zd rfl rfl rfl rfl ?_; refine Zd rfl rfl rfl rfl ?_; refine Zbn rfl rfl rfl rfl (xor32 hb hc) rfl rfl ?_; refine Zd rfl rfl rfl rfl ?_; refine Zbn rfl rfl rfl rfl (xor32 (Zcb hb hc) hd) rfl rfl ?_; refine Zc rfl rfl rfl rfl ?_; refine Zc rfl rfl rfl rfl ?_; refine Zg ?_; refine Ze ?_; refine Zl (.cons (k := 9) rfl (.cons (k := 8) rfl (.cons (k := 0) rfl (.cons (k := 1) rfl (.cons (k := 2) rfl (.cons (k := 3) rfl .nil)))))) ?_; refine Zam ?_; refine Zar ?_
          refine Zal (.inr rfl) (.tmp rfl (.tmp rfl .nil)) (fun w hw => ?_)
          refine ⟨_, rfl, hw.cnt (by intro zz; first | exact Nat.le_refl _ | (simp only [Zh, Zf, Zi, cat, List.append_eq, List.append_assoc, List.cons_append, List.nil_append, List.append_nil]; omega) | (simp only [Zh, Zf, Zi, cat, List.append_eq, List.append_assoc, List.cons_append, List.nil_append, List.append_nil, PeerV.segs]; omega)), ?_⟩
          clear hw
          unfold mixN addN
          simp only [if_neg (show ¬ t < 20 by omega), if_pos (show t < 40 by omega)]
          try rfl
      · first | replace hc2 := dT hc2 | replace hc2 := dF hc2 | replace hc2 := nT hc2 | replace hc2 := nF hc2 | skip
        try simp only [PeerV.eta] at hc2
        first
        | (exfalso; omega)
        | (exfalso; simp [eqX] at hc2; done)
        | contradiction
        | skip
          refine Zah ?_; refine Ze ?_; refine Zl (.cons (k := 9) rfl (.cons (k := 8) rfl (.cons (k := 0) rfl (.cons (k := 1) rfl (.cons (k := 2) rfl (.cons (k := 3) rfl .nil)))))) ?_; refine Zk ?_; refine Zk ?_; refine Za (l := [0, 1]) rfl ?_; refine Zd rfl rfl rfl rfl ?_; refine Zaq rfl rfl rfl rfl rfl rfl ?_; refine Zg ?_; refine Ze ?_; refine Zl (.cons (k := 28) rfl (.cons (k := 9) rfl (.cons (k := 8) rfl (.cons (k := 1) rfl (.cons (k := 2) rfl (.cons (k := 3) rfl .nil)))))) ?_
          refine Zai rfl (fun hc3 => ?_) (fun hc3 => ?_)
          · first | replace hc3 := dT hc3 | replace hc3 := dF hc3 | replace hc3 := nT hc3 | replace hc3 := nF hc3 | skip
            try simp only [PeerV.eta] at hc3
            first
            | (exfalso; omega)
            | (exfalso; simp [eqX] at hc3; done)
            | contradiction
            | skip
              refine Zk ?_; refine Za (l := [0, 1, 2, 3, 4, 5, 6, 7, 8, 9, 10, 11, 12]) rfl ?_; refine Zd rfl rfl rfl rfl ?_; refine Zd rfl rfl rfl rfl ?_; refine Zbn rfl rfl rfl rfl (and32 hb hc) rfl rfl ?_; refine Zd rfl rfl rfl rfl ?_; refine Zd rfl rfl rfl rfl ?_; refine Zbn rfl rfl rfl rfl (and32 hb hd) rfl rfl ?_; refine Zbn rfl rfl rfl rfl (or32 (Zce hc) (Zce hd)) rfl rfl ?_; refine Zd rfl rfl rfl rfl ?_; refine Zd rfl rfl rfl rfl ?_; refine Zbn rfl rfl rfl rfl (and32 hc hd) rfl rfl ?_; refine Zbn rfl rfl rfl rfl (or32 (lt_or (Zce hc) (Zce hd)) (Zce hd)) rfl rfl ?_; refine Zc rfl rfl rfl rfl ?_; refine Zc rfl rfl rfl rfl ?_; refine Zg ?_; refine Ze ?_; refine Zl (.cons (k := 9) rfl (.cons (k := 8) rfl (.cons (k := 1) rfl (.cons (k := 2) rfl (.cons (k := 3) rfl .nil))))) ?_; refine Zam ?_; refine Zar ?_
              refine Zal (.inr rfl) (.tmp rfl (.tmp rfl .nil)) (fun w hw => ?_)
              refine ⟨_, rfl, hw.cnt (by intro zz; first | exact Nat.le_refl _ | (simp only [Zh, Zf, Zi, cat, List.append_eq, List.append_assoc, List.cons_append, List.nil_append, List.append_nil]; omega) | (simp only [Zh, Zf, Zi, cat, List.append_eq, List.append_assoc, List.cons_append, List.nil_append, List.append_nil, PeerV.segs]; omega)), ?_⟩
              clear hw
              unfold mixN addN
              simp only [if_neg (show ¬ t < 20 by omega), if_neg (show ¬ t < 40 by omega), if_pos (show t < 60 by omega)]
              try rfl
          · first | replace hc3 := dT hc3 | replace hc3 := dF hc3 | replace hc3 := nT hc3 | replace hc3 := nF hc3 | skip
            try simp only [PeerV.eta] at hc3
            first
            | (exfalso; omega)
            | (exfalso; simp [eqX] at hc3; done)
            | contradiction
            | skip
              refine Zah ?_; refine Ze ?_; refine Zl (.cons (k := 9) rfl (.cons (k := 8) rfl (.cons (k := 1) rfl (.cons (k := 2) rfl (.cons (k := 3) rfl .nil))))) ?_; refine Zk ?_; refine Za (l := [0, 1, 2, 3, 4, 5, 6]) rfl ?_; refine Zd rfl rfl rfl rfl ?_; refine Zd rfl rfl rfl rfl ?_; refine Zbn rfl rfl rfl rfl (xor32 hb hc) rfl rfl ?_; refine Zd rfl rfl rfl rfl ?_; refine Zbn rfl rfl rfl rfl (xor32 (Zcb hb hc) hd) rfl rfl ?_; refine Zc rfl rfl rfl rfl ?_; refine Zc rfl rfl rfl rfl ?_; refine Zg ?_; refine Ze ?_; refine Zl (.cons (k := 9) rfl (.cons (k := 8) rfl .nil)) ?_; refine Zam ?_
              refine Zal (.inr rfl) (.tmp rfl (.tmp rfl .nil)) (fun w hw => ?_)
              refine ⟨_, rfl, hw.cnt (by intro zz; first | exact Nat.le_refl _ | (simp only [Zh, Zf, Zi, cat, List.append_eq, List.append_assoc, List.cons_append, List.nil_append, List.append_nil]; omega) | (simp only [Zh, Zf, Zi, cat, List.append_eq, List.append_assoc, List.cons_append, List.nil_append, List.append_nil, PeerV.segs]; omega)), ?_⟩
              clear hw
              unfold mixN addN
              simp only [if_neg (show ¬ t < 20 by omega), if_neg (show ¬ t < 40 by omega), if_neg (show ¬ t < 60 by omega)]
              try rfl
end Go.Proofs.YtpfdblknaihidaaDoor
namespace Go.Proofs.YtpfdblknaihidaaDoor
open Go.Esp
theorem F.ok80 : okFn Tryd.prog 80 = true := by kernel_rfl
theorem rWords_ok (M : Mem) (s : ByteArray) (hs : s.size = 64) (V : List Nat) (hV : IsWords (natsOf s) V) : Esp.Fn Tryd.prog 78 [.string s] M (fun M' v => WordsE M' v V) := by
  have hl80 := hV.len
  have hB := natsOf_lt s
  refine Zbv Tryd.func78 rfl Tryd.ntmps78 rfl ?_; intro H
  refine Zk ?_; refine Za (l := [0, 1]) rfl ?_; refine Zc rfl rfl rfl rfl ?_; refine Zc rfl rfl rfl rfl ?_; refine Zg ?_; refine Ze ?_; refine Zk ?_; refine Zk ?_; refine Za (l := [0, 1, 2]) rfl ?_; refine Zd rfl rfl rfl rfl ?_; refine X_len_str rfl rfl rfl rfl Tryd.underlying9 rfl ?_; refine Zaq rfl rfl rfl rfl rfl rfl ?_; refine Zg ?_; refine Ze ?_; refine Zl (.cons (k := 11) rfl (.cons (k := 3) rfl (.cons (k := 2) rfl (.cons (k := 0) rfl .nil)))) ?_
  refine Zai rfl (fun hc1 => ?_) (fun hc1 => ?_)
  · first | replace hc1 := dT hc1 | replace hc1 := dF hc1 | replace hc1 := nT hc1 | replace hc1 := nF hc1 | skip
    try simp only [PeerV.eta] at hc1
    first | (exfalso; omega) | (exfalso; simp [eqX] at hc1; done) | contradiction
  · first | replace hc1 := dT hc1 | replace hc1 := dF hc1 | replace hc1 := nT hc1 | replace hc1 := nF hc1 | skip
    try simp only [PeerV.eta] at hc1
    first
    | (exfalso; omega)
    | (exfalso; simp [eqX] at hc1; done)
    | contradiction
    | skip
      refine Zah ?_; refine Ze ?_; refine Zl (.cons (k := 3) rfl (.cons (k := 2) rfl (.cons (k := 0) rfl .nil))) ?_; refine Zk ?_; refine Za (l := [0]) rfl ?_; refine Zc rfl rfl rfl rfl ?_; refine Zg ?_; refine Ze ?_; refine Zk ?_; refine Zk ?_; refine Za (l := [0]) rfl ?_; refine Zc rfl rfl rfl rfl ?_; refine Zg ?_; refine Ze ?_; refine Zad ?_; refine Zl (.cons (k := 5) rfl (.cons (k := 4) rfl (.cons (k := 3) rfl (.cons (k := 2) rfl (.cons (k := 0) rfl .nil))))) ?_; refine Zbu (Hin := []) (.succ (.succ .zero)) (by repeat first | exact Rem.here _ | exact Rem.two | apply Rem.skip | apply Rem.over) (fun (k : Nat) M1 h1 z => ∃ v, M1 = M ∧ z = [(5, .int .i64 (k : Int)), (4, v)] ∧ k ≤ 16 ∧ OSl 55 1 v h1 ((V.take (k)).map u32R)) (fun k => 16 - k) (0) (⟨_, rfl, rfl, by omega, OSl.nil⟩) ?_
      rintro k M1 h1 z hm1 ⟨v0, hM1, rfl, hk, ho⟩
      subst hM1
      obtain ⟨ad0, cp0, rfl⟩ := ho.val
      have hml : ((V.take k).map u32R).length = k := by rw [List.length_map, List.length_take]; omega
      rw [hml] at ho ⊢
      refine Zk ?_; refine Zk ?_; refine Za (l := [0, 1]) rfl ?_; refine Zd rfl rfl rfl rfl ?_; refine Zaq rfl rfl rfl rfl rfl rfl ?_; refine Zg ?_; refine Ze ?_
      refine Zai rfl (fun hc2 => ?_) (fun hc2 => ?_)
      · first | replace hc2 := dT hc2 | replace hc2 := dF hc2 | replace hc2 := nT hc2 | replace hc2 := nF hc2 | skip
        try simp only [PeerV.eta] at hc2
        first
        | (exfalso; omega)
        | (exfalso; simp [eqX] at hc2; done)
        | contradiction
        | skip
          refine Zah ?_; refine Ze ?_; refine Zk ?_; refine Zad ?_; refine Zk ?_; refine Za (l := [0]) rfl ?_; refine Zc rfl rfl rfl rfl ?_; refine Zg ?_; refine Ze ?_; refine Zk ?_; refine Zk ?_; refine Za (l := [0]) rfl ?_; refine Zc rfl rfl rfl rfl ?_; refine Zg ?_; refine Ze ?_; refine Zad ?_; refine Zl (.cons (k := 7) rfl (.cons (k := 6) rfl (.cons (k := 13) rfl (.cons (k := 12) rfl (.cons (k := 5) rfl (.cons (k := 4) rfl (.cons (k := 3) rfl (.cons (k := 2) rfl (.cons (k := 0) rfl .nil))))))))) ?_; refine Zbz (.succ (.succ .zero)) (fun (q : Nat) z => z = [(7, .int .i64 (q : Int)), (6, .int .u32 ((bytesOf (natsOf s) k q : Nat) : Int))] ∧ q ≤ 4) (fun q => 4 - q) (0) (⟨rfl, by omega⟩) ?_
          rintro q _ ⟨rfl, hq⟩
          have hby := getD_lt hB (4 * k + q)
          refine Zk ?_; refine Zk ?_; refine Za (l := [0, 1]) rfl ?_; refine Zd rfl rfl rfl rfl ?_; refine Zaq rfl rfl rfl rfl rfl rfl ?_; refine Zg ?_; refine Ze ?_
          refine Zai rfl (fun hc3 => ?_) (fun hc3 => ?_)
          · first | replace hc3 := dT hc3 | replace hc3 := dF hc3 | replace hc3 := nT hc3 | replace hc3 := nF hc3 | skip
            try simp only [PeerV.eta] at hc3
            first
            | (exfalso; omega)
            | (exfalso; simp [eqX] at hc3; done)
            | contradiction
            | skip
              refine Zah ?_; refine Ze ?_; refine Zk ?_; refine Zad ?_
              have hp : bytesOf (natsOf s) k q < 16777216 := Nat.lt_of_lt_of_le (bytesOf_lt hB q) (Nat.pow_le_pow_right (by decide) (show q ≤ 3 by omega))
              refine Za (l := [0, 1, 2, 3, 4, 5, 6, 7, 8, 9, 10]) rfl ?_; refine Zd rfl rfl rfl rfl ?_; refine Zav rfl rfl rfl rfl rfl (by first | exact Zaa (by decide) (by omega) | exact Zm (by decide) (by omega) | exact Zo (by decide) (by omega) | exact Zn (by decide) (by omega) | exact Zt _ | exact Zz _ | exact Zq _ | exact rfl) rfl ?_; refine Zd rfl rfl rfl rfl ?_; refine Zd rfl rfl rfl rfl ?_; refine Zav rfl rfl rfl rfl rfl (by first | exact Zaa (by decide) (by omega) | exact Zm (by decide) (by omega) | exact Zo (by decide) (by omega) | exact Zn (by decide) (by omega) | exact Zt _ | exact Zz _ | exact Zq _ | exact rfl) rfl ?_; refine Zd rfl rfl rfl rfl ?_; refine Zav rfl rfl rfl rfl rfl (by first | exact Zaa (by decide) (by omega) | exact Zm (by decide) (by omega) | exact Zo (by decide) (by omega) | exact Zn (by decide) (by omega) | exact Zt _ | exact Zz _ | exact Zq _ | exact rfl) rfl ?_
              rw [show (4 : Int) * (k : Int) + (q : Int) = ((4 * k + q : Nat) : Int) by omega]
              refine X_index_str (k := 4 * k + q) rfl rfl rfl rfl Tryd.underlying9 rfl (by omega) rfl rfl ?_; refine Zci rfl rfl rfl Tryd.underlying5 Tryd.underlying55 (by first | exact Zaa (by decide) (by omega) | exact Zm (by decide) (by omega) | exact Zo (by decide) (by omega) | exact Zn (by decide) (by omega) | exact Zt _ | exact Zz _ | exact Zq _ | exact rfl) rfl ?_; refine Zav rfl rfl rfl rfl rfl (by first | exact Zaa (by decide) (by omega) | exact Zm (by decide) (by omega) | exact Zo (by decide) (by omega) | exact Zn (by decide) (by omega) | exact Zt _ | exact Zz _ | exact Zq _ | exact rfl) rfl ?_
              rw [show (256 : Int) * ((bytesOf (natsOf s) k q : Nat) : Int) + (((natsOf s).getD (4 * k + q) 0 : Nat) : Int) = ((bytesOf (natsOf s) k q * 256 + (natsOf s).getD (4 * k + q) 0 : Nat) : Int) by omega]
              refine Zc rfl rfl rfl rfl ?_; refine Zg ?_; refine Zbs ?_; refine Ze ?_; refine Za (l := [0, 1, 2]) rfl ?_; refine Zd rfl rfl rfl rfl ?_; refine Zav rfl rfl rfl rfl rfl (by first | exact Zaa (by decide) (by omega) | exact Zm (by decide) (by omega) | exact Zo (by decide) (by omega) | exact Zn (by decide) (by omega) | exact Zt _ | exact Zz _ | exact Zq _ | exact rfl) rfl ?_; refine Zc rfl rfl rfl rfl ?_; refine Zg ?_; refine Zbp (a' := [(7, _), (6, _)]) (q + 1) (.cons (k := 7) rfl (.cons (k := 6) rfl (.cons (k := 13) rfl (.cons (k := 12) rfl (.cons (k := 5) rfl (.cons (k := 4) rfl (.cons (k := 3) rfl (.cons (k := 2) rfl (.cons (k := 0) rfl (.nil)))))))))) (fun w hw => by first | exact hw | exact hw.cnt (by intro zz; first | exact Nat.le_refl _ | (simp only [Zh, Zf, Zi, cat, List.append_eq, List.append_assoc, List.cons_append, List.nil_append, List.append_nil]; omega) | (simp only [Zh, Zf, Zi, cat, List.append_eq, List.append_assoc, List.cons_append, List.nil_append, List.append_nil, PeerV.segs]; omega))) ?_ ?_
              · exact ⟨rfl, by omega⟩
              · omega
          · first | replace hc3 := dT hc3 | replace hc3 := dF hc3 | replace hc3 := nT hc3 | replace hc3 := nF hc3 | skip
            try simp only [PeerV.eta] at hc3
            first
            | (exfalso; omega)
            | (exfalso; simp [eqX] at hc3; done)
            | contradiction
            | skip
              refine Zbl ?_; refine Zao ?_; refine Zao ?_; refine Zbx ?_; refine Ze ?_; refine Za (l := [0, 1, 2, 3, 4]) rfl ?_; refine Zd rfl rfl rfl rfl ?_; refine Zd rfl rfl rfl rfl ?_
              refine Zba rfl rfl F.elem70 F.zero55 rfl rfl (.cons rfl (by constructor) .nil) rfl rfl (by simp only [List.map_cons, List.map_nil] <;> rfl) rfl ?_; intro b4 hob5
              refine Zca (m := 1000000) rfl rfl rfl rfl rfl F.elem70 F.zero55 (by first | rfl | exact Zbo rfl) rfl (by first | assumption | exact OSl.nil) (by repeat first | exact Rem.here _ | exact Rem.two | apply Rem.skip | apply Rem.over) (Src.own hob5.lens (by first | exact PeerV.flat1 _ | exact PeerV.flat1 ⟨_, _⟩ | exact stFlat _ | exact Zay _ | exact Zaz | (refine Zbf ?_; (repeat (first | exact Zag | refine Zau ?_ | (refine Zae ?_ ?_; rfl))); done) | (refine Zbf ?_; exact PeerV.flat _) | (simp [rowsCells, Segs.cells, Seg.cells, Value.oneCell']; done)) rfl (by repeat first | exact List.Mem.head _ | refine List.Mem.tail _ ?_ | refine List.mem_append_right _ ?_)) (by first | omega | (simp; done) | (simp; omega)) (by decide) rfl ?_; intro v8 hs7 ho6; obtain ⟨adv8, cpv8, rfl⟩ := ho6.val
              refine Zc rfl rfl rfl rfl ?_; refine Zg ?_; refine Zbs ?_; refine Ze ?_; refine Za (l := [0, 1, 2]) rfl ?_; refine Zd rfl rfl rfl rfl ?_; refine Zav rfl rfl rfl rfl rfl (by first | exact Zaa (by decide) (by omega) | exact Zm (by decide) (by omega) | exact Zo (by decide) (by omega) | exact Zn (by decide) (by omega) | exact Zt _ | exact Zz _ | exact Zq _ | exact rfl) rfl ?_; refine Zc rfl rfl rfl rfl ?_; refine Zg ?_; refine Zbj (a' := [(5, _), (4, _)]) (k + 1) (hs7) (.cons (k := 5) rfl (.cons (k := 4) rfl (.cons (k := 3) rfl (.cons (k := 2) rfl (.cons (k := 0) rfl (.nil)))))) (by first | exact Mem.le.refl _ | assumption | (repeat first | assumption | refine Mem.le.trans (by assumption) ?_)) (fun w hw => by first | exact hw | exact hw.cnt (by intro zz; first | exact Nat.le_refl _ | (simp only [Zh, Zf, Zi, cat, List.append_eq, List.append_assoc, List.cons_append, List.nil_append, List.append_nil]; omega) | (simp only [Zh, Zf, Zi, cat, List.append_eq, List.append_assoc, List.cons_append, List.nil_append, List.append_nil, PeerV.segs]; omega))) ?_ ?_
              · refine ⟨_, rfl, rfl, by omega, ?_⟩
                rw [List.take_add_one, List.getElem?_eq_getElem (by omega), List.map_append]
                obtain rfl : q = 4 := by omega
                have h9 := ho6
                rw [hV.lo k (by omega), ← bytesOf_four]
                exact h9
              · omega
      · first | replace hc2 := dT hc2 | replace hc2 := dF hc2 | replace hc2 := nT hc2 | replace hc2 := nF hc2 | skip
        try simp only [PeerV.eta] at hc2
        first
        | (exfalso; omega)
        | (exfalso; simp [eqX] at hc2; done)
        | contradiction
        | skip
          refine Zbl ?_; refine Zao ?_; refine Zao ?_; refine Zbx ?_; refine Ze ?_; refine Zl (.cons (k := 4) rfl (.cons (k := 3) rfl (.cons (k := 2) rfl .nil))) ?_; refine Zk ?_; refine Zk ?_; refine Za (l := [0]) rfl ?_
          obtain rfl : k = 16 := by omega
          refine Zc rfl rfl rfl rfl ?_; refine Zg ?_; refine Ze ?_; refine Zad ?_; refine Zl (.cons (k := 8) rfl (.cons (k := 4) rfl (.cons (k := 3) rfl (.cons (k := 2) rfl .nil)))) ?_; refine Zbu (Hin := h1) (.succ (.succ .zero)) (by repeat first | exact Rem.here _ | exact Rem.two | apply Rem.skip | apply Rem.over) (fun (t : Nat) M3 h3 z => ∃ v, M3 = M1 ∧ z = [(8, .int .i64 (t : Int)), (4, v)] ∧ 16 ≤ t ∧ t ≤ 80 ∧ OSl 55 1 v h3 ((V.take (t)).map u32R)) (fun t => 80 - t) (16) (⟨_, rfl, rfl, by omega, by omega, ho⟩) ?_
          rintro t M3 h3 z hm3 ⟨v3, hM3, rfl, ht1, ht2, hot⟩
          subst hM3
          obtain ⟨ad3, cp3, rfl⟩ := hot.val
          have hml3 : ((V.take t).map u32R).length = t := by rw [List.length_map, List.length_take]; omega
          rw [hml3] at hot ⊢
          refine Zk ?_; refine Zk ?_; refine Za (l := [0, 1]) rfl ?_; refine Zd rfl rfl rfl rfl ?_; refine Zaq rfl rfl rfl rfl rfl rfl ?_; refine Zg ?_; refine Ze ?_
          refine Zai rfl (fun hc9 => ?_) (fun hc9 => ?_)
          · first | replace hc9 := dT hc9 | replace hc9 := dF hc9 | replace hc9 := nT hc9 | replace hc9 := nF hc9 | skip
            try simp only [PeerV.eta] at hc9
            first
            | (exfalso; omega)
            | (exfalso; simp [eqX] at hc9; done)
            | contradiction
            | skip
              refine Zah ?_; refine Ze ?_; refine Zk ?_; refine Zad ?_; refine Zaf (l := [0, 1, 2, 3, 4, 5, 6, 7, 8, 9, 10, 11, 12, 13, 14, 15, 16, 17, 18, 19, 20, 21, 22, 23, 24, 25, 26, 27]) #[0, 0, 0, 4, 14, 30, 0, 0, 128, 448, 960, 2046, 0, 0, 8192, 28672, 61440, 131070, 0, 0, 524288, 1835008, 3932160, 8388606, 16777214, 33554430, 67108863, 134217727] _ rfl (by kernel_rfl) (by kernel_rfl) St.drawn (fun _ h => h) ?_; refine Zd rfl rfl rfl rfl ?_; refine Zd rfl rfl rfl rfl ?_; refine Zd rfl rfl rfl rfl ?_; refine Zav rfl rfl rfl rfl rfl (by first | exact Zaa (by decide) (by omega) | exact Zm (by decide) (by omega) | exact Zo (by decide) (by omega) | exact Zn (by decide) (by omega) | exact Zt _ | exact Zz _ | exact Zq _ | exact rfl) rfl ?_
              rw [show (t : Int) - 3 = ((t - 3 : Nat) : Int) by omega]
              refine Zab rfl rfl rfl rfl F.elem70 (by first | rfl | exact (Int.toNat_of_nonneg (by omega)).symm) (by first | omega | (simp; done) | (simp; omega)) (by first | exact ⟨_, _, rfl⟩ | assumption | exact SlM.plain (by assumption) (by first | (simp; done) | (simp; omega)) | exact RdS.plain (by assumption) (by first | (simp; done) | (simp; omega)) | exact OSl.plain (by assumption) (by first | (simp; done) | (simp; omega))) rfl ?_; refine Zp rfl rfl rfl hot (by repeat first | exact Rem.here _ | exact Rem.two | apply Rem.skip | apply Rem.over) (by rw [List.getElem?_map, List.getElem?_take_of_lt (by omega), List.getElem?_eq_getElem (by omega)]; rfl) F.lay55 rfl rfl rfl ?_; refine Zd rfl rfl rfl rfl ?_; refine Zd rfl rfl rfl rfl ?_; refine Zav rfl rfl rfl rfl rfl (by first | exact Zaa (by decide) (by omega) | exact Zm (by decide) (by omega) | exact Zo (by decide) (by omega) | exact Zn (by decide) (by omega) | exact Zt _ | exact Zz _ | exact Zq _ | exact rfl) rfl ?_
              rw [show (t : Int) - 8 = ((t - 8 : Nat) : Int) by omega]
              refine Zab rfl rfl rfl rfl F.elem70 (by first | rfl | exact (Int.toNat_of_nonneg (by omega)).symm) (by first | omega | (simp; done) | (simp; omega)) (by first | exact ⟨_, _, rfl⟩ | assumption | exact SlM.plain (by assumption) (by first | (simp; done) | (simp; omega)) | exact RdS.plain (by assumption) (by first | (simp; done) | (simp; omega)) | exact OSl.plain (by assumption) (by first | (simp; done) | (simp; omega))) rfl ?_; refine Zp rfl rfl rfl hot (by repeat first | exact Rem.here _ | exact Rem.two | apply Rem.skip | apply Rem.over) (by rw [List.getElem?_map, List.getElem?_take_of_lt (by omega), List.getElem?_eq_getElem (by omega)]; rfl) F.lay55 rfl rfl rfl ?_; refine Zbn rfl rfl rfl rfl (xor32 (Zbc hV hB (t - 3) (by omega)) (Zbc hV hB (t - 8) (by omega))) rfl rfl ?_; refine Zd rfl rfl rfl rfl ?_; refine Zd rfl rfl rfl rfl ?_; refine Zav rfl rfl rfl rfl rfl (by first | exact Zaa (by decide) (by omega) | exact Zm (by decide) (by omega) | exact Zo (by decide) (by omega) | exact Zn (by decide) (by omega) | exact Zt _ | exact Zz _ | exact Zq _ | exact rfl) rfl ?_
              rw [show (t : Int) - 14 = ((t - 14 : Nat) : Int) by omega]
              refine Zab rfl rfl rfl rfl F.elem70 (by first | rfl | exact (Int.toNat_of_nonneg (by omega)).symm) (by first | omega | (simp; done) | (simp; omega)) (by first | exact ⟨_, _, rfl⟩ | assumption | exact SlM.plain (by assumption) (by first | (simp; done) | (simp; omega)) | exact RdS.plain (by assumption) (by first | (simp; done) | (simp; omega)) | exact OSl.plain (by assumption) (by first | (simp; done) | (simp; omega))) rfl ?_; refine Zp rfl rfl rfl hot (by repeat first | exact Rem.here _ | exact Rem.two | apply Rem.skip | apply Rem.over) (by rw [List.getElem?_map, List.getElem?_take_of_lt (by omega), List.getElem?_eq_getElem (by omega)]; rfl) F.lay55 rfl rfl rfl ?_; refine Zbn rfl rfl rfl rfl (xor32 (Zcb (Zbc hV hB (t - 3) (by omega)) (Zbc hV hB (t - 8) (by omega))) (Zbc hV hB (t - 14) (by omega))) rfl rfl ?_; refine Zd rfl rfl rfl rfl ?_
              refine Zd rfl rfl rfl rfl ?_; refine Zav rfl rfl rfl rfl rfl (by first | exact Zaa (by decide) (by omega) | exact Zm (by decide) (by omega) | exact Zo (by decide) (by omega) | exact Zn (by decide) (by omega) | exact Zt _ | exact Zz _ | exact Zq _ | exact rfl) rfl ?_
              rw [show (t : Int) - 16 = ((t - 16 : Nat) : Int) by omega]
              refine Zab rfl rfl rfl rfl F.elem70 (by first | rfl | exact (Int.toNat_of_nonneg (by omega)).symm) (by first | omega | (simp; done) | (simp; omega)) (by first | exact ⟨_, _, rfl⟩ | assumption | exact SlM.plain (by assumption) (by first | (simp; done) | (simp; omega)) | exact RdS.plain (by assumption) (by first | (simp; done) | (simp; omega)) | exact OSl.plain (by assumption) (by first | (simp; done) | (simp; omega))) rfl ?_; refine Zp rfl rfl rfl hot (by repeat first | exact Rem.here _ | exact Rem.two | apply Rem.skip | apply Rem.over) (by rw [List.getElem?_map, List.getElem?_take_of_lt (by omega), List.getElem?_eq_getElem (by omega)]; rfl) F.lay55 rfl rfl rfl ?_; refine Zbn rfl rfl rfl rfl (xor32 (Zcb (Zcb (Zbc hV hB (t - 3) (by omega)) (Zbc hV hB (t - 8) (by omega))) (Zbc hV hB (t - 14) (by omega))) (Zbc hV hB (t - 16) (by omega))) rfl rfl ?_
              refine X_fs rfl rfl F.ok80 rfl (rLeft_ok _ _ 1 (Zcb (Zcb (Zcb (Zbc hV hB (t - 3) (by omega)) (Zbc hV hB (t - 8) (by omega))) (Zbc hV hB (t - 14) (by omega))) (Zbc hV hB (t - 16) (by omega))) (by decide)) rfl ?_
              rintro _ rfl
              refine Zba rfl rfl F.elem70 F.zero55 rfl rfl (.cons rfl (by constructor) .nil) rfl rfl (by simp only [List.map_cons, List.map_nil] <;> rfl) rfl ?_; intro b10 hob11
              refine Zca (m := 1000000) rfl rfl rfl rfl rfl F.elem70 F.zero55 (by first | rfl | exact Zbo rfl) rfl (by first | assumption | exact OSl.nil) (by repeat first | exact Rem.here _ | exact Rem.two | apply Rem.skip | apply Rem.over) (Src.own hob11.lens (by first | exact PeerV.flat1 _ | exact PeerV.flat1 ⟨_, _⟩ | exact stFlat _ | exact Zay _ | exact Zaz | (refine Zbf ?_; (repeat (first | exact Zag | refine Zau ?_ | (refine Zae ?_ ?_; rfl))); done) | (refine Zbf ?_; exact PeerV.flat _) | (simp [rowsCells, Segs.cells, Seg.cells, Value.oneCell']; done)) rfl (by repeat first | exact List.Mem.head _ | refine List.Mem.tail _ ?_ | refine List.mem_append_right _ ?_)) (by first | omega | (simp; done) | (simp; omega)) (by decide) rfl ?_; intro v14 hs13 ho12; obtain ⟨adv14, cpv14, rfl⟩ := ho12.val
              refine Zc rfl rfl rfl rfl ?_; refine Zg ?_; refine Zbs ?_; refine Ze ?_; refine Za (l := [0, 1, 2]) rfl ?_; refine Zd rfl rfl rfl rfl ?_; refine Zav rfl rfl rfl rfl rfl (by first | exact Zaa (by decide) (by omega) | exact Zm (by decide) (by omega) | exact Zo (by decide) (by omega) | exact Zn (by decide) (by omega) | exact Zt _ | exact Zz _ | exact Zq _ | exact rfl) rfl ?_; refine Zc rfl rfl rfl rfl ?_; refine Zg ?_; refine Zbj (a' := [(8, _), (4, _)]) (t + 1) (hs13) (.cons (k := 8) rfl (.cons (k := 4) rfl (.cons (k := 3) rfl (.cons (k := 2) rfl (.nil))))) (by first | exact Mem.le.refl _ | assumption | (repeat first | assumption | refine Mem.le.trans (by assumption) ?_)) (fun w hw => by first | exact hw | exact hw.cnt (by intro zz; first | exact Nat.le_refl _ | (simp only [Zh, Zf, Zi, cat, List.append_eq, List.append_assoc, List.cons_append, List.nil_append, List.append_nil]; omega) | (simp only [Zh, Zf, Zi, cat, List.append_eq, List.append_assoc, List.cons_append, List.nil_append, List.append_nil, PeerV.segs]; omega))) ?_ ?_
              · refine ⟨_, rfl, rfl, by omega, by omega, ?_⟩
                rw [List.take_add_one, List.getElem?_eq_getElem (by omega), List.map_append]
                have h9 := ho12
                rw [hV.hi t ht1 (by omega)]
                exact h9
              · omega
          · first | replace hc9 := dT hc9 | replace hc9 := dF hc9 | replace hc9 := nT hc9 | replace hc9 := nF hc9 | skip
            try simp only [PeerV.eta] at hc9
            first
            | (exfalso; omega)
            | (exfalso; simp [eqX] at hc9; done)
            | contradiction
            | skip
              refine Zbl ?_; refine Zao ?_; refine Zao ?_; refine Zbx ?_; refine Ze ?_; refine Zl (.cons (k := 4) rfl (.cons (k := 3) rfl (.cons (k := 2) rfl .nil))) ?_; refine Zk ?_; refine Za (l := [0, 1, 2]) rfl ?_; refine Zd rfl rfl rfl rfl ?_; refine Zc rfl rfl rfl rfl ?_; refine Zc rfl rfl rfl rfl ?_; refine Zg ?_; refine Ze ?_; refine Zl (.cons (k := 3) rfl (.cons (k := 2) rfl .nil)) ?_; refine Zam ?_
              refine Zal (.inr rfl) (.tmp rfl (.tmp rfl .nil)) (fun w hw => ?_)
              obtain rfl : t = 80 := by omega
              rw [List.take_of_length_le (by omega)] at hot
              obtain ⟨M9, s1, g1, g2, g3, g4, g5⟩ := OSl.freezeK (f := u32R) (H := H) (l := V) hot (hw.cnt (by intro zz; first | exact Nat.le_refl _ | (simp only [Zh, Zf, Zi, cat, List.append_eq, List.append_assoc, List.cons_append, List.nil_append, List.append_nil]; omega) | (simp only [Zh, Zf, Zi, cat, List.append_eq, List.append_assoc, List.cons_append, List.nil_append, List.append_nil, PeerV.segs]; omega)))
              refine ⟨_, M9, rfl, g1, g2, ?_⟩
              exact ⟨s1, by rw [← g3]; rfl, g4, g5⟩
end Go.Proofs.YtpfdblknaihidaaDoor
namespace Go.Proofs.YtpfdblknaihidaaDoor
open Go.Esp
theorem F.ok78 : okFn Tryd.prog 78 = true := by kernel_rfl
theorem F.ok79 : okFn Tryd.prog 79 = true := by kernel_rfl
theorem rStep_ok (M : Mem) (g : St5) (s : ByteArray) (hg : g.ok) (hs : s.size = 64) : Esp.Fn Tryd.prog 55 [aggV [stSeg g], .string s] M (fun M' v => v = .tuple #[aggV [stSeg (stepN g (natsOf s))], .int .i64 0]) := by
  refine Zbv Tryd.func55 rfl Tryd.ntmps55 rfl ?_; intro H
  refine Zk ?_; refine Za (l := [0, 1, 2]) rfl ?_
  refine Zcj rfl rfl rfl (by constructor) rfl ?_; intro b1
  refine Zbm rfl rfl F.zero57 (by constructor) rfl ?_; intro b2
  refine Zc rfl rfl rfl rfl ?_; refine Zg ?_; refine Ze ?_; refine Zl (.cons (k := 5) rfl (.cons (k := 4) rfl (.cons (k := 2) rfl (.cons (k := 1) rfl .nil)))) ?_; refine Zk ?_; refine Za (l := [0, 1, 2, 3, 4, 5, 6]) rfl ?_; refine Zd rfl rfl rfl rfl ?_; refine X_fn rfl rfl F.ok78 rfl (rWords_ok M s hs (wordsOf (natsOf s)) (wordsOf_is (by rw [Zas, hs]))) rfl ?_
  rintro _ M1 hm1 ⟨⟨wa, wc, wl⟩, rfl, hwl, hwk⟩
  replace hwl : wl = wordsOf (natsOf s) := hwl
  have hV : IsWords (natsOf s) wl := by rw [hwl]; exact wordsOf_is (by rw [Zas, hs])
  have hl80 := hV.len
  have s_w := hwk.h1
  simp only at s_w
  have n_w : (wl.map u32R).length = wl.length := List.length_map ..
  refine Zd rfl rfl rfl rfl ?_; refine Zap rfl rfl rfl rfl rfl ?_; refine Zap rfl rfl rfl rfl rfl ?_; refine Zc rfl rfl rfl rfl ?_; refine Zc rfl rfl rfl rfl ?_; refine Zg ?_; refine Ze ?_; refine Zl (.cons (k := 7) rfl (.cons (k := 6) rfl (.cons (k := 5) rfl (.cons (k := 4) rfl (.cons (k := 2) rfl .nil))))) ?_; refine Zk ?_; refine Zk ?_; refine Za (l := [0, 1]) rfl ?_; refine Zd rfl rfl rfl rfl ?_; refine Zaq rfl rfl rfl rfl rfl rfl ?_; refine Zg ?_; refine Ze ?_; refine Zl (.cons (k := 23) rfl (.cons (k := 7) rfl (.cons (k := 6) rfl (.cons (k := 5) rfl (.cons (k := 4) rfl (.cons (k := 2) rfl .nil)))))) ?_
  refine Zai rfl (fun hc3 => ?_) (fun hc3 => ?_)
  · first | replace hc3 := dT hc3 | replace hc3 := dF hc3 | replace hc3 := nT hc3 | replace hc3 := nF hc3 | skip
    try simp only [PeerV.eta] at hc3
    first | (exfalso; omega) | (exfalso; simp [eqX] at hc3; done) | contradiction
  · first | replace hc3 := dT hc3 | replace hc3 := dF hc3 | replace hc3 := nT hc3 | replace hc3 := nF hc3 | skip
    try simp only [PeerV.eta] at hc3
    first
    | (exfalso; omega)
    | (exfalso; simp [eqX] at hc3; done)
    | contradiction
    | skip
      refine Zah ?_; refine Ze ?_; refine Zl (.cons (k := 6) rfl (.cons (k := 5) rfl (.cons (k := 4) rfl (.cons (k := 2) rfl .nil)))) ?_; refine Zk ?_; refine Za (l := [0, 1, 2]) rfl ?_; refine Zw rfl rfl rfl rfl F.arr57 (by first | rfl | exact (Int.toNat_of_nonneg (by omega)).symm) (by first | omega | decide | (simp; omega)) rfl ?_; refine Zr rfl rfl rfl (by repeat first | exact List.Mem.head _ | refine List.Mem.tail _ ?_ | refine List.mem_append_right _ ?_) F.lay55 (stCell _ (by decide)) rfl ?_; refine Zc rfl rfl rfl rfl ?_; refine Zg ?_; refine Ze ?_; refine Zl (.cons (k := 8) rfl (.cons (k := 6) rfl (.cons (k := 5) rfl (.cons (k := 4) rfl (.cons (k := 2) rfl .nil))))) ?_; refine Zk ?_; refine Za (l := [0, 1, 2]) rfl ?_; refine Zw rfl rfl rfl rfl F.arr57 (by first | rfl | exact (Int.toNat_of_nonneg (by omega)).symm) (by first | omega | decide | (simp; omega)) rfl ?_
      refine Zr rfl rfl rfl (by repeat first | exact List.Mem.head _ | refine List.Mem.tail _ ?_ | refine List.mem_append_right _ ?_) F.lay55 (stCell _ (by decide)) rfl ?_; refine Zc rfl rfl rfl rfl ?_; refine Zg ?_; refine Ze ?_; refine Zl (.cons (k := 9) rfl (.cons (k := 8) rfl (.cons (k := 6) rfl (.cons (k := 5) rfl (.cons (k := 4) rfl (.cons (k := 2) rfl .nil)))))) ?_; refine Zk ?_; refine Za (l := [0, 1, 2]) rfl ?_; refine Zw rfl rfl rfl rfl F.arr57 (by first | rfl | exact (Int.toNat_of_nonneg (by omega)).symm) (by first | omega | decide | (simp; omega)) rfl ?_; refine Zr rfl rfl rfl (by repeat first | exact List.Mem.head _ | refine List.Mem.tail _ ?_ | refine List.mem_append_right _ ?_) F.lay55 (stCell _ (by decide)) rfl ?_; refine Zc rfl rfl rfl rfl ?_; refine Zg ?_; refine Ze ?_; refine Zl (.cons (k := 10) rfl (.cons (k := 9) rfl (.cons (k := 8) rfl (.cons (k := 6) rfl (.cons (k := 5) rfl (.cons (k := 4) rfl (.cons (k := 2) rfl .nil))))))) ?_
      refine Zk ?_; refine Za (l := [0, 1, 2]) rfl ?_; refine Zw rfl rfl rfl rfl F.arr57 (by first | rfl | exact (Int.toNat_of_nonneg (by omega)).symm) (by first | omega | decide | (simp; omega)) rfl ?_; refine Zr rfl rfl rfl (by repeat first | exact List.Mem.head _ | refine List.Mem.tail _ ?_ | refine List.mem_append_right _ ?_) F.lay55 (stCell _ (by decide)) rfl ?_; refine Zc rfl rfl rfl rfl ?_; refine Zg ?_; refine Ze ?_; refine Zl (.cons (k := 11) rfl (.cons (k := 10) rfl (.cons (k := 9) rfl (.cons (k := 8) rfl (.cons (k := 6) rfl (.cons (k := 5) rfl (.cons (k := 4) rfl (.cons (k := 2) rfl .nil)))))))) ?_; refine Zk ?_; refine Za (l := [0, 1, 2]) rfl ?_; refine Zw rfl rfl rfl rfl F.arr57 (by first | rfl | exact (Int.toNat_of_nonneg (by omega)).symm) (by first | omega | decide | (simp; omega)) rfl ?_; refine Zr rfl rfl rfl (by repeat first | exact List.Mem.head _ | refine List.Mem.tail _ ?_ | refine List.mem_append_right _ ?_) F.lay55 (stCell _ (by decide)) rfl ?_
      refine Zc rfl rfl rfl rfl ?_; refine Zg ?_; refine Ze ?_; refine Zl (.cons (k := 12) rfl (.cons (k := 11) rfl (.cons (k := 10) rfl (.cons (k := 9) rfl (.cons (k := 8) rfl (.cons (k := 6) rfl (.cons (k := 5) rfl (.cons (k := 4) rfl (.cons (k := 2) rfl .nil))))))))) ?_; refine Zk ?_; refine Zk ?_; refine Za (l := [0]) rfl ?_; refine Zc rfl rfl rfl rfl ?_; refine Zg ?_; refine Ze ?_; refine Zad ?_; refine Zl (.cons (k := 13) rfl (.cons (k := 8) rfl (.cons (k := 9) rfl (.cons (k := 10) rfl (.cons (k := 11) rfl (.cons (k := 12) rfl (.cons (k := 6) rfl (.cons (k := 5) rfl (.cons (k := 4) rfl (.cons (k := 2) rfl .nil)))))))))) ?_; refine Zbz (.succ (.succ (.succ (.succ (.succ (.succ .zero)))))) (fun (k : Nat) z => z = [(13, .int .i64 (k : Int)), (8, .int .u32 (((behind wl g k).a : Nat) : Int)), (9, .int .u32 (((behind wl g k).b : Nat) : Int)), (10, .int .u32 (((behind wl g k).c : Nat) : Int)), (11, .int .u32 (((behind wl g k).d : Nat) : Int)), (12, .int .u32 (((behind wl g k).e : Nat) : Int))] ∧ k ≤ 80) (fun k => 80 - k) (0) (⟨rfl, by omega⟩) ?_
      rintro k _ ⟨rfl, hk⟩
      have hg9 := behind_ok (V := wl) k hg
      refine Zk ?_; refine Zk ?_; refine Za (l := [0, 1]) rfl ?_; refine Zd rfl rfl rfl rfl ?_; refine Zaq rfl rfl rfl rfl rfl rfl ?_; refine Zg ?_; refine Ze ?_
      refine Zai rfl (fun hc4 => ?_) (fun hc4 => ?_)
      · first | replace hc4 := dT hc4 | replace hc4 := dF hc4 | replace hc4 := nT hc4 | replace hc4 := nF hc4 | skip
        try simp only [PeerV.eta] at hc4
        first
        | (exfalso; omega)
        | (exfalso; simp [eqX] at hc4; done)
        | contradiction
        | skip
          refine Zah ?_; refine Ze ?_; refine Zk ?_; refine Zad ?_; refine Zk ?_; refine Za (l := [0, 1, 2, 3, 4, 5, 6, 7, 8, 9]) rfl ?_; refine Zd rfl rfl rfl rfl ?_; refine Zd rfl rfl rfl rfl ?_; refine Zd rfl rfl rfl rfl ?_; refine Zd rfl rfl rfl rfl ?_; refine X_fs rfl rfl F.ok79 rfl (rmixed_ok _ k (behind wl g k).b (behind wl g k).c (behind wl g k).d (by omega) hg9.b hg9.c hg9.d) rfl ?_
          rintro _ rfl
          refine Zd rfl rfl rfl rfl ?_; refine Zap rfl rfl rfl rfl rfl ?_; refine Zap rfl rfl rfl rfl rfl ?_; refine Zc rfl rfl rfl rfl ?_; refine Zc rfl rfl rfl rfl ?_; refine Zg ?_; refine Ze ?_; refine Zk ?_; refine Zaf (l := [0, 1, 2, 3, 4, 5, 6, 7, 8, 9, 10, 11, 12, 13]) #[0, 1, 0, 7, 0, 31, 0, 127, 0, 0, 768, 1792, 4095, 8191] _ rfl (by kernel_rfl) (by kernel_rfl) St.drawn (fun _ h => h) ?_; refine Zd rfl rfl rfl rfl ?_; refine X_fs rfl rfl F.ok80 rfl (rLeft_ok _ (behind wl g k).a 5 hg9.a (by decide)) rfl ?_
          rintro _ rfl
          refine Zd rfl rfl rfl rfl ?_; refine Zav rfl rfl rfl rfl rfl (by first | exact Zaa (by decide) (by omega) | exact Zm (by decide) (by omega) | exact Zo (by decide) (by omega) | exact Zn (by decide) (by omega) | exact Zt _ | exact Zz _ | exact Zq _ | exact rfl) rfl ?_; refine Zd rfl rfl rfl rfl ?_; refine Zav rfl rfl rfl rfl rfl (by first | exact Zaa (by decide) (by omega) | exact Zm (by decide) (by omega) | exact Zo (by decide) (by omega) | exact Zn (by decide) (by omega) | exact Zt _ | exact Zz _ | exact Zq _ | exact rfl) rfl ?_; refine Zd rfl rfl rfl rfl ?_; refine Zav rfl rfl rfl rfl rfl (by first | exact Zaa (by decide) (by omega) | exact Zm (by decide) (by omega) | exact Zo (by decide) (by omega) | exact Zn (by decide) (by omega) | exact Zt _ | exact Zz _ | exact Zq _ | exact rfl) rfl ?_
          refine Zd rfl rfl rfl rfl ?_; refine Zd rfl rfl rfl rfl ?_; refine Zab rfl rfl rfl rfl F.elem70 (by first | rfl | exact (Int.toNat_of_nonneg (by omega)).symm) (by first | omega | (simp; done) | (simp; omega)) (by first | exact ⟨_, _, rfl⟩ | assumption | exact SlM.plain (by assumption) (by first | (simp; done) | (simp; omega)) | exact RdS.plain (by assumption) (by first | (simp; done) | (simp; omega)) | exact OSl.plain (by assumption) (by first | (simp; done) | (simp; omega))) rfl ?_
          first | refine Zan rfl rfl rfl (by repeat first | exact List.Mem.head _ | refine List.Mem.tail _ ?_ | refine List.mem_append_right _ ?_) F.lay55 rfl rfl rfl ?_ | refine Zv rfl rfl rfl (by first | assumption | exact SlM.mono (by assumption) (by assumption)) (by first | exact Zb (by omega) | exact List.getElem?_eq_getElem (by omega) | exact rfl | exact Zb (by first | (simp; done) | (simp; omega))) F.lay55 rfl rfl rfl ?_ | refine Zu rfl rfl rfl (by assumption) (by first | exact Zb (by omega) | exact List.getElem?_eq_getElem (by omega) | exact rfl | exact Zb (by first | (simp; done) | (simp; omega))) F.lay55 rfl rfl rfl ?_ | refine Zs rfl rfl rfl (by first | assumption | exact Mem.get_of (by assumption) (by repeat first | assumption | refine Mem.le.trans (by assumption) ?_)) F.lay55 rfl rfl rfl ?_ | refine Zp rfl rfl rfl (by assumption) (by repeat first | exact Rem.here _ | exact Rem.two | apply Rem.skip | apply Rem.over) (by first | exact Zb (by omega) | exact List.getElem?_eq_getElem (by omega) | exact rfl | exact Zb (by first | (simp; done) | (simp; omega))) F.lay55 rfl rfl rfl ?_ | refine Zr rfl rfl rfl (by repeat first | exact List.Mem.head _ | refine List.Mem.tail _ ?_ | refine List.mem_append_right _ ?_) F.lay55 (by first | exact Zbw (by first | omega | decide) | exact Zbk (by first | omega | decide)) rfl ?_
          refine Zav rfl rfl rfl rfl rfl (by first | exact Zaa (by decide) (by omega) | exact Zm (by decide) (by omega) | exact Zo (by decide) (by omega) | exact Zn (by decide) (by omega) | exact Zt _ | exact Zz _ | exact Zq _ | exact rfl) rfl ?_
          rw [round_sum]
          refine Zc rfl rfl rfl rfl ?_; refine Zg ?_; refine Ze ?_; refine Zk ?_; refine Za (l := [0, 1]) rfl ?_; refine Zd rfl rfl rfl rfl ?_; refine Zc rfl rfl rfl rfl ?_; refine Zg ?_; refine Ze ?_; refine Zk ?_; refine Za (l := [0, 1]) rfl ?_; refine Zd rfl rfl rfl rfl ?_; refine Zc rfl rfl rfl rfl ?_; refine Zg ?_; refine Ze ?_; refine Zk ?_; refine Za (l := [0, 1, 2]) rfl ?_; refine Zd rfl rfl rfl rfl ?_; refine X_fs rfl rfl F.ok80 rfl (rLeft_ok _ (behind wl g k).b 30 hg9.b (by decide)) rfl ?_
          rintro _ rfl
          refine Zc rfl rfl rfl rfl ?_; refine Zg ?_; refine Ze ?_; refine Zk ?_; refine Za (l := [0, 1]) rfl ?_; refine Zd rfl rfl rfl rfl ?_; refine Zc rfl rfl rfl rfl ?_; refine Zg ?_; refine Ze ?_; refine Za (l := [0, 1]) rfl ?_; refine Zd rfl rfl rfl rfl ?_; refine Zc rfl rfl rfl rfl ?_; refine Zg ?_; refine Zbs ?_; refine Ze ?_; refine Za (l := [0, 1, 2]) rfl ?_; refine Zd rfl rfl rfl rfl ?_; refine Zav rfl rfl rfl rfl rfl (by first | exact Zaa (by decide) (by omega) | exact Zm (by decide) (by omega) | exact Zo (by decide) (by omega) | exact Zn (by decide) (by omega) | exact Zt _ | exact Zz _ | exact Zq _ | exact rfl) rfl ?_; refine Zc rfl rfl rfl rfl ?_; refine Zg ?_; refine Zbp (a' := [(13, _), (8, _), (9, _), (10, _), (11, _), (12, _)]) (k + 1) (.cons (k := 13) rfl (.cons (k := 8) rfl (.cons (k := 9) rfl (.cons (k := 10) rfl (.cons (k := 11) rfl (.cons (k := 12) rfl (.cons (k := 6) rfl (.cons (k := 5) rfl (.cons (k := 4) rfl (.cons (k := 2) rfl (.nil))))))))))) (fun w hw => by first | exact hw | exact hw.cnt (by intro zz; first | exact Nat.le_refl _ | (simp only [Zh, Zf, Zi, cat, List.append_eq, List.append_assoc, List.cons_append, List.nil_append, List.append_nil]; omega) | (simp only [Zh, Zf, Zi, cat, List.append_eq, List.append_assoc, List.cons_append, List.nil_append, List.append_nil, PeerV.segs]; omega))) ?_ ?_
          · refine ⟨?_, by omega⟩
            rw [behind_succ (V := wl) (h := g) (t := k) (by omega)]
            rfl
          · omega
      · first | replace hc4 := dT hc4 | replace hc4 := dF hc4 | replace hc4 := nT hc4 | replace hc4 := nF hc4 | skip
        try simp only [PeerV.eta] at hc4
        first
        | (exfalso; omega)
        | (exfalso; simp [eqX] at hc4; done)
        | contradiction
        | skip
          refine Zbl ?_; refine Zao ?_; refine Zao ?_; refine Zbx ?_; refine Ze ?_; refine Zl (.cons (k := 8) rfl (.cons (k := 9) rfl (.cons (k := 10) rfl (.cons (k := 11) rfl (.cons (k := 12) rfl (.cons (k := 5) rfl (.cons (k := 4) rfl (.cons (k := 2) rfl .nil)))))))) ?_; refine Zk ?_; refine Za (l := [0, 1, 2, 3, 4, 5, 6, 7, 8, 9, 10, 11, 12, 13, 14, 15, 16, 17, 18, 19, 20, 21, 22]) rfl ?_
          obtain rfl : k = 80 := by omega
          refine Zw rfl rfl rfl rfl F.arr57 (by first | rfl | exact (Int.toNat_of_nonneg (by omega)).symm) (by first | omega | decide | (simp; omega)) rfl ?_; refine Zr rfl rfl rfl (by repeat first | exact List.Mem.head _ | refine List.Mem.tail _ ?_ | refine List.mem_append_right _ ?_) F.lay55 (stCell _ (by decide)) rfl ?_; refine Zd rfl rfl rfl rfl ?_; refine Zav rfl rfl rfl rfl rfl (by first | exact Zaa (by decide) (by omega) | exact Zm (by decide) (by omega) | exact Zo (by decide) (by omega) | exact Zn (by decide) (by omega) | exact Zt _ | exact Zz _ | exact Zq _ | exact rfl) rfl ?_
          rw [add_sum]
          refine Zw rfl rfl rfl rfl F.arr57 (by first | rfl | exact (Int.toNat_of_nonneg (by omega)).symm) (by first | omega | decide | (simp; omega)) rfl ?_; refine Zr rfl rfl rfl (by repeat first | exact List.Mem.head _ | refine List.Mem.tail _ ?_ | refine List.mem_append_right _ ?_) F.lay55 (stCell _ (by decide)) rfl ?_; refine Zd rfl rfl rfl rfl ?_; refine Zav rfl rfl rfl rfl rfl (by first | exact Zaa (by decide) (by omega) | exact Zm (by decide) (by omega) | exact Zo (by decide) (by omega) | exact Zn (by decide) (by omega) | exact Zt _ | exact Zz _ | exact Zq _ | exact rfl) rfl ?_
          rw [add_sum]
          refine Zw rfl rfl rfl rfl F.arr57 (by first | rfl | exact (Int.toNat_of_nonneg (by omega)).symm) (by first | omega | decide | (simp; omega)) rfl ?_; refine Zr rfl rfl rfl (by repeat first | exact List.Mem.head _ | refine List.Mem.tail _ ?_ | refine List.mem_append_right _ ?_) F.lay55 (stCell _ (by decide)) rfl ?_; refine Zd rfl rfl rfl rfl ?_; refine Zav rfl rfl rfl rfl rfl (by first | exact Zaa (by decide) (by omega) | exact Zm (by decide) (by omega) | exact Zo (by decide) (by omega) | exact Zn (by decide) (by omega) | exact Zt _ | exact Zz _ | exact Zq _ | exact rfl) rfl ?_
          rw [add_sum]
          refine Zw rfl rfl rfl rfl F.arr57 (by first | rfl | exact (Int.toNat_of_nonneg (by omega)).symm) (by first | omega | decide | (simp; omega)) rfl ?_; refine Zr rfl rfl rfl (by repeat first | exact List.Mem.head _ | refine List.Mem.tail _ ?_ | refine List.mem_append_right _ ?_) F.lay55 (stCell _ (by decide)) rfl ?_; refine Zd rfl rfl rfl rfl ?_; refine Zav rfl rfl rfl rfl rfl (by first | exact Zaa (by decide) (by omega) | exact Zm (by decide) (by omega) | exact Zo (by decide) (by omega) | exact Zn (by decide) (by omega) | exact Zt _ | exact Zz _ | exact Zq _ | exact rfl) rfl ?_
          rw [add_sum]
          refine Zw rfl rfl rfl rfl F.arr57 (by first | rfl | exact (Int.toNat_of_nonneg (by omega)).symm) (by first | omega | decide | (simp; omega)) rfl ?_; refine Zr rfl rfl rfl (by repeat first | exact List.Mem.head _ | refine List.Mem.tail _ ?_ | refine List.mem_append_right _ ?_) F.lay55 (stCell _ (by decide)) rfl ?_; refine Zd rfl rfl rfl rfl ?_; refine Zav rfl rfl rfl rfl rfl (by first | exact Zaa (by decide) (by omega) | exact Zm (by decide) (by omega) | exact Zo (by decide) (by omega) | exact Zn (by decide) (by omega) | exact Zt _ | exact Zz _ | exact Zq _ | exact rfl) rfl ?_
          rw [add_sum]
          refine X_buildC (v := aggV [stSeg (⟨add32 g.a (behind wl g 80).a, add32 g.b (behind wl g 80).b, add32 g.c (behind wl g 80).c, add32 g.d (behind wl g 80).d, add32 g.e (behind wl g 80).e⟩ : St5)]) rfl rfl (fun a ha => by simp [show a.eval (.tmp 70) = .int .u32 ((add32 g.a (behind wl g 80).a : Nat) : Int) from ha.ev rfl, show a.eval (.tmp 74) = .int .u32 ((add32 g.b (behind wl g 80).b : Nat) : Int) from ha.ev rfl, show a.eval (.tmp 78) = .int .u32 ((add32 g.c (behind wl g 80).c : Nat) : Int) from ha.ev rfl, show a.eval (.tmp 82) = .int .u32 ((add32 g.d (behind wl g 80).d : Nat) : Int) from ha.ev rfl, show a.eval (.tmp 86) = .int .u32 ((add32 g.e (behind wl g 80).e : Nat) : Int) from ha.ev rfl]) (F.bst ((add32 g.a (behind wl g 80).a : Nat) : Int) ((add32 g.b (behind wl g 80).b : Nat) : Int) ((add32 g.c (behind wl g 80).c : Nat) : Int) ((add32 g.d (behind wl g 80).d : Nat) : Int) ((add32 g.e (behind wl g 80).e : Nat) : Int)) rfl ?_
          refine Zbi rfl rfl rfl rfl (by constructor) (by first | ((try simp only [cat, List.cons_append, List.nil_append, List.append_nil]); (repeat (first | exact Zag | refine Zau ?_ | (refine Zae ?_ ?_; rfl))); done) | exact PeerV.flat _ | exact PeerV.flat ⟨_, _⟩ | exact stFlat _ | exact Zay _ | exact Zaz | (simp [flat, cat, Segs.cells, Seg.cells, Value.oneCell']; done)) (by repeat first | exact Upd.head | apply Upd.tail | apply Upd.over) F.lay57 rfl rfl ?_; refine Zc rfl rfl rfl rfl ?_; refine Zg ?_; refine Ze ?_; refine Zl (.cons (k := 5) rfl (.cons (k := 4) rfl .nil)) ?_; refine Zam ?_
          refine Zal (.inr rfl) (.cell rfl (by repeat first | exact List.Mem.head _ | refine List.Mem.tail _ ?_ | refine List.mem_append_right _ ?_) F.lay57 rfl rfl (.tmp rfl .nil)) (fun w hw => ?_)
          refine ⟨_, M1, rfl, hm1, hw.cnt (by intro zz; first | exact Nat.le_refl _ | (simp only [Zh, Zf, Zi, cat, List.append_eq, List.append_assoc, List.cons_append, List.nil_append, List.append_nil]; omega) | (simp only [Zh, Zf, Zi, cat, List.append_eq, List.append_assoc, List.cons_append, List.nil_append, List.append_nil, PeerV.segs]; omega)), ?_⟩
          subst hwl
          rw [← stepN_is (by rw [Zas, hs])]
          rfl
end Go.Proofs.YtpfdblknaihidaaDoor
namespace Go.Proofs.YtpfdblknaihidaaDoor
open Go.Esp
theorem rBytes_ok (M : Mem) (g : St5) (hg : g.ok) : Esp.Fn Tryd.prog 56 [aggV [stSeg g]] M (fun M' v => v = aggV [idSeg (stPlc g)]) := by
  refine Zbv Tryd.func56 rfl Tryd.ntmps56 rfl ?_; intro H
  refine Zk ?_; refine Za (l := [0, 1]) rfl ?_
  refine Zcj rfl rfl rfl (by constructor) rfl ?_; intro b1
  refine Zbm rfl rfl F.zero34 (by constructor) rfl ?_; intro b2
  refine Zg ?_; refine Ze ?_; refine Zl (.cons (k := 2) rfl (.cons (k := 1) rfl .nil)) ?_; refine Zk ?_; refine Za (l := [0]) rfl ?_
  refine Zbm rfl rfl F.zero34 (by constructor) rfl ?_; intro b3
  refine Zg ?_; refine Ze ?_; refine Zk ?_; refine Zk ?_; refine Za (l := [0]) rfl ?_; refine Zc rfl rfl rfl rfl ?_; refine Zg ?_; refine Ze ?_; refine Zad ?_; refine Zl (.cons (k := 4) rfl (.cons (k := 3) rfl (.cons (k := 2) rfl (.cons (k := 1) rfl .nil)))) ?_; refine Zbu (Hin := [(b3, rowO [idSeg 0] 34)]) (.succ .zero) (by repeat first | exact Rem.here _ | exact Rem.two | apply Rem.skip | apply Rem.over) (fun (i : Nat) M1 h1 z => M1 = M ∧ z = [(4, .int .i64 (i : Int))] ∧ i ≤ 5 ∧ h1 = [(b3, rowO [.arr 20 (fillV (stPlc g) i 0)] 34)]) (fun i => 5 - i) (0) (⟨rfl, rfl, by omega, by rw [fillV_none]; rfl⟩) ?_
  rintro i M1 h1 z hm1 ⟨hM1, rfl, hi, rfl⟩
  subst hM1
  refine Zk ?_; refine Zk ?_; refine Za (l := [0, 1]) rfl ?_; refine Zd rfl rfl rfl rfl ?_; refine Zaq rfl rfl rfl rfl rfl rfl ?_; refine Zg ?_; refine Ze ?_
  refine Zai rfl (fun hc4 => ?_) (fun hc4 => ?_)
  · first | replace hc4 := dT hc4 | replace hc4 := dF hc4 | replace hc4 := nT hc4 | replace hc4 := nF hc4 | skip
    try simp only [PeerV.eta] at hc4
    first
    | (exfalso; omega)
    | (exfalso; simp [eqX] at hc4; done)
    | contradiction
    | skip
      refine Zah ?_; refine Ze ?_; refine Zk ?_; refine Zad ?_; refine Zk ?_; refine Za (l := [0, 1, 2, 3]) rfl ?_; refine Zd rfl rfl rfl rfl ?_; refine Zw rfl rfl rfl rfl F.arr57 (by first | rfl | exact (Int.toNat_of_nonneg (by omega)).symm) (by first | omega | decide | (simp; omega)) rfl ?_; refine Zr rfl rfl rfl (by repeat first | exact List.Mem.head _ | refine List.Mem.tail _ ?_ | refine List.mem_append_right _ ?_) F.lay55 (stCell _ (by omega)) rfl ?_; refine Zc rfl rfl rfl rfl ?_; refine Zg ?_; refine Ze ?_; refine Zk ?_; refine Za (l := [0]) rfl ?_; refine Zc rfl rfl rfl rfl ?_; refine Zg ?_; refine Ze ?_; refine Zad ?_; refine Zl (.cons (k := 6) rfl (.cons (k := 5) rfl (.cons (k := 13) rfl (.cons (k := 12) rfl (.cons (k := 11) rfl (.cons (k := 8) rfl (.cons (k := 7) rfl (.cons (k := 4) rfl (.cons (k := 3) rfl (.cons (k := 2) rfl (.cons (k := 1) rfl .nil))))))))))) ?_
      refine Zbu (Hin := [(b3, rowO [.arr 20 (fillV (stPlc g) i 0)] 34)]) (.succ (.succ .zero)) (by repeat first | exact Rem.here _ | exact Rem.two | apply Rem.skip | apply Rem.over) (fun (q : Nat) M2 h2 z => M2 = M1 ∧ z = [(6, .int .i64 (3 - (q : Int))), (5, .int .u32 ((g.nth i / 256 ^ q : Nat) : Int))] ∧ q ≤ 4 ∧ h2 = [(b3, rowO [.arr 20 (fillV (stPlc g) i q)] 34)]) (fun q => 4 - q) (0) (⟨rfl, by simp, by omega, rfl⟩) ?_
      rintro q M2 h2 z hm2 ⟨hM2, rfl, hq, rfl⟩
      subst hM2
      have hgi := hg.nth i
      have hv9 : g.nth i / 256 ^ q < 4294967296 := Nat.lt_of_le_of_lt (Nat.div_le_self _ _) hgi
      refine Zk ?_; refine Zk ?_; refine Za (l := [0, 1]) rfl ?_; refine Zd rfl rfl rfl rfl ?_; refine Zaq rfl rfl rfl rfl rfl rfl ?_; refine Zg ?_; refine Ze ?_
      refine Zai rfl (fun hc5 => ?_) (fun hc5 => ?_)
      · first | replace hc5 := dT hc5 | replace hc5 := dF hc5 | replace hc5 := nT hc5 | replace hc5 := nF hc5 | skip
        try simp only [PeerV.eta] at hc5
        first
        | (exfalso; omega)
        | (exfalso; simp [eqX] at hc5; done)
        | contradiction
        | skip
          refine Zah ?_; refine Ze ?_; refine Zk ?_; refine Zad ?_; refine Zk ?_; refine Za (l := [0, 1, 2, 3, 4, 5, 6, 7, 8]) rfl ?_; refine Zd rfl rfl rfl rfl ?_; refine Zav rfl rfl rfl rfl rfl (by first | exact Zaa (by decide) (by omega) | exact Zm (by decide) (by omega) | exact Zo (by decide) (by omega) | exact Zn (by decide) (by omega) | exact Zt _ | exact Zz _ | exact Zq _ | exact rfl) rfl ?_; refine Zd rfl rfl rfl rfl ?_; refine Zav rfl rfl rfl rfl rfl (by first | exact Zaa (by decide) (by omega) | exact Zm (by decide) (by omega) | exact Zo (by decide) (by omega) | exact Zn (by decide) (by omega) | exact Zt _ | exact Zz _ | exact Zq _ | exact rfl) rfl ?_
          rw [show (4 : Int) * (i : Int) + (3 - (q : Int)) = ((4 * i + (3 - q) : Nat) : Int) by omega]
          refine Zd rfl rfl rfl rfl ?_; refine Zck rfl rfl rfl rfl (by first | decide | omega) (by first | exact Zch (by omega) | rfl) rfl ?_; refine Zci rfl rfl rfl Tryd.underlying55 Tryd.underlying5 (by first | exact Zaa (by decide) (by omega) | exact Zm (by decide) (by omega) | exact Zo (by decide) (by omega) | exact Zn (by decide) (by omega) | exact Zt _ | exact Zz _ | exact Zq _ | exact rfl) rfl ?_; refine Zw rfl rfl rfl rfl F.arr34 (by first | rfl | exact (Int.toNat_of_nonneg (by omega)).symm) (by first | omega | decide | (simp; omega)) rfl ?_
          first | refine Zbi rfl rfl rfl rfl (by constructor) (by first | ((try simp only [cat, List.cons_append, List.nil_append, List.append_nil]); (repeat (first | exact Zag | refine Zau ?_ | (refine Zae ?_ ?_; rfl))); done) | (simp [flat, cat, Segs.cells, Seg.cells, Value.oneCell']; done)) (by repeat first | exact Upd.head | apply Upd.tail | apply Upd.over) F.lay5 rfl rfl ?_ | refine X_store_cell rfl rfl rfl rfl rfl rfl (by repeat first | exact Upd.head | apply Upd.tail | apply Upd.over) F.lay5 (arr_len (by first | omega | decide)) (arr_set (by first | omega | decide)) ?_
          rw [fillV_step (stPlc g) (i := i) (q := q) (by omega) (by omega) (by rw [byte_div hg (by omega) (by omega)]; exact u8_tmod _)]
          refine Zg ?_; refine Ze ?_; refine Za (l := [0, 1, 2]) rfl ?_; refine Zd rfl rfl rfl rfl ?_; refine X_quo rfl rfl rfl rfl (by first | decide | omega) (by first | exact quo_in rfl (by omega) (by omega) (by omega) | rfl) rfl ?_; refine Zc rfl rfl rfl rfl ?_; refine Zg ?_; refine Zbs ?_; refine Ze ?_; refine Za (l := [0, 1, 2]) rfl ?_; refine Zd rfl rfl rfl rfl ?_; refine Zav rfl rfl rfl rfl rfl (by first | exact Zaa (by decide) (by omega) | exact Zm (by decide) (by omega) | exact Zo (by decide) (by omega) | exact Zn (by decide) (by omega) | exact Zt _ | exact Zz _ | exact Zq _ | exact rfl) rfl ?_; refine Zc rfl rfl rfl rfl ?_; refine Zg ?_; refine Zbj (a' := [(6, _), (5, _)]) (q + 1) ([(b3, rowO [.arr 20 (fillV (stPlc g) i (q + 1))] 34)]) (.cons (k := 6) rfl (.cons (k := 5) rfl (.cons (k := 13) rfl (.cons (k := 12) rfl (.cons (k := 11) rfl (.cons (k := 8) rfl (.cons (k := 7) rfl (.cons (k := 4) rfl (.cons (k := 3) rfl (.cons (k := 2) rfl (.cons (k := 1) rfl (.nil)))))))))))) (by first | exact Mem.le.refl _ | assumption | (repeat first | assumption | refine Mem.le.trans (by assumption) ?_)) (fun w hw => by first | exact hw | exact hw.cnt (by intro zz; first | exact Nat.le_refl _ | (simp only [Zh, Zf, Zi, cat, List.append_eq, List.append_assoc, List.cons_append, List.nil_append, List.append_nil]; omega) | (simp only [Zh, Zf, Zi, cat, List.append_eq, List.append_assoc, List.cons_append, List.nil_append, List.append_nil, PeerV.segs]; omega))) ?_ ?_
          · refine ⟨rfl, ?_, by omega, rfl⟩
            rw [u32_tdiv hv9, Nat.div_div_eq_div_mul, ← Nat.pow_succ, show (3 : Int) - (q : Int) - 1 = 3 - ((q + 1 : Nat) : Int) by omega]
          · omega
      · first | replace hc5 := dT hc5 | replace hc5 := dF hc5 | replace hc5 := nT hc5 | replace hc5 := nF hc5 | skip
        try simp only [PeerV.eta] at hc5
        first
        | (exfalso; omega)
        | (exfalso; simp [eqX] at hc5; done)
        | contradiction
        | skip
          refine Zbl ?_; refine Zao ?_; refine Zao ?_; refine Zbx ?_; refine Zbs ?_; refine Ze ?_; refine Za (l := [0, 1, 2]) rfl ?_; refine Zd rfl rfl rfl rfl ?_; refine Zav rfl rfl rfl rfl rfl (by first | exact Zaa (by decide) (by omega) | exact Zm (by decide) (by omega) | exact Zo (by decide) (by omega) | exact Zn (by decide) (by omega) | exact Zt _ | exact Zz _ | exact Zq _ | exact rfl) rfl ?_; refine Zc rfl rfl rfl rfl ?_; refine Zg ?_; refine Zbj (a' := [(4, _)]) (i + 1) ([(b3, rowO [.arr 20 (fillV (stPlc g) i q)] 34)]) (.cons (k := 4) rfl (.cons (k := 3) rfl (.cons (k := 2) rfl (.cons (k := 1) rfl (.nil))))) (by first | exact Mem.le.refl _ | assumption | (repeat first | assumption | refine Mem.le.trans (by assumption) ?_)) (fun w hw => by first | exact hw | exact hw.cnt (by intro zz; first | exact Nat.le_refl _ | (simp only [Zh, Zf, Zi, cat, List.append_eq, List.append_assoc, List.cons_append, List.nil_append, List.append_nil]; omega) | (simp only [Zh, Zf, Zi, cat, List.append_eq, List.append_assoc, List.cons_append, List.nil_append, List.append_nil, PeerV.segs]; omega))) ?_ ?_
          · refine ⟨rfl, rfl, by omega, ?_⟩
            obtain rfl : q = 4 := by omega
            rw [fillV_word]
          · omega
  · first | replace hc4 := dT hc4 | replace hc4 := dF hc4 | replace hc4 := nT hc4 | replace hc4 := nF hc4 | skip
    try simp only [PeerV.eta] at hc4
    first
    | (exfalso; omega)
    | (exfalso; simp [eqX] at hc4; done)
    | contradiction
    | skip
      refine Zbl ?_; refine Zao ?_; refine Zao ?_; refine Zbx ?_; refine Ze ?_; refine Zl (.cons (k := 3) rfl (.cons (k := 2) rfl .nil)) ?_; refine Zk ?_; refine Za (l := [0, 1]) rfl ?_
      obtain rfl : i = 5 := by omega
      rw [fillV_all]
      rw [show (Seg.arr 20 (idV (stPlc g))) = idSeg (stPlc g) from rfl]
      first | refine Zan rfl rfl rfl (by repeat first | exact List.Mem.head _ | refine List.Mem.tail _ ?_ | refine List.mem_append_right _ ?_) F.lay34 rfl rfl rfl ?_ | refine Zv rfl rfl rfl (by first | assumption | exact SlM.mono (by assumption) (by assumption)) (by first | exact Zb (by omega) | exact List.getElem?_eq_getElem (by omega) | exact rfl | exact Zb (by first | (simp; done) | (simp; omega))) F.lay34 rfl rfl rfl ?_ | refine Zu rfl rfl rfl (by assumption) (by first | exact Zb (by omega) | exact List.getElem?_eq_getElem (by omega) | exact rfl | exact Zb (by first | (simp; done) | (simp; omega))) F.lay34 rfl rfl rfl ?_ | refine Zs rfl rfl rfl (by first | assumption | exact Mem.get_of (by assumption) (by repeat first | assumption | refine Mem.le.trans (by assumption) ?_)) F.lay34 rfl rfl rfl ?_ | refine Zp rfl rfl rfl (by assumption) (by repeat first | exact Rem.here _ | exact Rem.two | apply Rem.skip | apply Rem.over) (by first | exact Zb (by omega) | exact List.getElem?_eq_getElem (by omega) | exact rfl | exact Zb (by first | (simp; done) | (simp; omega))) F.lay34 rfl rfl rfl ?_
      refine Zbi rfl rfl rfl rfl (by constructor) (by first | ((try simp only [cat, List.cons_append, List.nil_append, List.append_nil]); (repeat (first | exact Zag | refine Zau ?_ | (refine Zae ?_ ?_; rfl))); done) | exact PeerV.flat _ | exact PeerV.flat ⟨_, _⟩ | exact stFlat _ | exact Zay _ | exact Zaz | (simp [flat, cat, Segs.cells, Seg.cells, Value.oneCell']; done)) (by repeat first | exact Upd.head | apply Upd.tail | apply Upd.over) F.lay34 rfl rfl ?_; refine Zg ?_; refine Ze ?_; refine Zl (.cons (k := 2) rfl .nil) ?_; refine Zam ?_
      refine Zal (.inr rfl) (.cell rfl (by repeat first | exact List.Mem.head _ | refine List.Mem.tail _ ?_ | refine List.mem_append_right _ ?_) F.lay34 rfl rfl .nil) (fun w hw => ?_)
      exact ⟨_, M1, rfl, (by first | exact Mem.le.refl _ | assumption | exact Mem.le.trans (by assumption) (by assumption) | exact Mem.le.trans (by assumption) (Mem.le.trans (by assumption) (by assumption))), hw.cnt (by intro zz; first | exact Nat.le_refl _ | (simp only [Zh, Zf, Zi, cat, List.append_eq, List.append_assoc, List.cons_append, List.nil_append, List.append_nil]; omega) | (simp only [Zh, Zf, Zi, cat, List.append_eq, List.append_assoc, List.cons_append, List.nil_append, List.append_nil, PeerV.segs]; omega)), rfl⟩
end Go.Proofs.YtpfdblknaihidaaDoor
namespace Go.Proofs.YtpfdblknaihidaaDoor
open Go.Esp
theorem rPad_ok (M : Mem) (s : ByteArray) (hs : s.size ≤ 4096) : Fs Tryd.prog 53 [.string s] M (fun v => ∃ p : ByteArray, v = .tuple #[.string p, .int .i64 0] ∧ natsOf p = padN (natsOf s)) := by
  refine Zbd Tryd.func53 rfl Tryd.ntmps53 rfl ?_; intro H
  refine Zk ?_; refine Za (l := [0, 1]) rfl ?_; refine Zc rfl rfl rfl rfl ?_; refine Zc rfl rfl rfl rfl ?_; refine Zg ?_; refine Ze ?_; refine Zk ?_; refine Zk ?_; refine Za (l := [0, 1, 2]) rfl ?_; refine Zd rfl rfl rfl rfl ?_; refine X_len_str rfl rfl rfl rfl Tryd.underlying9 rfl ?_; refine Zaq rfl rfl rfl rfl rfl rfl ?_; refine Zg ?_; refine Ze ?_; refine Zl (.cons (k := 10) rfl (.cons (k := 3) rfl (.cons (k := 2) rfl (.cons (k := 0) rfl .nil)))) ?_
  refine Zai rfl (fun hc1 => ?_) (fun hc1 => ?_)
  · first | replace hc1 := dT hc1 | replace hc1 := dF hc1 | replace hc1 := nT hc1 | replace hc1 := nF hc1 | skip
    try simp only [PeerV.eta] at hc1
    first
    | (exfalso; omega)
    | (exfalso; simp [eqX] at hc1; done)
    | contradiction
    | skip
      refine Zk ?_; refine Za (l := [0, 1]) rfl ?_; refine Zc rfl rfl rfl rfl ?_; refine Zc rfl rfl rfl rfl ?_; refine Zg ?_; refine Ze ?_; refine Zl (.cons (k := 3) rfl (.cons (k := 2) rfl (.cons (k := 0) rfl .nil))) ?_; refine Zam ?_; refine Zar ?_
      refine Zal (.inr rfl) (.tmp rfl (.tmp rfl .nil)) (fun w hw => ?_)
      exact ⟨_, rfl, hw.cnt (by intro zz; first | exact Nat.le_refl _ | (simp only [Zh, Zf, Zi, cat, List.append_eq, List.append_assoc, List.cons_append, List.nil_append, List.append_nil]; omega) | (simp only [Zh, Zf, Zi, cat, List.append_eq, List.append_assoc, List.cons_append, List.nil_append, List.append_nil, PeerV.segs]; omega)), _, rfl, padR_is hq ht⟩
  · first | replace hc1 := dT hc1 | replace hc1 := dF hc1 | replace hc1 := nT hc1 | replace hc1 := nF hc1 | skip
    try simp only [PeerV.eta] at hc1
    first
    | (exfalso; omega)
    | (exfalso; simp [eqX] at hc1; done)
    | contradiction
    | skip
      refine Zah ?_; refine Ze ?_; refine Zl (.cons (k := 3) rfl (.cons (k := 2) rfl (.cons (k := 0) rfl .nil))) ?_; refine Zk ?_; refine Za (l := [0, 1, 2]) rfl ?_; refine Zd rfl rfl rfl rfl ?_; refine Zcl rfl rfl rfl rfl (by show s.size + 1 ≤ _; omega) rfl rfl ?_; refine Zc rfl rfl rfl rfl ?_; refine Zg ?_; refine Ze ?_; refine Zl (.cons (k := 4) rfl (.cons (k := 3) rfl (.cons (k := 2) rfl (.cons (k := 0) rfl .nil)))) ?_; refine Zk ?_; refine Zad ?_; refine Zl (.cons (k := 4) rfl (.cons (k := 3) rfl (.cons (k := 2) rfl (.cons (k := 0) rfl .nil)))) ?_; refine Zbz (.succ .zero) (fun (k : Nat) z => ∃ q, z = [(4, .string q)] ∧ k ≤ FL s.size ∧ Added s q k) (fun k => FL s.size - k) (0) (⟨_, rfl, by omega, Added.start s⟩) ?_
      rintro k _ ⟨q, rfl, hk, hq⟩
      have hqs := hq.size
      have hf9 := FL_lt s.size
      refine Zk ?_; refine Zk ?_; refine Za (l := [0, 1, 2, 3]) rfl ?_; refine Zd rfl rfl rfl rfl ?_; refine X_len_str rfl rfl rfl rfl Tryd.underlying9 rfl ?_; refine Zck rfl rfl rfl rfl (by first | decide | omega) (by first | exact Zch (by omega) | rfl) rfl ?_; refine Zaq rfl rfl rfl rfl rfl rfl ?_; refine Zg ?_; refine Ze ?_
      refine Zai rfl (fun hc2 => ?_) (fun hc2 => ?_)
      · first | replace hc2 := dT hc2 | replace hc2 := dF hc2 | replace hc2 := nT hc2 | replace hc2 := nF hc2 | skip
        try simp only [PeerV.eta] at hc2
        first
        | (exfalso; omega)
        | (exfalso; simp [eqX] at hc2; done)
        | contradiction
        | skip
          refine Zah ?_; refine Ze ?_; refine Zad ?_; refine Za (l := [0, 1, 2]) rfl ?_; refine Zd rfl rfl rfl rfl ?_; refine Zcl rfl rfl rfl rfl (by show q.size + 1 ≤ _; omega) rfl rfl ?_; refine Zc rfl rfl rfl rfl ?_; refine Zg ?_; refine Zbs ?_; refine Zbp (a' := [(4, _)]) (k + 1) (.cons (k := 4) rfl (.cons (k := 3) rfl (.cons (k := 2) rfl (.cons (k := 0) rfl (.nil))))) (fun w hw => by first | exact hw | exact hw.cnt (by intro zz; first | exact Nat.le_refl _ | (simp only [Zh, Zf, Zi, cat, List.append_eq, List.append_assoc, List.cons_append, List.nil_append, List.append_nil]; omega) | (simp only [Zh, Zf, Zi, cat, List.append_eq, List.append_assoc, List.cons_append, List.nil_append, List.append_nil, PeerV.segs]; omega))) ?_ ?_
          · exact ⟨_, rfl, FL_more hk (by omega), hq.more⟩
          · have := FL_more hk (by omega); omega
      · first | replace hc2 := dT hc2 | replace hc2 := dF hc2 | replace hc2 := nT hc2 | replace hc2 := nF hc2 | skip
        try simp only [PeerV.eta] at hc2
        first
        | (exfalso; omega)
        | (exfalso; simp [eqX] at hc2; done)
        | contradiction
        | skip
          refine Zbl ?_; refine Zao ?_; refine Zao ?_; refine Zbx ?_; refine Ze ?_; refine Zl (.cons (k := 4) rfl (.cons (k := 3) rfl (.cons (k := 2) rfl (.cons (k := 0) rfl .nil)))) ?_; refine Zk ?_; refine Za (l := [0, 1, 2, 3]) rfl ?_
          obtain rfl := FL_done hk (by omega)
          refine Zd rfl rfl rfl rfl ?_; refine X_len_str rfl rfl rfl rfl Tryd.underlying9 rfl ?_; refine Zav rfl rfl rfl rfl rfl (by first | exact Zaa (by decide) (by omega) | exact Zm (by decide) (by omega) | exact Zo (by decide) (by omega) | exact Zn (by decide) (by omega) | exact Zt _ | exact Zz _ | exact Zq _ | exact rfl) rfl ?_
          rw [show (8 : Int) * (s.size : Int) = ((8 * s.size : Nat) : Int) by omega]
          refine Zc rfl rfl rfl rfl ?_; refine Zg ?_; refine Ze ?_; refine Zl (.cons (k := 5) rfl (.cons (k := 4) rfl (.cons (k := 3) rfl (.cons (k := 2) rfl .nil)))) ?_; refine Zk ?_; refine Za (l := [0]) rfl ?_; refine Zc rfl rfl rfl rfl ?_; refine Zg ?_; refine Ze ?_; refine Zk ?_; refine Zk ?_; refine Za (l := [0]) rfl ?_; refine Zc rfl rfl rfl rfl ?_; refine Zg ?_; refine Ze ?_; refine Zad ?_; refine Zl (.cons (k := 7) rfl (.cons (k := 6) rfl (.cons (k := 5) rfl (.cons (k := 4) rfl (.cons (k := 3) rfl (.cons (k := 2) rfl .nil)))))) ?_; refine Zbu (Hin := []) (.succ (.succ (.succ .zero))) (by repeat first | exact Rem.here _ | exact Rem.two | apply Rem.skip | apply Rem.over) (fun (i : Nat) M1 h1 z => ∃ tl v, M1 = M ∧ h1 = [] ∧ z = [(7, .int .i64 (i : Int)), (6, .string tl), (5, .int .i64 ((v : Nat) : Int))] ∧ i ≤ 8 ∧ TailOf (8 * s.size) i tl ∧ v = 8 * s.size / 256 ^ i) (fun i => 8 - i) (0) (⟨_, _, rfl, rfl, rfl, by omega, TailOf.none _, by simp⟩) ?_
          rintro i M1 h1 z hm1 ⟨tl, v, hM1, rfl, rfl, hi, ht, hv⟩
          subst hM1
          have hts := ht.size hi
          have hv9 : v ≤ 8 * s.size := hv ▸ Nat.div_le_self _ _
          refine Zk ?_; refine Zk ?_; refine Za (l := [0, 1]) rfl ?_; refine Zd rfl rfl rfl rfl ?_; refine Zaq rfl rfl rfl rfl rfl rfl ?_; refine Zg ?_; refine Ze ?_
          refine Zai rfl (fun hc3 => ?_) (fun hc3 => ?_)
          · first | replace hc3 := dT hc3 | replace hc3 := dF hc3 | replace hc3 := nT hc3 | replace hc3 := nF hc3 | skip
            try simp only [PeerV.eta] at hc3
            first
            | (exfalso; omega)
            | (exfalso; simp [eqX] at hc3; done)
            | contradiction
            | skip
              refine Zah ?_; refine Ze ?_; refine Zk ?_; refine Zad ?_; refine Zk ?_; refine C_regionW (l := [0, 1, 2, 3, 4, 5, 6, 7]) [4] rfl ?_; refine Zd rfl rfl rfl rfl ?_; refine Zck rfl rfl rfl rfl (by first | decide | omega) (by first | exact Zch (by omega) | rfl) rfl ?_; refine Zci rfl rfl rfl Tryd.underlying3 Tryd.underlying5 (by first | exact Zaa (by decide) (by omega) | exact Zm (by decide) (by omega) | exact Zo (by decide) (by omega) | exact Zn (by decide) (by omega) | exact Zt _ | exact Zz _ | exact Zq _ | exact rfl) rfl ?_
              rw [show (v : Int) % 256 = ((v % 256 : Nat) : Int) by omega]
              refine Zba rfl rfl F.elem67 F.zero5 rfl rfl (.cons rfl (by constructor) .nil) rfl rfl (by simp only [List.map_cons, List.map_nil] <;> rfl) rfl ?_; intro b4 hob5
              refine X_convSA (l := [v % 256]) rfl rfl rfl rfl (OSl.srcAll (by assumption) (by repeat first | exact Rem.here _ | exact Rem.two | apply Rem.skip | apply Rem.over) (fun u hu => by rw [u8_cells] at hu; obtain ⟨z, -, rfl⟩ := List.mem_map.1 hu; rfl)) F.elem67 Tryd.underlying5 Tryd.underlying9 rfl rfl ?_; refine Zd rfl rfl rfl rfl ?_; refine Zcl rfl rfl rfl rfl (by rw [strOfNums_size]; show 1 + tl.size ≤ _; omega) rfl rfl ?_; refine Zc rfl rfl rfl rfl ?_; refine Zg ?_; refine K_unw ?_; refine Ze ?_; refine Za (l := [0, 1, 2]) rfl ?_; refine Zd rfl rfl rfl rfl ?_; refine X_quo rfl rfl rfl rfl (by first | decide | omega) (by first | exact quo_in rfl (by omega) (by omega) (by omega) | rfl) rfl ?_; refine Zc rfl rfl rfl rfl ?_; refine Zg ?_; refine Zbs ?_; refine Ze ?_; refine Za (l := [0, 1, 2]) rfl ?_; refine Zd rfl rfl rfl rfl ?_
              refine Zav rfl rfl rfl rfl rfl (by first | exact Zaa (by decide) (by omega) | exact Zm (by decide) (by omega) | exact Zo (by decide) (by omega) | exact Zn (by decide) (by omega) | exact Zt _ | exact Zz _ | exact Zq _ | exact rfl) rfl ?_; refine Zc rfl rfl rfl rfl ?_; refine Zg ?_; refine Zbj (a' := [(7, _), (6, _), (5, _)]) (i + 1) ([]) (.cons (k := 7) rfl (.cons (k := 6) rfl (.cons (k := 5) rfl (.cons (k := 4) rfl (.cons (k := 3) rfl (.cons (k := 2) rfl (.nil))))))) (by first | exact Mem.le.refl _ | assumption | (repeat first | assumption | refine Mem.le.trans (by assumption) ?_)) (fun w hw => by first | exact hw | exact hw.cnt (by intro zz; first | exact Nat.le_refl _ | (simp only [Zh, Zf, Zi, cat, List.append_eq, List.append_assoc, List.cons_append, List.nil_append, List.append_nil]; omega) | (simp only [Zh, Zf, Zi, cat, List.append_eq, List.append_assoc, List.cons_append, List.nil_append, List.append_nil, PeerV.segs]; omega))) ?_ ?_
              · refine ⟨_, v / 256, rfl, rfl, ?_, by omega, ht.more (by omega), by rw [hv, div_pow]⟩
                rw [show (i : Int) + 1 = ((i + 1 : Nat) : Int) by omega, show (v : Int) / 256 = ((v / 256 : Nat) : Int) by omega, ← hv]
              · omega
          · first | replace hc3 := dT hc3 | replace hc3 := dF hc3 | replace hc3 := nT hc3 | replace hc3 := nF hc3 | skip
            try simp only [PeerV.eta] at hc3
            first
            | (exfalso; omega)
            | (exfalso; simp [eqX] at hc3; done)
            | contradiction
            | skip
              refine Zbl ?_; refine Zao ?_; refine Zao ?_; refine Zbx ?_; refine Ze ?_; refine Zl (.cons (k := 6) rfl (.cons (k := 4) rfl (.cons (k := 3) rfl (.cons (k := 2) rfl .nil)))) ?_; refine Zk ?_; refine Za (l := [0, 1, 2, 3, 4]) rfl ?_
              obtain rfl : i = 8 := by omega
              refine Zd rfl rfl rfl rfl ?_; refine Zd rfl rfl rfl rfl ?_; refine Zcl rfl rfl rfl rfl (by omega) rfl rfl ?_; refine Zc rfl rfl rfl rfl ?_; refine Zc rfl rfl rfl rfl ?_; refine Zg ?_; refine Ze ?_; refine Zl (.cons (k := 3) rfl (.cons (k := 2) rfl .nil)) ?_; refine Zam ?_
              refine Zal (.inr rfl) (.tmp rfl (.tmp rfl .nil)) (fun w hw => ?_)
              exact ⟨_, rfl, hw.cnt (by intro zz; first | exact Nat.le_refl _ | (simp only [Zh, Zf, Zi, cat, List.append_eq, List.append_assoc, List.cons_append, List.nil_append, List.append_nil]; omega) | (simp only [Zh, Zf, Zi, cat, List.append_eq, List.append_assoc, List.cons_append, List.nil_append, List.append_nil, PeerV.segs]; omega)), _, rfl, padR_is hq ht⟩
end Go.Proofs.YtpfdblknaihidaaDoor
