/-
  Texts of this claim, one behind the other: D6, D7, CircR, D8, PlcN, PlcD0, PlcD1, PlcD2, PlcD3, PlcD4, PlcD5, PlcD6, PlcD7, PlcD8, PlcD9, PlcD, D9.
-/
import Derived.Test.YtpfdblknaihidaaDoorPC3
import Derived.KernelRfl
set_option linter.unusedSimpArgs false
set_option linter.unusedVariables false
set_option linter.unnecessarySimpa false
set_option maxRecDepth 8000
set_option maxHeartbeats 1000000
namespace Go.Proofs.YtpfdblknaihidaaDoor
open Go.Esp
theorem F.ok53 : okFn Tryd.prog 53 = true := by kernel_rfl
theorem F.ok54 : okFn Tryd.prog 54 = true := by kernel_rfl
theorem F.ok55 : okFn Tryd.prog 55 = true := by kernel_rfl
theorem F.ok56 : okFn Tryd.prog 56 = true := by kernel_rfl
theorem rStart_ok (M : Mem) : Fs Tryd.prog 54 [] M (fun v => v = aggV ([stSeg start5])) := by
  refine Zbd Tryd.func54 rfl Tryd.ntmps54 rfl ?_; intro H
  refine Zk ?_; refine Za (l := [0]) rfl ?_
  refine Zbm rfl rfl F.zero57 (by constructor) rfl ?_; intro b1
  refine Zg ?_; refine Ze ?_; refine Zk ?_; refine Za (l := [0, 1]) rfl ?_; refine X_buildC rfl rfl (fun a ha => by simp [show a.eval (.const (.int .u32 1732584193)) = .int .u32 1732584193 from ha.ev rfl, show a.eval (.const (.int .u32 4023233417)) = .int .u32 4023233417 from ha.ev rfl, show a.eval (.const (.int .u32 2562383102)) = .int .u32 2562383102 from ha.ev rfl, show a.eval (.const (.int .u32 271733878)) = .int .u32 271733878 from ha.ev rfl, show a.eval (.const (.int .u32 3285377520)) = .int .u32 3285377520 from ha.ev rfl]) (F.bst0) rfl ?_; refine Zbi rfl rfl rfl rfl (by constructor) (by first | ((try simp only [cat, List.cons_append, List.nil_append, List.append_nil]); (repeat (first | exact Zag | refine Zau ?_ | (refine Zae ?_ ?_; rfl))); done) | exact PeerV.flat _ | exact PeerV.flat ⟨_, _⟩ | exact stFlat _ | exact Zay _ | exact Zaz | (simp [flat, cat, Segs.cells, Seg.cells, Value.oneCell']; done)) (by repeat first | exact Upd.head | apply Upd.tail | apply Upd.over) F.lay57 rfl rfl ?_
  refine Zg ?_; refine Ze ?_; refine Zl (.cons (k := 0) rfl .nil) ?_; refine Zam ?_
  refine Zal (.inr rfl) (.cell rfl (by repeat first | exact List.Mem.head _ | refine List.Mem.tail _ ?_ | refine List.mem_append_right _ ?_) F.lay57 rfl rfl .nil) (fun w hw => ?_)
  refine ⟨_, rfl, (hw.cnt (by intro zz; first | exact Nat.le_refl _ | (simp only [Zh, Zf, Zi, cat, List.append_eq, List.append_assoc, List.cons_append, List.nil_append, List.append_nil]; omega) | (simp only [Zh, Zf, Zi, cat, List.append_eq, List.append_assoc, List.cons_append, List.nil_append, List.append_nil, PeerV.segs]; omega))), ?_⟩
  clear hw
  rfl
theorem rSum_ok (M : Mem) (s : ByteArray) (hs : s.size ≤ 4096) : Esp.Fn Tryd.prog 33 [.string s] M (fun M' v => v = .tuple #[aggV [idSeg (sumP (natsOf s))], .int .i64 0]) := by
  refine Zbv Tryd.func33 rfl Tryd.ntmps33 rfl ?_; intro H
  refine Zk ?_; refine Za (l := [0, 1]) rfl ?_
  refine Zbm rfl rfl F.zero34 (by constructor) rfl ?_; intro b1
  refine Zc rfl rfl rfl rfl ?_; refine Zg ?_; refine Ze ?_; refine Zk ?_; refine Za (l := [0, 1, 2, 3, 4, 5, 6]) rfl ?_; refine Zd rfl rfl rfl rfl ?_; refine X_fs rfl rfl F.ok53 rfl (rPad_ok _ s hs) rfl ?_
  rintro _ ⟨p, rfl, hp⟩
  obtain ⟨m, hm9, hmf⟩ := padN_blocks (natsOf s)
  have hps : p.size = 64 * m := by rw [← Zas, hp, hm9]
  have hmb : m ≤ 66 := by have h9 := hmf; rw [Zas] at h9; omega
  refine Zd rfl rfl rfl rfl ?_; refine Zap rfl rfl rfl rfl rfl ?_; refine Zap rfl rfl rfl rfl rfl ?_; refine Zc rfl rfl rfl rfl ?_; refine Zc rfl rfl rfl rfl ?_; refine Zg ?_; refine Ze ?_; refine Zl (.cons (k := 5) rfl (.cons (k := 4) rfl (.cons (k := 3) rfl (.cons (k := 2) rfl .nil)))) ?_; refine Zk ?_; refine Zk ?_; refine Za (l := [0, 1]) rfl ?_; refine Zd rfl rfl rfl rfl ?_; refine Zaq rfl rfl rfl rfl rfl rfl ?_; refine Zg ?_; refine Ze ?_; refine Zl (.cons (k := 16) rfl (.cons (k := 5) rfl (.cons (k := 4) rfl (.cons (k := 3) rfl (.cons (k := 2) rfl .nil))))) ?_
  refine Zai rfl (fun hc2 => ?_) (fun hc2 => ?_)
  · first | replace hc2 := dT hc2 | replace hc2 := dF hc2 | replace hc2 := nT hc2 | replace hc2 := nF hc2 | skip
    try simp only [PeerV.eta] at hc2
    first
    | (exfalso; omega)
    | (exfalso; simp [eqX] at hc2; done)
    | contradiction
    | skip
      refine Zk ?_; refine Za (l := [0, 1, 2, 3]) rfl ?_; refine X_build0 rfl rfl F.zero34 F.arr34 rfl ?_; refine Zd rfl rfl rfl rfl ?_; refine Zbi rfl rfl rfl rfl (by constructor) (by first | ((try simp only [cat, List.cons_append, List.nil_append, List.append_nil]); (repeat (first | exact Zag | refine Zau ?_ | (refine Zae ?_ ?_; rfl))); done) | exact PeerV.flat _ | exact PeerV.flat ⟨_, _⟩ | exact stFlat _ | exact Zay _ | exact Zaz | (simp [flat, cat, Segs.cells, Seg.cells, Value.oneCell']; done)) (by repeat first | exact Upd.head | apply Upd.tail | apply Upd.over) F.lay34 rfl rfl ?_; refine Zc rfl rfl rfl rfl ?_; refine Zg ?_; refine Ze ?_; refine Zl (.cons (k := 3) rfl (.cons (k := 4) rfl (.cons (k := 2) rfl .nil))) ?_; refine Zam ?_; refine Zar ?_
      refine Zal (.inr rfl) (.cell rfl (by repeat first | exact List.Mem.head _ | refine List.Mem.tail _ ?_ | refine List.mem_append_right _ ?_) F.lay34 rfl rfl (.tmp rfl .nil)) (fun w hw => ?_)
      refine ⟨_, M5, rfl, (by first | exact Mem.le.refl _ | assumption | exact Mem.le.trans (by assumption) (by assumption) | exact Mem.le.trans (by assumption) (Mem.le.trans (by assumption) (by assumption))), hw.cnt (by intro zz; first | exact Nat.le_refl _ | (simp only [Zh, Zf, Zi, cat, List.append_eq, List.append_assoc, List.cons_append, List.nil_append, List.append_nil]; omega) | (simp only [Zh, Zf, Zi, cat, List.append_eq, List.append_assoc, List.cons_append, List.nil_append, List.append_nil, PeerV.segs]; omega)), rfl⟩
  · first | replace hc2 := dT hc2 | replace hc2 := dF hc2 | replace hc2 := nT hc2 | replace hc2 := nF hc2 | skip
    try simp only [PeerV.eta] at hc2
    first
    | (exfalso; omega)
    | (exfalso; simp [eqX] at hc2; done)
    | contradiction
    | skip
      refine Zah ?_; refine Ze ?_; refine Zl (.cons (k := 4) rfl (.cons (k := 3) rfl (.cons (k := 2) rfl .nil))) ?_; refine Zk ?_; refine Za (l := [0, 1, 2]) rfl ?_; refine X_fs rfl rfl F.ok54 rfl (rStart_ok _) rfl ?_
      rintro _ rfl
      refine Zbm rfl rfl F.zero57 (by constructor) rfl ?_; intro b3
      refine Zbi rfl rfl rfl rfl (by constructor) (by first | ((try simp only [cat, List.cons_append, List.nil_append, List.append_nil]); (repeat (first | exact Zag | refine Zau ?_ | (refine Zae ?_ ?_; rfl))); done) | exact PeerV.flat _ | exact PeerV.flat ⟨_, _⟩ | exact stFlat _ | exact Zay _ | exact Zaz | (simp [flat, cat, Segs.cells, Seg.cells, Value.oneCell']; done)) (by repeat first | exact Upd.head | apply Upd.tail | apply Upd.over) F.lay57 rfl rfl ?_; refine Zg ?_; refine Ze ?_; refine Zl (.cons (k := 6) rfl (.cons (k := 4) rfl (.cons (k := 3) rfl (.cons (k := 2) rfl .nil)))) ?_; refine Zk ?_; refine Zk ?_; refine Za (l := [0]) rfl ?_; refine Zc rfl rfl rfl rfl ?_; refine Zg ?_; refine Ze ?_; refine Zad ?_; refine Zl (.cons (k := 7) rfl (.cons (k := 6) rfl (.cons (k := 4) rfl (.cons (k := 3) rfl (.cons (k := 2) rfl .nil))))) ?_
      refine Zbu (Hin := [(b3, rowO [stSeg (start5)] 57)]) (.succ .zero) (by repeat first | exact Rem.here _ | exact Rem.two | apply Rem.skip | apply Rem.over) (fun (k : Nat) M2 h1 z => ∃ (g : St5), z = [(7, .int .i64 ((64 * k : Nat) : Int))] ∧ k ≤ m ∧ SumAt s p k g ∧ h1 = [(b3, rowO [stSeg (g)] 57)]) (fun k => m - k) (0) (⟨start5, rfl, by omega, SumAt.start hp, rfl⟩) ?_
      rintro k M2 h1 z hm2 ⟨g, rfl, hk, hg, rfl⟩
      refine Zk ?_; refine Zk ?_; refine Za (l := [0, 1, 2, 3]) rfl ?_; refine Zd rfl rfl rfl rfl ?_; refine Zd rfl rfl rfl rfl ?_; refine X_len_str rfl rfl rfl rfl Tryd.underlying9 rfl ?_; refine Zaq rfl rfl rfl rfl rfl rfl ?_; refine Zg ?_; refine Ze ?_
      refine Zai rfl (fun hc4 => ?_) (fun hc4 => ?_)
      · first | replace hc4 := dT hc4 | replace hc4 := dF hc4 | replace hc4 := nT hc4 | replace hc4 := nF hc4 | skip
        try simp only [PeerV.eta] at hc4
        first
        | (exfalso; omega)
        | (exfalso; simp [eqX] at hc4; done)
        | contradiction
        | skip
          refine Zah ?_; refine Ze ?_; refine Zk ?_; refine Zad ?_; refine Zk ?_; refine Zaf (l := [0, 1, 2, 3, 4, 5, 6, 7, 8, 9, 10, 11, 12]) #[0, 0, 0, 0, 8, 30, 63, 127, 255, 255, 0, 1535, 4095] _ rfl (by kernel_rfl) (by kernel_rfl) St.drawn (fun _ h => h) ?_
          first | refine Zan rfl rfl rfl (by repeat first | exact List.Mem.head _ | refine List.Mem.tail _ ?_ | refine List.mem_append_right _ ?_) F.lay57 rfl rfl rfl ?_ | refine Zv rfl rfl rfl (by first | assumption | exact SlM.mono (by assumption) (by assumption)) (by first | exact Zb (by omega) | exact List.getElem?_eq_getElem (by omega) | exact rfl | exact Zb (by first | (simp; done) | (simp; omega))) F.lay57 rfl rfl rfl ?_ | refine Zu rfl rfl rfl (by assumption) (by first | exact Zb (by omega) | exact List.getElem?_eq_getElem (by omega) | exact rfl | exact Zb (by first | (simp; done) | (simp; omega))) F.lay57 rfl rfl rfl ?_ | refine Zs rfl rfl rfl (by first | assumption | exact Mem.get_of (by assumption) (by repeat first | assumption | refine Mem.le.trans (by assumption) ?_)) F.lay57 rfl rfl rfl ?_ | refine Zp rfl rfl rfl (by assumption) (by repeat first | exact Rem.here _ | exact Rem.two | apply Rem.skip | apply Rem.over) (by first | exact Zb (by omega) | exact List.getElem?_eq_getElem (by omega) | exact rfl | exact Zb (by first | (simp; done) | (simp; omega))) F.lay57 rfl rfl rfl ?_
          refine Zd rfl rfl rfl rfl ?_; refine Zd rfl rfl rfl rfl ?_; refine Zd rfl rfl rfl rfl ?_; refine Zav rfl rfl rfl rfl rfl (by first | exact Zaa (by decide) (by omega) | exact Zm (by decide) (by omega) | exact Zo (by decide) (by omega) | exact Zn (by decide) (by omega) | exact Zt _ | exact Zz _ | exact Zq _ | exact rfl) rfl ?_
          rw [show ((64 * k : Nat) : Int) + 64 = ((64 * k + 64 : Nat) : Int) by omega]
          refine X_slice_str (olo := some (64 * k)) (ohi := some (64 * k + 64)) rfl rfl rfl (.some rfl rfl) (.some rfl rfl) Tryd.underlying9 (by show 64 * k + 64 ≤ p.size; omega) (by show 64 * k ≤ 64 * k + 64; omega) (show _ = p.extract (64 * k) (64 * k + 64) from rfl) rfl ?_; refine X_fn rfl rfl F.ok55 rfl (rStep_ok _ g (p.extract (64 * k) (64 * k + 64)) hg.1 (by rw [ByteArray.size_extract]; omega)) rfl ?_
          rintro _ M4 hm4 rfl
          refine Zd rfl rfl rfl rfl ?_; refine Zap rfl rfl rfl rfl rfl ?_; refine Zap rfl rfl rfl rfl rfl ?_
          refine Zbm rfl rfl F.zero57 (by constructor) rfl ?_; intro b5
          refine Zbi rfl rfl rfl rfl (by constructor) (by first | ((try simp only [cat, List.cons_append, List.nil_append, List.append_nil]); (repeat (first | exact Zag | refine Zau ?_ | (refine Zae ?_ ?_; rfl))); done) | exact PeerV.flat _ | exact PeerV.flat ⟨_, _⟩ | exact stFlat _ | exact Zay _ | exact Zaz | (simp [flat, cat, Segs.cells, Seg.cells, Value.oneCell']; done)) (by repeat first | exact Upd.head | apply Upd.tail | apply Upd.over) F.lay57 rfl rfl ?_; refine Zc rfl rfl rfl rfl ?_; refine Zg ?_; refine Ze ?_; refine Zl (.cons (k := 8) rfl (.cons (k := 35) rfl (.cons (k := 34) rfl (.cons (k := 26) rfl (.cons (k := 33) rfl (.cons (k := 32) rfl (.cons (k := 31) rfl (.cons (k := 30) rfl (.cons (k := 29) rfl (.cons (k := 28) rfl (.cons (k := 27) rfl (.cons (k := 23) rfl (.cons (k := 22) rfl (.cons (k := 21) rfl (.cons (k := 20) rfl (.cons (k := 7) rfl (.cons (k := 6) rfl (.cons (k := 4) rfl (.cons (k := 3) rfl (.cons (k := 2) rfl .nil)))))))))))))))))))) ?_
          refine Za (l := [0, 1]) rfl ?_
          first | refine Zan rfl rfl rfl (by repeat first | exact List.Mem.head _ | refine List.Mem.tail _ ?_ | refine List.mem_append_right _ ?_) F.lay57 rfl rfl rfl ?_ | refine Zv rfl rfl rfl (by first | assumption | exact SlM.mono (by assumption) (by assumption)) (by first | exact Zb (by omega) | exact List.getElem?_eq_getElem (by omega) | exact rfl | exact Zb (by first | (simp; done) | (simp; omega))) F.lay57 rfl rfl rfl ?_ | refine Zu rfl rfl rfl (by assumption) (by first | exact Zb (by omega) | exact List.getElem?_eq_getElem (by omega) | exact rfl | exact Zb (by first | (simp; done) | (simp; omega))) F.lay57 rfl rfl rfl ?_ | refine Zs rfl rfl rfl (by first | assumption | exact Mem.get_of (by assumption) (by repeat first | assumption | refine Mem.le.trans (by assumption) ?_)) F.lay57 rfl rfl rfl ?_ | refine Zp rfl rfl rfl (by assumption) (by repeat first | exact Rem.here _ | exact Rem.two | apply Rem.skip | apply Rem.over) (by first | exact Zb (by omega) | exact List.getElem?_eq_getElem (by omega) | exact rfl | exact Zb (by first | (simp; done) | (simp; omega))) F.lay57 rfl rfl rfl ?_
          refine Zbi rfl rfl rfl rfl (by constructor) (by first | ((try simp only [cat, List.cons_append, List.nil_append, List.append_nil]); (repeat (first | exact Zag | refine Zau ?_ | (refine Zae ?_ ?_; rfl))); done) | exact PeerV.flat _ | exact PeerV.flat ⟨_, _⟩ | exact stFlat _ | exact Zay _ | exact Zaz | (simp [flat, cat, Segs.cells, Seg.cells, Value.oneCell']; done)) (by repeat first | exact Upd.head | apply Upd.tail | apply Upd.over) F.lay57 rfl rfl ?_; refine Zg ?_; refine Zbs ?_; refine Ze ?_; refine Za (l := [0, 1, 2]) rfl ?_; refine Zd rfl rfl rfl rfl ?_; refine Zav rfl rfl rfl rfl rfl (by first | exact Zaa (by decide) (by omega) | exact Zm (by decide) (by omega) | exact Zo (by decide) (by omega) | exact Zn (by decide) (by omega) | exact Zt _ | exact Zz _ | exact Zq _ | exact rfl) rfl ?_
          refine Zc rfl rfl rfl rfl ?_; refine Zg ?_; refine Zbj (a' := [(7, _)]) (k + 1) ([(b3, rowO [stSeg (stepN g (natsOf (p.extract (64 * k) (64 * k + 64))))] 57)]) (.cons (k := 7) rfl (.cons (k := 6) rfl (.cons (k := 4) rfl (.cons (k := 3) rfl (.cons (k := 2) rfl (.nil)))))) (hm2.trans hm4) (fun w hw => by first | exact hw | exact hw.cnt (by intro zz; first | exact Nat.le_refl _ | (simp only [Zh, Zf, Zi, cat, List.append_eq, List.append_assoc, List.cons_append, List.nil_append, List.append_nil]; omega) | (simp only [Zh, Zf, Zi, cat, List.append_eq, List.append_assoc, List.cons_append, List.nil_append, List.append_nil, PeerV.segs]; omega))) ?_ ?_
          · refine ⟨_, ?_, by omega, hg.more hps (by omega) hmf, rfl⟩
            rw [show ((64 * k : Nat) : Int) + 64 = ((64 * (k + 1) : Nat) : Int) by omega]
          · omega
      · first | replace hc4 := dT hc4 | replace hc4 := dF hc4 | replace hc4 := nT hc4 | replace hc4 := nF hc4 | skip
        try simp only [PeerV.eta] at hc4
        first
        | (exfalso; omega)
        | (exfalso; simp [eqX] at hc4; done)
        | contradiction
        | skip
          refine Zbl ?_; refine Zao ?_; refine Zao ?_; refine Zbx ?_; refine Ze ?_; refine Zl (.cons (k := 6) rfl (.cons (k := 3) rfl (.cons (k := 2) rfl .nil))) ?_; refine Zk ?_; refine Za (l := [0, 1, 2, 3]) rfl ?_
          obtain rfl : k = m := by omega
          rw [← hg.done hps]
          first | refine Zan rfl rfl rfl (by repeat first | exact List.Mem.head _ | refine List.Mem.tail _ ?_ | refine List.mem_append_right _ ?_) F.lay57 rfl rfl rfl ?_ | refine Zv rfl rfl rfl (by first | assumption | exact SlM.mono (by assumption) (by assumption)) (by first | exact Zb (by omega) | exact List.getElem?_eq_getElem (by omega) | exact rfl | exact Zb (by first | (simp; done) | (simp; omega))) F.lay57 rfl rfl rfl ?_ | refine Zu rfl rfl rfl (by assumption) (by first | exact Zb (by omega) | exact List.getElem?_eq_getElem (by omega) | exact rfl | exact Zb (by first | (simp; done) | (simp; omega))) F.lay57 rfl rfl rfl ?_ | refine Zs rfl rfl rfl (by first | assumption | exact Mem.get_of (by assumption) (by repeat first | assumption | refine Mem.le.trans (by assumption) ?_)) F.lay57 rfl rfl rfl ?_ | refine Zp rfl rfl rfl (by assumption) (by repeat first | exact Rem.here _ | exact Rem.two | apply Rem.skip | apply Rem.over) (by first | exact Zb (by omega) | exact List.getElem?_eq_getElem (by omega) | exact rfl | exact Zb (by first | (simp; done) | (simp; omega))) F.lay57 rfl rfl rfl ?_
          refine X_fn rfl rfl F.ok56 rfl (rBytes_ok _ g hg.1) rfl ?_
          rintro _ M5 hm5 rfl
          refine Zbi rfl rfl rfl rfl (by constructor) (by first | ((try simp only [cat, List.cons_append, List.nil_append, List.append_nil]); (repeat (first | exact Zag | refine Zau ?_ | (refine Zae ?_ ?_; rfl))); done) | exact PeerV.flat _ | exact PeerV.flat ⟨_, _⟩ | exact stFlat _ | exact Zay _ | exact Zaz | (simp [flat, cat, Segs.cells, Seg.cells, Value.oneCell']; done)) (by repeat first | exact Upd.head | apply Upd.tail | apply Upd.over) F.lay34 rfl rfl ?_; refine Zc rfl rfl rfl rfl ?_; refine Zg ?_; refine Ze ?_; refine Zl (.cons (k := 3) rfl (.cons (k := 2) rfl .nil)) ?_; refine Zam ?_
          refine Zal (.inr rfl) (.cell rfl (by repeat first | exact List.Mem.head _ | refine List.Mem.tail _ ?_ | refine List.mem_append_right _ ?_) F.lay34 rfl rfl (.tmp rfl .nil)) (fun w hw => ?_)
          refine ⟨_, M5, rfl, (by first | exact Mem.le.refl _ | assumption | exact Mem.le.trans (by assumption) (by assumption) | exact Mem.le.trans (by assumption) (Mem.le.trans (by assumption) (by assumption))), hw.cnt (by intro zz; first | exact Nat.le_refl _ | (simp only [Zh, Zf, Zi, cat, List.append_eq, List.append_assoc, List.cons_append, List.nil_append, List.append_nil]; omega) | (simp only [Zh, Zf, Zi, cat, List.append_eq, List.append_assoc, List.cons_append, List.nil_append, List.append_nil, PeerV.segs]; omega)), rfl⟩
end Go.Proofs.YtpfdblknaihidaaDoor
namespace Go.Proofs.YtpfdblknaihidaaDoor
open Go.Esp
theorem F.ok33 : okFn Tryd.prog 33 = true := by kernel_rfl
theorem F.ok34 : okFn Tryd.prog 34 = true := by kernel_rfl
theorem dig1 {n : Nat} (h : n < 10) : digS ((n : Nat) : Int) = ⟨#[UInt8.ofNat (48 + n)]⟩ := by
  unfold digS
  rw [Int.toNat_natCast, Lib.decDigits, dif_pos h]
theorem dig_cut {n : Nat} (h : n < 10) : (⟨#[48, 49, 50, 51, 52, 53, 54, 55, 56, 57]⟩ : ByteArray).extract n (n + 1) = digS ((n : Nat) : Int) := by
  rw [dig1 h]
  refine ByteArray.ext ?_
  rw [ByteArray.data_extract]
  match n, h with
  | 0, _ => rfl
  | 1, _ => rfl
  | 2, _ => rfl
  | 3, _ => rfl
  | 4, _ => rfl
  | 5, _ => rfl
  | 6, _ => rfl
  | 7, _ => rfl
  | 8, _ => rfl
  | 9, _ => rfl
theorem dig_more {n : Nat} (h : 10 ≤ n) : digS ((n / 10 : Nat) : Int) ++ digS ((n % 10 : Nat) : Int) = digS ((n : Nat) : Int) := by
  refine ByteArray.ext ?_
  rw [ByteArray.data_append, dig1 (n := n % 10) (by omega)]
  unfold digS
  rw [Int.toNat_natCast, Int.toNat_natCast]
  conv => rhs; rw [Lib.decDigits, dif_neg (by omega)]
  simp
theorem dig_size {n : Nat} (h : n < 1000) : (digS ((n : Nat) : Int)).size ≤ 3 := by
  show (Lib.decDigits (n : Int).toNat).toArray.size ≤ 3
  rw [List.size_toArray]; exact dec_len (by omega)
theorem rDig_step (M : Mem) (a : Nat) (ha : a ≤ 999) (ih : ∀ (M : Mem) (b : Nat), b < a → Fs Tryd.prog 34 [.int .i64 (b : Int)] M (fun v => v = .string (digS (b : Int)))) : Fs Tryd.prog 34 [.int .i64 (a : Int)] M (fun v => v = .string (digS (a : Int))) := by
  refine Zbd Tryd.func34 rfl Tryd.ntmps34 rfl ?_; intro H
  refine Zk ?_; refine Za (l := [0]) rfl ?_; refine Zc rfl rfl rfl rfl ?_; refine Zg ?_; refine Ze ?_; refine Zk ?_; refine Zk ?_; refine Za (l := [0, 1, 2, 3, 4, 5]) rfl ?_; refine Zd rfl rfl rfl rfl ?_; refine Zaq rfl rfl rfl rfl rfl rfl ?_; refine Zd rfl rfl rfl rfl ?_
  refine Zbb 5 rfl (fun hc1 => ?_) (fun hc1 => ?_)
  · first | replace hc1 := dT hc1 | replace hc1 := dF hc1 | replace hc1 := nT hc1 | replace hc1 := nF hc1 | skip
    try simp only [PeerV.eta] at hc1
    first
    | (exfalso; omega)
    | (exfalso; simp [eqX] at hc1; done)
    | contradiction
    | skip
      refine Zd rfl rfl rfl rfl ?_; refine Zaq rfl rfl rfl rfl rfl rfl ?_; refine Zx rfl rfl rfl rfl rfl ?_; refine Zg ?_; refine Ze ?_; refine Zl (.cons (k := 8) rfl (.cons (k := 2) rfl (.cons (k := 0) rfl .nil))) ?_
      refine Zai rfl (fun hc2 => ?_) (fun hc2 => ?_)
      · first | replace hc2 := dT hc2 | replace hc2 := dF hc2 | replace hc2 := nT hc2 | replace hc2 := nF hc2 | skip
        try simp only [PeerV.eta] at hc2
        first
        | (exfalso; omega)
        | (exfalso; simp [eqX] at hc2; done)
        | contradiction
        | skip
          refine Zk ?_; refine Za (l := [0, 1, 2, 3, 4]) rfl ?_; refine Zd rfl rfl rfl rfl ?_; refine Zd rfl rfl rfl rfl ?_; refine Zav rfl rfl rfl rfl rfl (by first | exact Zaa (by decide) (by omega) | exact Zm (by decide) (by omega) | exact Zo (by decide) (by omega) | exact Zn (by decide) (by omega) | exact Zt _ | exact Zz _ | exact Zq _ | exact rfl) rfl ?_; refine X_slice_str (olo := some a) (ohi := some (a + 1)) rfl rfl rfl (.some rfl rfl) (.some rfl (by show _ = ((a + 1 : Nat) : Int); omega)) Tryd.underlying9 (by show a + 1 ≤ 10; omega) (by show a ≤ a + 1; omega) (dig_cut (n := a) (by omega)) rfl ?_; refine Zc rfl rfl rfl rfl ?_; refine Zg ?_; refine Ze ?_; refine Zl (.cons (k := 2) rfl (.cons (k := 0) rfl .nil)) ?_; refine Zam ?_; refine Zar ?_
          refine Zal (.inr rfl) (.tmp rfl .nil) (fun w hw => ?_)
          exact ⟨_, rfl, hw.cnt (by intro zz; first | exact Nat.le_refl _ | (simp only [Zh, Zf, Zi, cat, List.append_eq, List.append_assoc, List.cons_append, List.nil_append, List.append_nil]; omega) | (simp only [Zh, Zf, Zi, cat, List.append_eq, List.append_assoc, List.cons_append, List.nil_append, List.append_nil, PeerV.segs]; omega)), rfl⟩
      · first | replace hc2 := dT hc2 | replace hc2 := dF hc2 | replace hc2 := nT hc2 | replace hc2 := nF hc2 | skip
        try simp only [PeerV.eta] at hc2
        first
        | (exfalso; omega)
        | (exfalso; simp [eqX] at hc2; done)
        | contradiction
        | skip
          refine Zah ?_; refine Ze ?_; refine Zl (.cons (k := 2) rfl (.cons (k := 0) rfl .nil)) ?_; refine Zk ?_; refine Zk ?_; refine Za (l := [0, 1]) rfl ?_; refine Zd rfl rfl rfl rfl ?_; refine Zaq rfl rfl rfl rfl rfl rfl ?_; refine Zg ?_; refine Ze ?_; refine Zl (.cons (k := 14) rfl (.cons (k := 2) rfl (.cons (k := 0) rfl .nil))) ?_
          refine Zai rfl (fun hc3 => ?_) (fun hc3 => ?_)
          · first | replace hc3 := dT hc3 | replace hc3 := dF hc3 | replace hc3 := nT hc3 | replace hc3 := nF hc3 | skip
            try simp only [PeerV.eta] at hc3
            first
            | (exfalso; omega)
            | (exfalso; simp [eqX] at hc3; done)
            | contradiction
            | skip
              refine Zk ?_; refine Za (l := [0, 1, 2, 3, 4, 5, 6, 7]) rfl ?_; refine Zd rfl rfl rfl rfl ?_; refine X_quo rfl rfl rfl rfl (by first | decide | omega) (by first | exact quo_in rfl (by omega) (by omega) (by omega) | rfl) rfl ?_
              rw [show (a : Int) / 10 = ((a / 10 : Nat) : Int) by omega]
              refine X_fs rfl rfl F.ok34 rfl (ih _ _ (by omega)) rfl ?_
              rintro _ rfl
              refine Zd rfl rfl rfl rfl ?_; refine Zck rfl rfl rfl rfl (by first | decide | omega) (by first | exact Zch (by omega) | rfl) rfl ?_
              rw [show (a : Int) % 10 = ((a % 10 : Nat) : Int) by omega]
              refine X_fs rfl rfl F.ok34 rfl (ih _ _ (by omega)) rfl ?_
              rintro _ rfl
              refine Zcl rfl rfl rfl rfl (by have h1 := dig_size (n := a / 10) (by omega); have h2 := dig_size (n := a % 10) (by omega); omega) (dig_more (by omega)) rfl ?_; refine Zc rfl rfl rfl rfl ?_; refine Zg ?_; refine Ze ?_; refine Zl (.cons (k := 2) rfl (.cons (k := 0) rfl .nil)) ?_; refine Zam ?_; refine Zar ?_
              refine Zal (.inr rfl) (.tmp rfl .nil) (fun w hw => ?_)
              exact ⟨_, rfl, hw.cnt (by intro zz; first | exact Nat.le_refl _ | (simp only [Zh, Zf, Zi, cat, List.append_eq, List.append_assoc, List.cons_append, List.nil_append, List.append_nil]; omega) | (simp only [Zh, Zf, Zi, cat, List.append_eq, List.append_assoc, List.cons_append, List.nil_append, List.append_nil, PeerV.segs]; omega)), rfl⟩
          · first | replace hc3 := dT hc3 | replace hc3 := dF hc3 | replace hc3 := nT hc3 | replace hc3 := nF hc3 | skip
            try simp only [PeerV.eta] at hc3
            first | (exfalso; omega) | (exfalso; simp [eqX] at hc3; done) | contradiction
  · first | replace hc1 := dT hc1 | replace hc1 := dF hc1 | replace hc1 := nT hc1 | replace hc1 := nF hc1 | skip
    try simp only [PeerV.eta] at hc1
    first
    | (exfalso; omega)
    | (exfalso; simp [eqX] at hc1; done)
    | contradiction
    | skip
      refine Zj rfl rfl rfl ?_; refine Zj rfl rfl rfl ?_; refine Zx rfl rfl rfl rfl rfl ?_; refine Zg ?_; refine Ze ?_; refine Zl (.cons (k := 8) rfl (.cons (k := 2) rfl (.cons (k := 0) rfl .nil))) ?_; refine C_false rfl ?_; refine Zah ?_; refine Ze ?_; refine Zl (.cons (k := 2) rfl (.cons (k := 0) rfl .nil)) ?_; refine Zk ?_; refine Zk ?_; refine Za (l := [0, 1]) rfl ?_; refine Zd rfl rfl rfl rfl ?_; refine Zaq rfl rfl rfl rfl rfl rfl ?_; refine Zg ?_; refine Ze ?_; refine Zl (.cons (k := 14) rfl (.cons (k := 2) rfl (.cons (k := 0) rfl .nil))) ?_
      refine Zai rfl (fun hc4 => ?_) (fun hc4 => ?_)
      · first | replace hc4 := dT hc4 | replace hc4 := dF hc4 | replace hc4 := nT hc4 | replace hc4 := nF hc4 | skip
        try simp only [PeerV.eta] at hc4
        first
        | (exfalso; omega)
        | (exfalso; simp [eqX] at hc4; done)
        | contradiction
        | skip
          refine Zk ?_; refine Za (l := [0, 1, 2, 3, 4, 5, 6, 7]) rfl ?_; refine Zd rfl rfl rfl rfl ?_; refine X_quo rfl rfl rfl rfl (by first | decide | omega) (by first | exact quo_in rfl (by omega) (by omega) (by omega) | rfl) rfl ?_
          rw [show (a : Int) / 10 = ((a / 10 : Nat) : Int) by omega]
          refine X_fs rfl rfl F.ok34 rfl (ih _ _ (by omega)) rfl ?_
          rintro _ rfl
          refine Zd rfl rfl rfl rfl ?_; refine Zck rfl rfl rfl rfl (by first | decide | omega) (by first | exact Zch (by omega) | rfl) rfl ?_
          rw [show (a : Int) % 10 = ((a % 10 : Nat) : Int) by omega]
          refine X_fs rfl rfl F.ok34 rfl (ih _ _ (by omega)) rfl ?_
          rintro _ rfl
          refine Zcl rfl rfl rfl rfl (by have h1 := dig_size (n := a / 10) (by omega); have h2 := dig_size (n := a % 10) (by omega); omega) (dig_more (by omega)) rfl ?_; refine Zc rfl rfl rfl rfl ?_; refine Zg ?_; refine Ze ?_; refine Zl (.cons (k := 2) rfl (.cons (k := 0) rfl .nil)) ?_; refine Zam ?_; refine Zar ?_
          refine Zal (.inr rfl) (.tmp rfl .nil) (fun w hw => ?_)
          exact ⟨_, rfl, hw.cnt (by intro zz; first | exact Nat.le_refl _ | (simp only [Zh, Zf, Zi, cat, List.append_eq, List.append_assoc, List.cons_append, List.nil_append, List.append_nil]; omega) | (simp only [Zh, Zf, Zi, cat, List.append_eq, List.append_assoc, List.cons_append, List.nil_append, List.append_nil, PeerV.segs]; omega)), rfl⟩
      · first | replace hc4 := dT hc4 | replace hc4 := dF hc4 | replace hc4 := nT hc4 | replace hc4 := nF hc4 | skip
        try simp only [PeerV.eta] at hc4
        first | (exfalso; omega) | (exfalso; simp [eqX] at hc4; done) | contradiction
theorem rDig_ok : ∀ (a : Nat) (M : Mem), a ≤ 999 → Fs Tryd.prog 34 [.int .i64 (a : Int)] M (fun v => v = .string (digS (a : Int)))
  | a, M, ha => rDig_step M a ha (fun M b hb => rDig_ok b M (by omega))
theorem rPlc_ok (M : Mem) (a : Nat) (ha : a ≤ 999) : Esp.Fn Tryd.prog 16 [.int .i64 (a : Int)] M (fun M' v => v = aggV [idSeg (peerN (a : Int)).id]) := by
  refine Zbv Tryd.func16 rfl Tryd.ntmps16 rfl ?_; intro H
  refine Zk ?_; refine Za (l := [0]) rfl ?_
  refine Zbm rfl rfl F.zero34 (by constructor) rfl ?_; intro b1
  refine Zg ?_; refine Ze ?_; refine Zk ?_; refine Za (l := [0, 1, 2, 3, 4, 5, 6, 7, 8, 9]) rfl ?_; refine Zd rfl rfl rfl rfl ?_; refine X_fs rfl rfl F.ok34 rfl (rDig_ok a _ ha) rfl ?_
  rintro _ rfl
  refine Zcl (a := nodeS) rfl rfl rfl rfl (by have := dig_size (n := a) (by omega); show 4 + _ ≤ _; omega) rfl rfl ?_; refine X_fn rfl rfl F.ok33 rfl (rSum_ok _ (nodeS ++ digS (a : Int)) (by rw [ByteArray.size_append]; have := dig_size (n := a) (by omega); show 4 + _ ≤ _; omega)) rfl ?_
  rintro _ M2 hm2 rfl
  refine Zd rfl rfl rfl rfl ?_; refine Zap rfl rfl rfl rfl rfl ?_; refine Zap rfl rfl rfl rfl rfl ?_
  refine Zbm rfl rfl F.zero34 (by constructor) rfl ?_; intro b2
  refine Zbi rfl rfl rfl rfl (by constructor) (by first | ((try simp only [cat, List.cons_append, List.nil_append, List.append_nil]); (repeat (first | exact Zag | refine Zau ?_ | (refine Zae ?_ ?_; rfl))); done) | exact PeerV.flat _ | exact PeerV.flat ⟨_, _⟩ | exact stFlat _ | exact Zay _ | exact Zaz | (simp [flat, cat, Segs.cells, Seg.cells, Value.oneCell']; done)) (by repeat first | exact Upd.head | apply Upd.tail | apply Upd.over) F.lay34 rfl rfl ?_; refine Zc rfl rfl rfl rfl ?_; refine Zg ?_; refine Ze ?_; refine Zl (.cons (k := 3) rfl (.cons (k := 2) rfl .nil)) ?_; refine Zk ?_; refine Za (l := [0, 1]) rfl ?_
  first | refine Zan rfl rfl rfl (by repeat first | exact List.Mem.head _ | refine List.Mem.tail _ ?_ | refine List.mem_append_right _ ?_) F.lay34 rfl rfl rfl ?_ | refine Zv rfl rfl rfl (by first | assumption | exact SlM.mono (by assumption) (by assumption)) (by first | exact Zb (by omega) | exact List.getElem?_eq_getElem (by omega) | exact rfl | exact Zb (by first | (simp; done) | (simp; omega))) F.lay34 rfl rfl rfl ?_ | refine Zu rfl rfl rfl (by assumption) (by first | exact Zb (by omega) | exact List.getElem?_eq_getElem (by omega) | exact rfl | exact Zb (by first | (simp; done) | (simp; omega))) F.lay34 rfl rfl rfl ?_ | refine Zs rfl rfl rfl (by first | assumption | exact Mem.get_of (by assumption) (by repeat first | assumption | refine Mem.le.trans (by assumption) ?_)) F.lay34 rfl rfl rfl ?_ | refine Zp rfl rfl rfl (by assumption) (by repeat first | exact Rem.here _ | exact Rem.two | apply Rem.skip | apply Rem.over) (by first | exact Zb (by omega) | exact List.getElem?_eq_getElem (by omega) | exact rfl | exact Zb (by first | (simp; done) | (simp; omega))) F.lay34 rfl rfl rfl ?_
  refine Zbi rfl rfl rfl rfl (by constructor) (by first | ((try simp only [cat, List.cons_append, List.nil_append, List.append_nil]); (repeat (first | exact Zag | refine Zau ?_ | (refine Zae ?_ ?_; rfl))); done) | exact PeerV.flat _ | exact PeerV.flat ⟨_, _⟩ | exact stFlat _ | exact Zay _ | exact Zaz | (simp [flat, cat, Segs.cells, Seg.cells, Value.oneCell']; done)) (by repeat first | exact Upd.head | apply Upd.tail | apply Upd.over) F.lay34 rfl rfl ?_; refine Zg ?_; refine Ze ?_; refine Zl (.cons (k := 2) rfl .nil) ?_; refine Zam ?_
  refine Zal (.inr rfl) (.cell rfl (by repeat first | exact List.Mem.head _ | refine List.Mem.tail _ ?_ | refine List.mem_append_right _ ?_) F.lay34 rfl rfl .nil) (fun w hw => ?_)
  refine ⟨_, M2, rfl, (by first | exact Mem.le.refl _ | assumption | exact Mem.le.trans (by assumption) (by assumption) | exact Mem.le.trans (by assumption) (Mem.le.trans (by assumption) (by assumption))), hw.cnt (by intro zz; first | exact Nat.le_refl _ | (simp only [Zh, Zf, Zi, cat, List.append_eq, List.append_assoc, List.cons_append, List.nil_append, List.append_nil]; omega) | (simp only [Zh, Zf, Zi, cat, List.append_eq, List.append_assoc, List.cons_append, List.nil_append, List.append_nil, PeerV.segs]; omega)), rfl⟩
end Go.Proofs.YtpfdblknaihidaaDoor
namespace Go.Esp
def insR (p : PeerV) : List PeerV → Option (List PeerV)
  | [] => some [p]
  | q :: r => if LessP q.id p.id then (insR p r).map (q :: ·) else if q.addr = p.addr then none else some (p :: q :: r)
theorem insR_at (p : PeerV) : ∀ (out : List PeerV) (k : Nat) (hk : k ≤ out.length), (∀ j (h : j < out.length), j < k → LessP out[j].id p.id) → (∀ h : k < out.length, ¬ LessP out[k].id p.id) →
    insR p out = if ∃ h : k < out.length, out[k].addr = p.addr then none else some (out.take k ++ p :: out.drop k)
  | [], k, hk, h1, h2 => by
    obtain rfl : k = 0 := by simpa using hk
    rw [if_neg (fun ⟨h, _⟩ => absurd h (by simp))]; rfl
  | q :: r, 0, hk, h1, h2 => by
    have h3 : ¬ LessP q.id p.id := h2 (by simp)
    unfold insR
    rw [if_neg h3]
    by_cases h4 : q.addr = p.addr
    · rw [if_pos h4, if_pos ⟨by simp, h4⟩]
    · rw [if_neg h4, if_neg (fun ⟨_, h5⟩ => h4 h5)]; rfl
  | q :: r, k + 1, hk, h1, h2 => by
    have h3 : LessP q.id p.id := h1 0 (by simp) (by omega)
    have ih := insR_at p r k (by simpa using hk) (fun j h hj => h1 (j + 1) (by simpa using h) (by omega)) (fun h => h2 (by simpa using h))
    unfold insR
    rw [if_pos h3, ih]
    by_cases h4 : ∃ h : k < r.length, r[k].addr = p.addr
    · obtain ⟨h5, h6⟩ := h4
      rw [if_pos ⟨h5, h6⟩, if_pos ⟨by simpa using h5, h6⟩]; rfl
    · rw [if_neg h4, if_neg (fun ⟨h5, h6⟩ => h4 ⟨by simpa using h5, h6⟩)]; rfl
def insAll (l : List PeerV) : Option (List PeerV) := l.foldl (fun o p => o.bind (insR p)) (some [])
theorem insAll_succ {l : List PeerV} {k : Nat} (hk : k < l.length) : insAll (l.take (k + 1)) = (insAll (l.take k)).bind (insR l[k]) := by
  unfold insAll
  rw [List.take_succ_eq_append_getElem hk, List.foldl_append]; rfl
theorem insF_none : ∀ l : List PeerV, l.foldl (fun o p => o.bind (insR p)) none = none
  | [] => rfl
  | _ :: l => insF_none l
theorem insAll_none {l : List PeerV} {k : Nat} (h : insAll (l.take k) = none) : insAll l = none := by
  unfold insAll at h ⊢
  rw [← List.take_append_drop k l, List.foldl_append, h, insF_none]
theorem insR_some {p : PeerV} : ∀ {out o : List PeerV}, out.Pairwise (fun x y => LessP x.id y.id) → (∀ q ∈ out, q.id = p.id → q.addr = p.addr) → insR p out = some o → o.Perm (p :: out) ∧ o.Pairwise (fun x y => LessP x.id y.id)
  | [], o, hs, hi, h => by
    unfold insR at h; cases h
    exact ⟨.refl _, List.pairwise_singleton ..⟩
  | q :: r, o, hs, hi, h => by
    unfold insR at h
    obtain ⟨hq, hr⟩ := List.pairwise_cons.1 hs
    split at h
    · rename_i hl
      cases h9 : insR p r with
      | none => rw [h9] at h; cases h
      | some o' =>
        rw [h9] at h; cases h
        obtain ⟨h1, h2⟩ := insR_some hr (fun x hx => hi x (List.mem_cons_of_mem _ hx)) h9
        refine ⟨(h1.cons q).trans (.swap p q r), List.pairwise_cons.2 ⟨fun x hx => ?_, h2⟩⟩
        rcases List.mem_cons.1 (h1.mem_iff.1 hx) with rfl | hx
        · exact hl
        · exact hq x hx
    · rename_i hl
      split at h
      · cases h
      · rename_i ha
        cases h
        have h3 : LessP p.id q.id := by
          unfold LessP at *
          have h4 : q.id.toNat ≠ p.id.toNat := fun h5 => ha (hi q (List.mem_cons_self ..) (BitVec.eq_of_toNat_eq h5))
          omega
        refine ⟨.refl _, List.pairwise_cons.2 ⟨fun x hx => ?_, hs⟩⟩
        rcases List.mem_cons.1 hx with rfl | hx
        · exact h3
        · exact Nat.lt_trans h3 (hq x hx)
theorem insR_none {p : PeerV} : ∀ {out : List PeerV}, insR p out = none → ∃ q ∈ out, q.addr = p.addr
  | [], h => by unfold insR at h; cases h
  | q :: r, h => by
    unfold insR at h
    split at h
    · have h9 : insR p r = none := by
        cases h9 : insR p r with
        | none => rfl
        | some o => rw [h9] at h; cases h
      obtain ⟨x, hx, he⟩ := insR_none h9
      exact ⟨x, List.mem_cons_of_mem _ hx, he⟩
    · split at h
      · exact ⟨q, List.mem_cons_self .., by assumption⟩
      · cases h
theorem insR_dup {p : PeerV} : ∀ {out : List PeerV}, out.Pairwise (fun x y => LessP x.id y.id) → p ∈ out → insR p out = none
  | q :: r, hs, hm => by
    obtain ⟨hq, hr⟩ := List.pairwise_cons.1 hs
    unfold insR
    rcases List.mem_cons.1 hm with h | h
    · subst h
      rw [if_neg (show ¬ LessP p.id p.id from Nat.lt_irrefl _), if_pos rfl]
    · rw [if_pos (hq p h), insR_dup hr h]; rfl
theorem insAll_is {l : List PeerV} (hi : ∀ x ∈ l, ∀ y ∈ l, x.id = y.id → x = y) (ha : ∀ x ∈ l, ∀ y ∈ l, x.addr = y.addr → x = y) : ∀ k, k ≤ l.length →
    match insAll (l.take k) with
    | none => ¬ ((l.take k).map PeerV.addr).Nodup
    | some o => o.Perm (l.take k) ∧ o.Pairwise (fun x y => LessP x.id y.id) ∧ ((l.take k).map PeerV.addr).Nodup
  | 0, _ => ⟨.refl _, .nil, .nil⟩
  | k + 1, hk => by
    have ih := insAll_is hi ha k (by omega)
    rw [insAll_succ (by omega)]
    have hn : ((l.take (k + 1)).map PeerV.addr).Nodup ↔ ((l.take k).map PeerV.addr).Nodup ∧ ∀ x ∈ l.take k, x.addr ≠ l[k].addr := by
      rw [List.take_succ_eq_append_getElem (by omega), List.map_append, List.nodup_append]
      simp only [List.map_cons, List.map_nil, List.mem_map, List.mem_singleton, List.nodup_cons, List.not_mem_nil, not_false_eq_true, List.nodup_nil, and_self, true_and]
      constructor
      · rintro ⟨h1, h2⟩
        exact ⟨h1, fun x hx => h2 _ ⟨x, hx, rfl⟩ _ rfl⟩
      · rintro ⟨h1, h2⟩
        refine ⟨h1, ?_⟩
        rintro _ ⟨x, hx, rfl⟩ _ rfl
        exact h2 x hx
    cases h9 : insAll (l.take k) with
    | none =>
      rw [h9] at ih
      show ¬ _
      rw [hn]
      exact fun h => ih h.1
    | some o =>
      rw [h9] at ih
      obtain ⟨h1, h2, h3⟩ := ih
      show match insR l[k] o with | none => _ | some o => _
      cases h8 : insR l[k] o with
      | none =>
        obtain ⟨q, hq, he⟩ := insR_none h8
        show ¬ _
        rw [hn]
        exact fun h => h.2 q (h1.mem_iff.1 hq) he
      | some o' =>
        have hmem : ∀ q ∈ o, q ∈ l := fun q hq => List.mem_of_mem_take (h1.mem_iff.1 hq)
        obtain ⟨g1, g2⟩ := insR_some h2 (fun q hq h => by rw [hi q (hmem q hq) _ (List.getElem_mem (by omega)) h]) h8
        refine ⟨g1.trans ?_, g2, ?_⟩
        · rw [List.take_succ_eq_append_getElem (by omega)]
          exact (h1.cons _).trans (List.perm_append_singleton ..).symm
        · rw [hn]
          refine ⟨h3, fun x hx he => ?_⟩
          have h7 : x = l[k] := ha x (List.mem_of_mem_take hx) _ (List.getElem_mem (by omega)) he
          rw [h7] at hx
          rw [insR_dup h2 (h1.mem_iff.2 hx)] at h8
          cases h8
end Go.Esp
namespace Go.Proofs.YtpfdblknaihidaaDoor
open Go.Esp
theorem F.ok16 : okFn Tryd.prog 16 = true := by kernel_rfl
theorem rPlcI_ok (M : Mem) (a : Int) (ha : ¬ OddA a) : Esp.Fn Tryd.prog 16 [.int .i64 a] M (fun M' v => v = aggV [idSeg (peerN a).id]) := by
  unfold OddA at ha
  obtain ⟨n, rfl⟩ : ∃ n : Nat, a = n := ⟨a.toNat, by omega⟩
  exact rPlc_ok M n (by omega)
def OfR2 (M : Mem) (l : List Int) (v : Value) : Prop := ∃ (s : Sl PeerV) (c : Int), v = .tuple #[s.val, .int .i64 c] ∧ SlK M PeerV.segs 21 s ∧
  (if l.length < 1 ∨ 16 < l.length then s.l = [] ∧ c = 2 else if ∃ a ∈ l, OddA a then s.l = [] ∧ c = 1 else match insAll (l.map peerN) with | none => s.l = [] ∧ c = 9 | some o => s.l = o ∧ c = 0)
theorem insAll_len : ∀ {l : List PeerV} {k : Nat} {o : List PeerV}, k ≤ l.length → insAll (l.take k) = some o → o.length = k
  | l, 0, o, _, h => by
    have h9 : (some [] : Option (List PeerV)) = some o := h
    cases h9; rfl
  | l, k + 1, o, hk, h => by
    rw [insAll_succ (by omega)] at h
    cases h9 : insAll (l.take k) with
    | none => rw [h9] at h; cases h
    | some q =>
      rw [h9] at h
      have h8 := insAll_len (by omega) h9
      have key : ∀ (p : PeerV) (out o : List PeerV), insR p out = some o → o.length = out.length + 1 := by
        intro p out
        induction out with
        | nil => intro o h; unfold insR at h; cases h; rfl
        | cons x r ih =>
          intro o h
          unfold insR at h
          split at h
          · cases h7 : insR p r with
            | none => rw [h7] at h; cases h
            | some o' => rw [h7] at h; cases h; have := ih o' h7; simp; omega
          · split at h
            · cases h
            · cases h; rfl
      rw [key _ _ _ h, h8]
theorem rOf_ok (M : Mem) (l : (Sl Int)) (hl0 : SlK M (oneI .i64) 1 l) : Esp.Fn Tryd.prog 5 [Sl.val l] M (fun M' v => OfR2 M' l.l v) := by
  obtain ⟨l_a, l_c, l_l⟩ := l
  have k_l : SlK M (oneI .i64) 1 ⟨l_a, l_c, l_l⟩ := hl0
  have s_l : SlM M l_a (l_l.map (oneI .i64)) 1 := k_l.h1
  have n_l : (l_l.map (oneI .i64)).length = l_l.length := List.length_map ..
  have m_l : l_l.length ≤ 9223372036854775807 := k_l.h2
  have c_l : l_l.length ≤ l_c := k_l.h3
  refine Zbv Tryd.func5 rfl Tryd.ntmps5 rfl ?_; intro H
  refine Zk ?_; refine Za (l := [0, 1]) rfl ?_; refine Zc rfl rfl rfl rfl ?_; refine Zc rfl rfl rfl rfl ?_; refine Zg ?_; refine Ze ?_; refine Zk ?_; refine Zk ?_; refine Za (l := [0, 1, 2, 3, 4, 5, 6, 7]) rfl ?_; refine Zd rfl rfl rfl rfl ?_; refine Zat rfl rfl rfl rfl F.elem22 rfl ?_; refine Zaq rfl rfl rfl rfl rfl rfl ?_; refine Zd rfl rfl rfl rfl ?_
  refine Zbb 13 rfl (fun hc1 => ?_) (fun hc1 => ?_)
  · first | replace hc1 := dT hc1 | replace hc1 := dF hc1 | replace hc1 := nT hc1 | replace hc1 := nF hc1 | skip
    try simp only [PeerV.eta] at hc1
    first
    | (exfalso; omega)
    | (exfalso; simp [eqX] at hc1; done)
    | contradiction
    | skip
      refine Zj rfl rfl rfl ?_; refine Zj rfl rfl rfl ?_; refine Zj rfl rfl rfl ?_; refine Zx rfl rfl rfl rfl rfl ?_; refine Zg ?_; refine Ze ?_; refine Zl (.cons (k := 17) rfl (.cons (k := 3) rfl (.cons (k := 2) rfl (.cons (k := 0) rfl .nil)))) ?_; refine Zcg rfl ?_; refine Zk ?_; refine Za (l := [0, 1]) rfl ?_; refine Zc rfl rfl rfl rfl ?_; refine Zc rfl rfl rfl rfl ?_; refine Zg ?_; refine Ze ?_; refine Zl (.cons (k := 3) rfl (.cons (k := 2) rfl (.cons (k := 0) rfl .nil))) ?_; refine Zam ?_; refine Zar ?_
      refine Zal (.inr rfl) (.tmp rfl (.tmp rfl .nil)) (fun w hw => ?_)
      refine ⟨_, M, rfl, Mem.le.refl M, hw.cnt (by intro zz; first | exact Nat.le_refl _ | (simp only [Zh, Zf, Zi, cat, List.append_eq, List.append_assoc, List.cons_append, List.nil_append, List.append_nil]; omega) | (simp only [Zh, Zf, Zi, cat, List.append_eq, List.append_assoc, List.cons_append, List.nil_append, List.append_nil, PeerV.segs]; omega)), ?_⟩
      show OfR2 _ l_l _
      refine ⟨⟨none, 0, []⟩, _, rfl, SlK.nil, ?_⟩
      rw [if_pos (by omega)]
      exact ⟨rfl, rfl⟩
  · first | replace hc1 := dT hc1 | replace hc1 := dF hc1 | replace hc1 := nT hc1 | replace hc1 := nF hc1 | skip
    try simp only [PeerV.eta] at hc1
    first
    | (exfalso; omega)
    | (exfalso; simp [eqX] at hc1; done)
    | contradiction
    | skip
      refine Zd rfl rfl rfl rfl ?_; refine Zat rfl rfl rfl rfl F.elem22 rfl ?_; refine Zaq rfl rfl rfl rfl rfl rfl ?_; refine Zx rfl rfl rfl rfl rfl ?_; refine Zg ?_; refine Ze ?_; refine Zl (.cons (k := 17) rfl (.cons (k := 3) rfl (.cons (k := 2) rfl (.cons (k := 0) rfl .nil)))) ?_
      refine Zai rfl (fun hc2 => ?_) (fun hc2 => ?_)
      · first | replace hc2 := dT hc2 | replace hc2 := dF hc2 | replace hc2 := nT hc2 | replace hc2 := nF hc2 | skip
        try simp only [PeerV.eta] at hc2
        first
        | (exfalso; omega)
        | (exfalso; simp [eqX] at hc2; done)
        | contradiction
        | skip
          refine Zk ?_; refine Za (l := [0, 1]) rfl ?_; refine Zc rfl rfl rfl rfl ?_; refine Zc rfl rfl rfl rfl ?_; refine Zg ?_; refine Ze ?_; refine Zl (.cons (k := 3) rfl (.cons (k := 2) rfl (.cons (k := 0) rfl .nil))) ?_; refine Zam ?_; refine Zar ?_
          refine Zal (.inr rfl) (.tmp rfl (.tmp rfl .nil)) (fun w hw => ?_)
          refine ⟨_, M, rfl, Mem.le.refl M, hw.cnt (by intro zz; first | exact Nat.le_refl _ | (simp only [Zh, Zf, Zi, cat, List.append_eq, List.append_assoc, List.cons_append, List.nil_append, List.append_nil]; omega) | (simp only [Zh, Zf, Zi, cat, List.append_eq, List.append_assoc, List.cons_append, List.nil_append, List.append_nil, PeerV.segs]; omega)), ?_⟩
          show OfR2 _ l_l _
          refine ⟨⟨none, 0, []⟩, _, rfl, SlK.nil, ?_⟩
          rw [if_pos (by omega)]
          exact ⟨rfl, rfl⟩
      · first | replace hc2 := dT hc2 | replace hc2 := dF hc2 | replace hc2 := nT hc2 | replace hc2 := nF hc2 | skip
        try simp only [PeerV.eta] at hc2
        first
        | (exfalso; omega)
        | (exfalso; simp [eqX] at hc2; done)
        | contradiction
        | skip
          refine Zah ?_; refine Ze ?_; refine Zl (.cons (k := 3) rfl (.cons (k := 2) rfl (.cons (k := 0) rfl .nil))) ?_; refine Zk ?_; refine Zk ?_; refine Za (l := [0]) rfl ?_; refine Zc rfl rfl rfl rfl ?_; refine Zg ?_; refine Ze ?_; refine Zad ?_; refine Zl (.cons (k := 4) rfl (.cons (k := 3) rfl (.cons (k := 2) rfl (.cons (k := 0) rfl .nil)))) ?_; refine Zbz (.succ .zero) (fun (k : Nat) z => z = [(4, .int .i64 (k : Int))] ∧ k ≤ l_l.length ∧ (∀ j (hj : j < l_l.length), j < k → ¬ OddA l_l[j])) (fun k => l_l.length - k) (0) (⟨rfl, by omega, by (intro j h2 hj; omega)⟩) ?_
          rintro k _ ⟨rfl, hk, hI⟩
          refine Zk ?_; refine Zk ?_; refine Za (l := [0, 1, 2, 3]) rfl ?_; refine Zd rfl rfl rfl rfl ?_; refine Zd rfl rfl rfl rfl ?_; refine Zat rfl rfl rfl rfl F.elem22 rfl ?_; refine Zaq rfl rfl rfl rfl rfl rfl ?_; refine Zg ?_; refine Ze ?_
          refine Zai rfl (fun hc3 => ?_) (fun hc3 => ?_)
          · first | replace hc3 := dT hc3 | replace hc3 := dF hc3 | replace hc3 := nT hc3 | replace hc3 := nF hc3 | skip
            try simp only [PeerV.eta] at hc3
            first
            | (exfalso; omega)
            | (exfalso; simp [eqX] at hc3; done)
            | contradiction
            | skip
              refine Zah ?_; refine Ze ?_; refine Zk ?_; refine Zad ?_; refine Zk ?_; refine Za (l := [0, 1, 2, 3, 4, 5, 6, 7, 8, 9, 10, 11]) rfl ?_; refine Zd rfl rfl rfl rfl ?_; refine Zd rfl rfl rfl rfl ?_; refine Zab rfl rfl rfl rfl F.elem22 (by first | rfl | exact (Int.toNat_of_nonneg (by omega)).symm) (by first | omega | (simp; done) | (simp; omega)) (by first | exact ⟨_, _, rfl⟩ | assumption | exact SlM.plain (by assumption) (by first | (simp; done) | (simp; omega)) | exact RdS.plain (by assumption) (by first | (simp; done) | (simp; omega)) | exact OSl.plain (by assumption) (by first | (simp; done) | (simp; omega))) rfl ?_
              first | refine Zan rfl rfl rfl (by repeat first | exact List.Mem.head _ | refine List.Mem.tail _ ?_ | refine List.mem_append_right _ ?_) F.lay3 rfl rfl rfl ?_ | refine Zv rfl rfl rfl (by first | assumption | exact SlM.mono (by assumption) (by assumption)) (by first | exact Zb (by omega) | exact List.getElem?_eq_getElem (by omega) | exact rfl | exact Zb (by first | (simp; done) | (simp; omega))) F.lay3 rfl rfl rfl ?_ | refine Zu rfl rfl rfl (by assumption) (by first | exact Zb (by omega) | exact List.getElem?_eq_getElem (by omega) | exact rfl | exact Zb (by first | (simp; done) | (simp; omega))) F.lay3 rfl rfl rfl ?_ | refine Zs rfl rfl rfl (by first | assumption | exact Mem.get_of (by assumption) (by repeat first | assumption | refine Mem.le.trans (by assumption) ?_)) F.lay3 rfl rfl rfl ?_ | refine Zp rfl rfl rfl (by assumption) (by repeat first | exact Rem.here _ | exact Rem.two | apply Rem.skip | apply Rem.over) (by first | exact Zb (by omega) | exact List.getElem?_eq_getElem (by omega) | exact rfl | exact Zb (by first | (simp; done) | (simp; omega))) F.lay3 rfl rfl rfl ?_ | refine Zr rfl rfl rfl (by repeat first | exact List.Mem.head _ | refine List.Mem.tail _ ?_ | refine List.mem_append_right _ ?_) F.lay3 (by first | exact Zbw (by first | omega | decide) | exact Zbk (by first | omega | decide)) rfl ?_
              refine Zaq rfl rfl rfl rfl rfl rfl ?_; refine Zd rfl rfl rfl rfl ?_
              refine Zbb 29 rfl (fun hc4 => ?_) (fun hc4 => ?_)
              · first | replace hc4 := dT hc4 | replace hc4 := dF hc4 | replace hc4 := nT hc4 | replace hc4 := nF hc4 | skip
                try simp only [PeerV.eta] at hc4
                first
                | (exfalso; omega)
                | (exfalso; simp [eqX] at hc4; done)
                | contradiction
                | skip
                  refine Zj rfl rfl rfl ?_; refine Zj rfl rfl rfl ?_; refine Zj rfl rfl rfl ?_; refine Zj rfl rfl rfl ?_; refine Zj rfl rfl rfl ?_; refine Zx rfl rfl rfl rfl rfl ?_; refine Zg ?_; refine Ze ?_; refine Zcg rfl ?_; refine Zk ?_; refine Za (l := [0, 1]) rfl ?_; refine Zc rfl rfl rfl rfl ?_; refine Zc rfl rfl rfl rfl ?_; refine Zg ?_; refine Ze ?_; refine Zam ?_; refine Zbe ?_; refine Zar ?_; refine Zar ?_; refine Zbe ?_; refine Zar ?_
                  refine Zal (.inr rfl) (.tmp rfl (.tmp rfl .nil)) (fun w hw => ?_)
                  refine ⟨_, M, rfl, Mem.le.refl M, hw.cnt (by intro zz; first | exact Nat.le_refl _ | (simp only [Zh, Zf, Zi, cat, List.append_eq, List.append_assoc, List.cons_append, List.nil_append, List.append_nil]; omega) | (simp only [Zh, Zf, Zi, cat, List.append_eq, List.append_assoc, List.cons_append, List.nil_append, List.append_nil, PeerV.segs]; omega)), ?_⟩
                  show OfR2 _ l_l _
                  refine ⟨⟨none, 0, []⟩, _, rfl, SlK.nil, ?_⟩
                  rw [if_neg (by omega), if_pos ⟨l_l[k], List.getElem_mem (by omega), by unfold OddA; omega⟩]
                  exact ⟨rfl, rfl⟩
              · first | replace hc4 := dT hc4 | replace hc4 := dF hc4 | replace hc4 := nT hc4 | replace hc4 := nF hc4 | skip
                try simp only [PeerV.eta] at hc4
                first
                | (exfalso; omega)
                | (exfalso; simp [eqX] at hc4; done)
                | contradiction
                | skip
                  refine Zd rfl rfl rfl rfl ?_; refine Zd rfl rfl rfl rfl ?_; refine Zab rfl rfl rfl rfl F.elem22 (by first | rfl | exact (Int.toNat_of_nonneg (by omega)).symm) (by first | omega | (simp; done) | (simp; omega)) (by first | exact ⟨_, _, rfl⟩ | assumption | exact SlM.plain (by assumption) (by first | (simp; done) | (simp; omega)) | exact RdS.plain (by assumption) (by first | (simp; done) | (simp; omega)) | exact OSl.plain (by assumption) (by first | (simp; done) | (simp; omega))) rfl ?_
                  first | refine Zan rfl rfl rfl (by repeat first | exact List.Mem.head _ | refine List.Mem.tail _ ?_ | refine List.mem_append_right _ ?_) F.lay3 rfl rfl rfl ?_ | refine Zv rfl rfl rfl (by first | assumption | exact SlM.mono (by assumption) (by assumption)) (by first | exact Zb (by omega) | exact List.getElem?_eq_getElem (by omega) | exact rfl | exact Zb (by first | (simp; done) | (simp; omega))) F.lay3 rfl rfl rfl ?_ | refine Zu rfl rfl rfl (by assumption) (by first | exact Zb (by omega) | exact List.getElem?_eq_getElem (by omega) | exact rfl | exact Zb (by first | (simp; done) | (simp; omega))) F.lay3 rfl rfl rfl ?_ | refine Zs rfl rfl rfl (by first | assumption | exact Mem.get_of (by assumption) (by repeat first | assumption | refine Mem.le.trans (by assumption) ?_)) F.lay3 rfl rfl rfl ?_ | refine Zp rfl rfl rfl (by assumption) (by repeat first | exact Rem.here _ | exact Rem.two | apply Rem.skip | apply Rem.over) (by first | exact Zb (by omega) | exact List.getElem?_eq_getElem (by omega) | exact rfl | exact Zb (by first | (simp; done) | (simp; omega))) F.lay3 rfl rfl rfl ?_ | refine Zr rfl rfl rfl (by repeat first | exact List.Mem.head _ | refine List.Mem.tail _ ?_ | refine List.mem_append_right _ ?_) F.lay3 (by first | exact Zbw (by first | omega | decide) | exact Zbk (by first | omega | decide)) rfl ?_
                  refine Zaq rfl rfl rfl rfl rfl rfl ?_; refine Zx rfl rfl rfl rfl rfl ?_; refine Zg ?_; refine Ze ?_
                  refine Zai rfl (fun hc5 => ?_) (fun hc5 => ?_)
                  · first | replace hc5 := dT hc5 | replace hc5 := dF hc5 | replace hc5 := nT hc5 | replace hc5 := nF hc5 | skip
                    try simp only [PeerV.eta] at hc5
                    first
                    | (exfalso; omega)
                    | (exfalso; simp [eqX] at hc5; done)
                    | contradiction
                    | skip
                      refine Zk ?_; refine Za (l := [0, 1]) rfl ?_; refine Zc rfl rfl rfl rfl ?_; refine Zc rfl rfl rfl rfl ?_; refine Zg ?_; refine Ze ?_; refine Zam ?_; refine Zbe ?_; refine Zar ?_; refine Zar ?_; refine Zbe ?_; refine Zar ?_
                      refine Zal (.inr rfl) (.tmp rfl (.tmp rfl .nil)) (fun w hw => ?_)
                      refine ⟨_, M, rfl, Mem.le.refl M, hw.cnt (by intro zz; first | exact Nat.le_refl _ | (simp only [Zh, Zf, Zi, cat, List.append_eq, List.append_assoc, List.cons_append, List.nil_append, List.append_nil]; omega) | (simp only [Zh, Zf, Zi, cat, List.append_eq, List.append_assoc, List.cons_append, List.nil_append, List.append_nil, PeerV.segs]; omega)), ?_⟩
                      show OfR2 _ l_l _
                      refine ⟨⟨none, 0, []⟩, _, rfl, SlK.nil, ?_⟩
                      rw [if_neg (by omega), if_pos ⟨l_l[k], List.getElem_mem (by omega), by unfold OddA; omega⟩]
                      exact ⟨rfl, rfl⟩
                  · first | replace hc5 := dT hc5 | replace hc5 := dF hc5 | replace hc5 := nT hc5 | replace hc5 := nF hc5 | skip
                    try simp only [PeerV.eta] at hc5
                    first
                    | (exfalso; omega)
                    | (exfalso; simp [eqX] at hc5; done)
                    | contradiction
                    | skip
                      refine Zah ?_; refine Zbs ?_; refine Ze ?_; refine Za (l := [0, 1, 2]) rfl ?_; refine Zd rfl rfl rfl rfl ?_; refine Zav rfl rfl rfl rfl rfl (by first | exact Zaa (by decide) (by omega) | exact Zm (by decide) (by omega) | exact Zo (by decide) (by omega) | exact Zn (by decide) (by omega) | exact Zt _ | exact Zz _ | exact Zq _ | exact rfl) rfl ?_; refine Zc rfl rfl rfl rfl ?_; refine Zg ?_; refine Zbp (a' := [(4, _)]) (k + 1) (.cons (k := 4) rfl (.cons (k := 3) rfl (.cons (k := 2) rfl (.cons (k := 0) rfl (.nil))))) (fun w hw => by first | exact hw | exact hw.cnt (by intro zz; first | exact Nat.le_refl _ | (simp only [Zh, Zf, Zi, cat, List.append_eq, List.append_assoc, List.cons_append, List.nil_append, List.append_nil]; omega) | (simp only [Zh, Zf, Zi, cat, List.append_eq, List.append_assoc, List.cons_append, List.nil_append, List.append_nil, PeerV.segs]; omega))) ?_ ?_
                      · refine ⟨rfl, by omega, ?_⟩
                        (intro j h2 hj; rcases Nat.lt_or_ge j k with h9 | h9; exact hI j h2 h9; obtain rfl : j = k := (by omega); unfold OddA; omega)
                      · omega
          · first | replace hc3 := dT hc3 | replace hc3 := dF hc3 | replace hc3 := nT hc3 | replace hc3 := nF hc3 | skip
            try simp only [PeerV.eta] at hc3
            first
            | (exfalso; omega)
            | (exfalso; simp [eqX] at hc3; done)
            | contradiction
            | skip
              refine Zbl ?_; refine Zao ?_; refine Zao ?_; refine Zbx ?_; refine Ze ?_; refine Zl (.cons (k := 3) rfl (.cons (k := 2) rfl (.cons (k := 0) rfl .nil))) ?_; refine Zk ?_; refine Za (l := [0]) rfl ?_
              obtain rfl : k = l_l.length := by omega
              have hn9 : ∀ j (hj : j < l_l.length), ¬ OddA l_l[j] := fun j h => hI j h h
              clear hI
              refine Zc rfl rfl rfl rfl ?_; refine Zg ?_; refine Ze ?_; refine Zk ?_; refine Zk ?_; refine Za (l := [0]) rfl ?_; refine Zc rfl rfl rfl rfl ?_; refine Zg ?_; refine Ze ?_; refine Zad ?_; refine Zl (.cons (k := 6) rfl (.cons (k := 5) rfl (.cons (k := 3) rfl (.cons (k := 2) rfl (.cons (k := 0) rfl .nil))))) ?_; refine Zbu (Hin := []) (.succ (.succ .zero)) (by repeat first | exact Rem.here _ | exact Rem.two | apply Rem.skip | apply Rem.over) (fun (i : Nat) M1 h1 z => ∃ q : Sl PeerV, h1 = [] ∧ z = [(6, .int .i64 (i : Int)), (5, Sl.val q)] ∧ i ≤ l_l.length ∧ insAll ((l_l.map peerN).take (i)) = some q.l ∧ SlK M1 PeerV.segs 21 q) (fun i => l_l.length - i) (0) (⟨⟨none, 0, []⟩, rfl, rfl, by omega, rfl, SlK.nil⟩) ?_
              rintro i M1 h1 z hm1 ⟨⟨q_a, q_c, q_l⟩, rfl, rfl, hi, hq, k_q⟩
              have hq : insAll ((l_l.map peerN).take (i)) = some q_l := hq
              have hql := insAll_len (by rw [List.length_map]; exact hi) hq
              have s_l1 := s_l.mono hm1
              have s_q := k_q.h1
              try simp only at s_q
              have c_q := k_q.h3
              have m_q := k_q.h2
              try simp only at c_q m_q
              have n_q : (q_l.map PeerV.segs).length = q_l.length := List.length_map ..
              refine Zk ?_; refine Zk ?_; refine Za (l := [0, 1, 2, 3]) rfl ?_; refine Zd rfl rfl rfl rfl ?_; refine Zd rfl rfl rfl rfl ?_; refine Zat rfl rfl rfl rfl F.elem22 rfl ?_; refine Zaq rfl rfl rfl rfl rfl rfl ?_; refine Zg ?_; refine Ze ?_
              refine Zai rfl (fun hc6 => ?_) (fun hc6 => ?_)
              · first | replace hc6 := dT hc6 | replace hc6 := dF hc6 | replace hc6 := nT hc6 | replace hc6 := nF hc6 | skip
                try simp only [PeerV.eta] at hc6
                first
                | (exfalso; omega)
                | (exfalso; simp [eqX] at hc6; done)
                | contradiction
                | skip
                  refine Zah ?_; refine Ze ?_; refine Zk ?_; refine Zad ?_; refine Zk ?_; refine Zaf (l := [0, 1, 2, 3, 4, 5, 6, 7, 8, 9, 10, 11]) #[0, 0, 3, 7, 0, 0, 48, 112, 240, 511, 0, 2047] _ rfl (by kernel_rfl) (by kernel_rfl) St.drawn (fun _ h => h) ?_; refine Zd rfl rfl rfl rfl ?_; refine Zd rfl rfl rfl rfl ?_; refine Zab rfl rfl rfl rfl F.elem22 (by first | rfl | exact (Int.toNat_of_nonneg (by omega)).symm) (by first | omega | (simp; done) | (simp; omega)) (by first | exact ⟨_, _, rfl⟩ | assumption | exact SlM.plain (by assumption) (by first | (simp; done) | (simp; omega)) | exact RdS.plain (by assumption) (by first | (simp; done) | (simp; omega)) | exact OSl.plain (by assumption) (by first | (simp; done) | (simp; omega))) rfl ?_
                  first | refine Zan rfl rfl rfl (by repeat first | exact List.Mem.head _ | refine List.Mem.tail _ ?_ | refine List.mem_append_right _ ?_) F.lay3 rfl rfl rfl ?_ | refine Zv rfl rfl rfl (by first | assumption | exact SlM.mono (by assumption) (by assumption)) (by first | exact Zb (by omega) | exact List.getElem?_eq_getElem (by omega) | exact rfl | exact Zb (by first | (simp; done) | (simp; omega))) F.lay3 rfl rfl rfl ?_ | refine Zu rfl rfl rfl (by assumption) (by first | exact Zb (by omega) | exact List.getElem?_eq_getElem (by omega) | exact rfl | exact Zb (by first | (simp; done) | (simp; omega))) F.lay3 rfl rfl rfl ?_ | refine Zs rfl rfl rfl (by first | assumption | exact Mem.get_of (by assumption) (by repeat first | assumption | refine Mem.le.trans (by assumption) ?_)) F.lay3 rfl rfl rfl ?_ | refine Zp rfl rfl rfl (by assumption) (by repeat first | exact Rem.here _ | exact Rem.two | apply Rem.skip | apply Rem.over) (by first | exact Zb (by omega) | exact List.getElem?_eq_getElem (by omega) | exact rfl | exact Zb (by first | (simp; done) | (simp; omega))) F.lay3 rfl rfl rfl ?_ | refine Zr rfl rfl rfl (by repeat first | exact List.Mem.head _ | refine List.Mem.tail _ ?_ | refine List.mem_append_right _ ?_) F.lay3 (by first | exact Zbw (by first | omega | decide) | exact Zbk (by first | omega | decide)) rfl ?_
                  refine Zd rfl rfl rfl rfl ?_; refine Zd rfl rfl rfl rfl ?_; refine Zab rfl rfl rfl rfl F.elem22 (by first | rfl | exact (Int.toNat_of_nonneg (by omega)).symm) (by first | omega | (simp; done) | (simp; omega)) (by first | exact ⟨_, _, rfl⟩ | assumption | exact SlM.plain (by assumption) (by first | (simp; done) | (simp; omega)) | exact RdS.plain (by assumption) (by first | (simp; done) | (simp; omega)) | exact OSl.plain (by assumption) (by first | (simp; done) | (simp; omega))) rfl ?_
                  first | refine Zan rfl rfl rfl (by repeat first | exact List.Mem.head _ | refine List.Mem.tail _ ?_ | refine List.mem_append_right _ ?_) F.lay3 rfl rfl rfl ?_ | refine Zv rfl rfl rfl (by first | assumption | exact SlM.mono (by assumption) (by assumption)) (by first | exact Zb (by omega) | exact List.getElem?_eq_getElem (by omega) | exact rfl | exact Zb (by first | (simp; done) | (simp; omega))) F.lay3 rfl rfl rfl ?_ | refine Zu rfl rfl rfl (by assumption) (by first | exact Zb (by omega) | exact List.getElem?_eq_getElem (by omega) | exact rfl | exact Zb (by first | (simp; done) | (simp; omega))) F.lay3 rfl rfl rfl ?_ | refine Zs rfl rfl rfl (by first | assumption | exact Mem.get_of (by assumption) (by repeat first | assumption | refine Mem.le.trans (by assumption) ?_)) F.lay3 rfl rfl rfl ?_ | refine Zp rfl rfl rfl (by assumption) (by repeat first | exact Rem.here _ | exact Rem.two | apply Rem.skip | apply Rem.over) (by first | exact Zb (by omega) | exact List.getElem?_eq_getElem (by omega) | exact rfl | exact Zb (by first | (simp; done) | (simp; omega))) F.lay3 rfl rfl rfl ?_ | refine Zr rfl rfl rfl (by repeat first | exact List.Mem.head _ | refine List.Mem.tail _ ?_ | refine List.mem_append_right _ ?_) F.lay3 (by first | exact Zbw (by first | omega | decide) | exact Zbk (by first | omega | decide)) rfl ?_
                  refine X_fn rfl rfl F.ok16 rfl (rPlcI_ok _ l_l[i] (hn9 i (by omega))) rfl ?_
                  rintro _ M2 hm2 rfl
                  obtain ⟨⟨Zbg, p_id⟩, hp⟩ : ∃ p, peerN l_l[i] = p := ⟨_, rfl⟩
                  rw [hp]
                  have s_l2 := s_l1.mono hm2
                  have s_q2 := s_q.mono hm2
                  refine Zcd rfl rfl F.bld39 (.cons rfl (by constructor) (.cons rfl (by constructor) .nil)) rfl rfl ?_; refine XD_is 51 rfl (show _ = aggV (PeerV.segs (⟨Zbg, p_id⟩ : PeerV)) from by rw [← hp]; rfl) ?_
                  refine Zbm rfl rfl F.zero39 (by constructor) rfl ?_; intro b7
                  refine Zbi rfl rfl rfl rfl (by constructor) (by first | ((try simp only [cat, List.cons_append, List.nil_append, List.append_nil]); (repeat (first | exact Zag | refine Zau ?_ | (refine Zae ?_ ?_; rfl))); done) | exact PeerV.flat _ | exact PeerV.flat ⟨_, _⟩ | exact stFlat _ | exact Zay _ | exact Zaz | (simp [flat, cat, Segs.cells, Seg.cells, Value.oneCell']; done)) (by repeat first | exact Upd.head | apply Upd.tail | apply Upd.over) F.lay39 rfl rfl ?_; refine Zg ?_; refine Ze ?_; refine Zk ?_; refine Za (l := [0]) rfl ?_; refine Zc rfl rfl rfl rfl ?_; refine Zg ?_; refine Ze ?_; refine Zk ?_; refine Za (l := [0]) rfl ?_; refine Zc rfl rfl rfl rfl ?_; refine Zg ?_; refine Ze ?_; refine Zk ?_; refine Zad ?_; refine Zl (.cons (k := 9) rfl (.cons (k := 8) rfl (.cons (k := 7) rfl (.cons (k := 51) rfl (.cons (k := 50) rfl (.cons (k := 49) rfl (.cons (k := 48) rfl (.cons (k := 47) rfl (.cons (k := 46) rfl (.cons (k := 45) rfl (.cons (k := 44) rfl (.cons (k := 43) rfl (.cons (k := 42) rfl (.cons (k := 39) rfl (.cons (k := 38) rfl (.cons (k := 37) rfl (.cons (k := 36) rfl (.cons (k := 6) rfl (.cons (k := 5) rfl (.cons (k := 3) rfl (.cons (k := 2) rfl (.cons (k := 0) rfl .nil)))))))))))))))))))))) ?_
                  refine Zbz (.succ .zero) (fun (k : Nat) z => z = [(9, .int .i64 (k : Int))] ∧ k ≤ q_l.length ∧ (∀ j (hj : j < q_l.length), j < k → LessP q_l[j].id p_id)) (fun k => q_l.length - k) (0) (⟨rfl, by omega, by (intro j h2 hj; omega)⟩) ?_
                  rintro k _ ⟨rfl, hk, hI⟩
                  refine Zk ?_; refine Zk ?_; refine Zaf (l := [0, 1, 2, 3, 4, 5, 6, 7, 8, 9, 10, 11, 12, 13]) #[0, 0, 2, 7, 15, 31, 31, 127, 255, 511, 31, 1055, 4095, 8191] _ rfl (by kernel_rfl) (by kernel_rfl) St.drawn (fun _ h => h) ?_; refine Zd rfl rfl rfl rfl ?_; refine Zd rfl rfl rfl rfl ?_; refine Zat rfl rfl rfl rfl F.elem23 rfl ?_; refine Zaq rfl rfl rfl rfl rfl rfl ?_; refine Zd rfl rfl rfl rfl ?_
                  refine Zbb 56 rfl (fun hc8 => ?_) (fun hc8 => ?_)
                  · first | replace hc8 := dT hc8 | replace hc8 := dF hc8 | replace hc8 := nT hc8 | replace hc8 := nF hc8 | skip
                    try simp only [PeerV.eta] at hc8
                    first
                    | (exfalso; omega)
                    | (exfalso; simp [eqX] at hc8; done)
                    | contradiction
                    | skip
                      refine Zd rfl rfl rfl rfl ?_; refine Zd rfl rfl rfl rfl ?_; refine Zab rfl rfl rfl rfl F.elem23 (by first | rfl | exact (Int.toNat_of_nonneg (by omega)).symm) (by first | omega | (simp; done) | (simp; omega)) (by first | exact ⟨_, _, rfl⟩ | assumption | exact SlM.plain (by assumption) (by first | (simp; done) | (simp; omega)) | exact RdS.plain (by assumption) (by first | (simp; done) | (simp; omega)) | exact OSl.plain (by assumption) (by first | (simp; done) | (simp; omega))) rfl ?_
                      first | refine Zak rfl rfl rfl F.foff39_1 rfl ?_ | refine Zac rfl rfl rfl (by first | exact ⟨_, _, rfl⟩ | assumption | exact SlM.plain (by assumption) (by first | (simp; done) | (simp; omega)) | exact RdS.plain (by assumption) (by first | (simp; done) | (simp; omega)) | exact OSl.plain (by assumption) (by first | (simp; done) | (simp; omega))) F.foff39_1 rfl ?_
                      first | refine Zan rfl rfl rfl (by repeat first | exact List.Mem.head _ | refine List.Mem.tail _ ?_ | refine List.mem_append_right _ ?_) F.lay34 rfl rfl rfl ?_ | refine Zv rfl rfl rfl (by first | assumption | exact SlM.mono (by assumption) (by assumption)) (by first | exact Zb (by omega) | exact List.getElem?_eq_getElem (by omega) | exact rfl | exact Zb (by first | (simp; done) | (simp; omega))) F.lay34 rfl rfl rfl ?_ | refine Zu rfl rfl rfl (by assumption) (by first | exact Zb (by omega) | exact List.getElem?_eq_getElem (by omega) | exact rfl | exact Zb (by first | (simp; done) | (simp; omega))) F.lay34 rfl rfl rfl ?_ | refine Zs rfl rfl rfl (by first | assumption | exact Mem.get_of (by assumption) (by repeat first | assumption | refine Mem.le.trans (by assumption) ?_)) F.lay34 rfl rfl rfl ?_ | refine Zp rfl rfl rfl (by assumption) (by repeat first | exact Rem.here _ | exact Rem.two | apply Rem.skip | apply Rem.over) (by first | exact Zb (by omega) | exact List.getElem?_eq_getElem (by omega) | exact rfl | exact Zb (by first | (simp; done) | (simp; omega))) F.lay34 rfl rfl rfl ?_
                      first | refine Zak rfl rfl rfl F.foff39_1 rfl ?_ | refine Zac rfl rfl rfl (by first | exact ⟨_, _, rfl⟩ | assumption | exact SlM.plain (by assumption) (by first | (simp; done) | (simp; omega)) | exact RdS.plain (by assumption) (by first | (simp; done) | (simp; omega)) | exact OSl.plain (by assumption) (by first | (simp; done) | (simp; omega))) F.foff39_1 rfl ?_
                      first | refine Zan rfl rfl rfl (by repeat first | exact List.Mem.head _ | refine List.Mem.tail _ ?_ | refine List.mem_append_right _ ?_) F.lay34 rfl rfl rfl ?_ | refine Zv rfl rfl rfl (by first | assumption | exact SlM.mono (by assumption) (by assumption)) (by first | exact Zb (by omega) | exact List.getElem?_eq_getElem (by omega) | exact rfl | exact Zb (by first | (simp; done) | (simp; omega))) F.lay34 rfl rfl rfl ?_ | refine Zu rfl rfl rfl (by assumption) (by first | exact Zb (by omega) | exact List.getElem?_eq_getElem (by omega) | exact rfl | exact Zb (by first | (simp; done) | (simp; omega))) F.lay34 rfl rfl rfl ?_ | refine Zs rfl rfl rfl (by first | assumption | exact Mem.get_of (by assumption) (by repeat first | assumption | refine Mem.le.trans (by assumption) ?_)) F.lay34 rfl rfl rfl ?_ | refine Zp rfl rfl rfl (by assumption) (by repeat first | exact Rem.here _ | exact Rem.two | apply Rem.skip | apply Rem.over) (by first | exact Zb (by omega) | exact List.getElem?_eq_getElem (by omega) | exact rfl | exact Zb (by first | (simp; done) | (simp; omega))) F.lay34 rfl rfl rfl ?_
                      refine X_fs rfl rfl F.ok17 rfl (rLess_ok _ _ _) rfl ?_
                      rintro _ rfl
                      refine Zx rfl rfl rfl rfl rfl ?_; refine Zg ?_; refine Ze ?_
                      refine Zai rfl (fun hc9 => ?_) (fun hc9 => ?_)
                      · first | replace hc9 := dT hc9 | replace hc9 := dF hc9 | replace hc9 := nT hc9 | replace hc9 := nF hc9 | skip
                        try simp only [PeerV.eta] at hc9
                        first
                        | (exfalso; omega)
                        | (exfalso; simp [eqX] at hc9; done)
                        | contradiction
                        | skip
                          refine Zah ?_; refine Ze ?_; refine Zad ?_; refine Za (l := [0, 1, 2]) rfl ?_; refine Zd rfl rfl rfl rfl ?_; refine Zav rfl rfl rfl rfl rfl (by first | exact Zaa (by decide) (by omega) | exact Zm (by decide) (by omega) | exact Zo (by decide) (by omega) | exact Zn (by decide) (by omega) | exact Zt _ | exact Zz _ | exact Zq _ | exact rfl) rfl ?_; refine Zc rfl rfl rfl rfl ?_; refine Zg ?_; refine Zbs ?_; refine Zbp (a' := [(9, _)]) (k + 1) (.cons (k := 9) rfl (.cons (k := 8) rfl (.cons (k := 7) rfl (.cons (k := 51) rfl (.cons (k := 50) rfl (.cons (k := 49) rfl (.cons (k := 48) rfl (.cons (k := 47) rfl (.cons (k := 46) rfl (.cons (k := 45) rfl (.cons (k := 44) rfl (.cons (k := 43) rfl (.cons (k := 42) rfl (.cons (k := 39) rfl (.cons (k := 38) rfl (.cons (k := 37) rfl (.cons (k := 36) rfl (.cons (k := 6) rfl (.cons (k := 5) rfl (.cons (k := 3) rfl (.cons (k := 2) rfl (.cons (k := 0) rfl (.nil))))))))))))))))))))))) (fun w hw => by first | exact hw | exact hw.cnt (by intro zz; first | exact Nat.le_refl _ | (simp only [Zh, Zf, Zi, cat, List.append_eq, List.append_assoc, List.cons_append, List.nil_append, List.append_nil]; omega) | (simp only [Zh, Zf, Zi, cat, List.append_eq, List.append_assoc, List.cons_append, List.nil_append, List.append_nil, PeerV.segs]; omega))) ?_ ?_
                          · refine ⟨rfl, by omega, ?_⟩
                            (intro j h2 hj; rcases Nat.lt_or_ge j k with h9 | h9; exact hI j h2 h9; obtain rfl : j = k := (by omega); assumption)
                          · omega
                      · first | replace hc9 := dT hc9 | replace hc9 := dF hc9 | replace hc9 := nT hc9 | replace hc9 := nF hc9 | skip
                        try simp only [PeerV.eta] at hc9
                        first
                        | (exfalso; omega)
                        | (exfalso; simp [eqX] at hc9; done)
                        | contradiction
                        | skip
                          refine Zbl ?_; refine Zao ?_; refine Zao ?_; refine Zbx ?_; refine Ze ?_; refine Zk ?_; refine Zk ?_; refine Zaf (l := [0, 1, 2, 3, 4, 5, 6, 7, 8, 9, 10, 11, 12, 13]) #[0, 0, 2, 7, 15, 31, 31, 127, 255, 511, 31, 1055, 4095, 8191] _ rfl (by kernel_rfl) (by kernel_rfl) St.drawn (fun _ h => h) ?_; refine Zd rfl rfl rfl rfl ?_; refine Zd rfl rfl rfl rfl ?_; refine Zat rfl rfl rfl rfl F.elem23 rfl ?_; refine Zaq rfl rfl rfl rfl rfl rfl ?_; refine Zd rfl rfl rfl rfl ?_
                          refine Zbb 72 rfl (fun hc10 => ?_) (fun hc10 => ?_)
                          · first | replace hc10 := dT hc10 | replace hc10 := dF hc10 | replace hc10 := nT hc10 | replace hc10 := nF hc10 | skip
                            try simp only [PeerV.eta] at hc10
                            first
                            | (exfalso; omega)
                            | (exfalso; simp [eqX] at hc10; done)
                            | contradiction
                            | skip
                              refine Zd rfl rfl rfl rfl ?_; refine Zd rfl rfl rfl rfl ?_; refine Zab rfl rfl rfl rfl F.elem23 (by first | rfl | exact (Int.toNat_of_nonneg (by omega)).symm) (by first | omega | (simp; done) | (simp; omega)) (by first | exact ⟨_, _, rfl⟩ | assumption | exact SlM.plain (by assumption) (by first | (simp; done) | (simp; omega)) | exact RdS.plain (by assumption) (by first | (simp; done) | (simp; omega)) | exact OSl.plain (by assumption) (by first | (simp; done) | (simp; omega))) rfl ?_
                              first | refine Zak rfl rfl rfl F.foff39_0 rfl ?_ | refine Zac rfl rfl rfl (by first | exact ⟨_, _, rfl⟩ | assumption | exact SlM.plain (by assumption) (by first | (simp; done) | (simp; omega)) | exact RdS.plain (by assumption) (by first | (simp; done) | (simp; omega)) | exact OSl.plain (by assumption) (by first | (simp; done) | (simp; omega))) F.foff39_0 rfl ?_
                              first | refine Zan rfl rfl rfl (by repeat first | exact List.Mem.head _ | refine List.Mem.tail _ ?_ | refine List.mem_append_right _ ?_) F.lay3 rfl rfl rfl ?_ | refine Zv rfl rfl rfl (by first | assumption | exact SlM.mono (by assumption) (by assumption)) (by first | exact Zb (by omega) | exact List.getElem?_eq_getElem (by omega) | exact rfl | exact Zb (by first | (simp; done) | (simp; omega))) F.lay3 rfl rfl rfl ?_ | refine Zu rfl rfl rfl (by assumption) (by first | exact Zb (by omega) | exact List.getElem?_eq_getElem (by omega) | exact rfl | exact Zb (by first | (simp; done) | (simp; omega))) F.lay3 rfl rfl rfl ?_ | refine Zs rfl rfl rfl (by first | assumption | exact Mem.get_of (by assumption) (by repeat first | assumption | refine Mem.le.trans (by assumption) ?_)) F.lay3 rfl rfl rfl ?_ | refine Zp rfl rfl rfl (by assumption) (by repeat first | exact Rem.here _ | exact Rem.two | apply Rem.skip | apply Rem.over) (by first | exact Zb (by omega) | exact List.getElem?_eq_getElem (by omega) | exact rfl | exact Zb (by first | (simp; done) | (simp; omega))) F.lay3 rfl rfl rfl ?_ | refine Zr rfl rfl rfl (by repeat first | exact List.Mem.head _ | refine List.Mem.tail _ ?_ | refine List.mem_append_right _ ?_) F.lay3 (by first | exact Zbw (by first | omega | decide) | exact Zbk (by first | omega | decide)) rfl ?_
                              first | refine Zak rfl rfl rfl F.foff39_0 rfl ?_ | refine Zac rfl rfl rfl (by first | exact ⟨_, _, rfl⟩ | assumption | exact SlM.plain (by assumption) (by first | (simp; done) | (simp; omega)) | exact RdS.plain (by assumption) (by first | (simp; done) | (simp; omega)) | exact OSl.plain (by assumption) (by first | (simp; done) | (simp; omega))) F.foff39_0 rfl ?_
                              first | refine Zan rfl rfl rfl (by repeat first | exact List.Mem.head _ | refine List.Mem.tail _ ?_ | refine List.mem_append_right _ ?_) F.lay3 rfl rfl rfl ?_ | refine Zv rfl rfl rfl (by first | assumption | exact SlM.mono (by assumption) (by assumption)) (by first | exact Zb (by omega) | exact List.getElem?_eq_getElem (by omega) | exact rfl | exact Zb (by first | (simp; done) | (simp; omega))) F.lay3 rfl rfl rfl ?_ | refine Zu rfl rfl rfl (by assumption) (by first | exact Zb (by omega) | exact List.getElem?_eq_getElem (by omega) | exact rfl | exact Zb (by first | (simp; done) | (simp; omega))) F.lay3 rfl rfl rfl ?_ | refine Zs rfl rfl rfl (by first | assumption | exact Mem.get_of (by assumption) (by repeat first | assumption | refine Mem.le.trans (by assumption) ?_)) F.lay3 rfl rfl rfl ?_ | refine Zp rfl rfl rfl (by assumption) (by repeat first | exact Rem.here _ | exact Rem.two | apply Rem.skip | apply Rem.over) (by first | exact Zb (by omega) | exact List.getElem?_eq_getElem (by omega) | exact rfl | exact Zb (by first | (simp; done) | (simp; omega))) F.lay3 rfl rfl rfl ?_ | refine Zr rfl rfl rfl (by repeat first | exact List.Mem.head _ | refine List.Mem.tail _ ?_ | refine List.mem_append_right _ ?_) F.lay3 (by first | exact Zbw (by first | omega | decide) | exact Zbk (by first | omega | decide)) rfl ?_
                              refine Zaq rfl rfl rfl rfl rfl rfl ?_; refine Zx rfl rfl rfl rfl rfl ?_; refine Zg ?_; refine Ze ?_
                              refine Zai rfl (fun hc11 => ?_) (fun hc11 => ?_)
                              · first | replace hc11 := dT hc11 | replace hc11 := dF hc11 | replace hc11 := nT hc11 | replace hc11 := nF hc11 | skip
                                try simp only [PeerV.eta] at hc11
                                first
                                | (exfalso; omega)
                                | (exfalso; simp [eqX] at hc11; done)
                                | contradiction
                                | skip
                                  refine Zk ?_; refine Za (l := [0, 1]) rfl ?_; refine Zc rfl rfl rfl rfl ?_; refine Zc rfl rfl rfl rfl ?_; refine Zg ?_; refine Ze ?_; refine Zam ?_; refine Zar ?_; refine Zbe ?_; refine Zar ?_; refine Zar ?_; refine Zbe ?_; refine Zar ?_
                                  refine Zal (.inr rfl) (.tmp rfl (.tmp rfl .nil)) (fun w hw => ?_)
                                  refine ⟨_, M2, rfl, hm1.trans hm2, hw.cnt (by intro zz; first | exact Nat.le_refl _ | (simp only [Zh, Zf, Zi, cat, List.append_eq, List.append_assoc, List.cons_append, List.nil_append, List.append_nil]; omega) | (simp only [Zh, Zf, Zi, cat, List.append_eq, List.append_assoc, List.cons_append, List.nil_append, List.append_nil, PeerV.segs]; omega)), ?_⟩
                                  show OfR2 _ l_l _
                                  refine ⟨⟨none, 0, []⟩, _, rfl, SlK.nil, ?_⟩
                                  rw [if_neg (by omega), if_neg (by rintro ⟨a, ha, h9⟩; obtain ⟨j, hj, rfl⟩ := List.getElem_of_mem ha; exact hn9 j hj h9)]
                                  rw [insAll_none (k := i + 1) (by rw [insAll_succ (by rw [List.length_map]; omega), hq, List.getElem_map, hp]; show insR (⟨Zbg, p_id⟩ : PeerV) q_l = _; rw [insR_at (⟨Zbg, p_id⟩ : PeerV) q_l k hk (fun j h hj => hI j h hj) (by first | exact fun h => by assumption | exact fun h => absurd h (by omega)), if_pos ⟨by omega, by assumption⟩])]
                                  exact ⟨rfl, rfl⟩
                              · first | replace hc11 := dT hc11 | replace hc11 := dF hc11 | replace hc11 := nT hc11 | replace hc11 := nF hc11 | skip
                                try simp only [PeerV.eta] at hc11
                                first
                                | (exfalso; omega)
                                | (exfalso; simp [eqX] at hc11; done)
                                | contradiction
                                | skip
                                  refine Zah ?_; refine Ze ?_; refine Zk ?_
                                  have k_tk := (k_q.mono hm2).take k hk
                                  have k_dr := (k_q.mono hm2).drop k hk
                                  refine Za (l := [0, 1, 2, 3, 4, 5]) rfl ?_; refine Zd rfl rfl rfl rfl ?_; refine Zd rfl rfl rfl rfl ?_; refine Zd rfl rfl rfl rfl ?_; refine X_slice rfl rfl rfl .none (.some (k := k) rfl rfl) .none F.elem23 (by simp only [Option.getD_none]; omega) (by simp only [Option.getD_some, Option.getD_none]; omega) (by simp only [Option.getD_some, Option.getD_none]; omega) (by simp) (pieceV_take (l := q_l) (k := k) (by omega)) rfl ?_
                                  refine X_appendK (m := 1000000) rfl rfl rfl rfl rfl F.elem23 F.zero39 (by first | rfl | exact Zbo rfl) rfl (by first | assumption | exact OSl.nil) (by repeat first | exact Rem.here _ | exact Rem.two | apply Rem.skip | apply Rem.over) (k_tk.h1) PeerV.flat (by first | omega | (simp; done) | (simp; omega)) (by decide) rfl ?_; intro v14 hs13 ho12; obtain ⟨adv14, cpv14, rfl⟩ := ho12.val
                                  refine Zc rfl rfl rfl rfl ?_; refine Zg ?_; refine Ze ?_; refine Zk ?_; refine Za (l := [0, 1, 2, 3, 4]) rfl ?_; refine Zd rfl rfl rfl rfl ?_
                                  first | refine Zan rfl rfl rfl (by repeat first | exact List.Mem.head _ | refine List.Mem.tail _ ?_ | refine List.mem_append_right _ ?_) F.lay39 rfl rfl rfl ?_ | refine Zv rfl rfl rfl (by first | assumption | exact SlM.mono (by assumption) (by assumption)) (by first | exact Zb (by omega) | exact List.getElem?_eq_getElem (by omega) | exact rfl | exact Zb (by first | (simp; done) | (simp; omega))) F.lay39 rfl rfl rfl ?_ | refine Zu rfl rfl rfl (by assumption) (by first | exact Zb (by omega) | exact List.getElem?_eq_getElem (by omega) | exact rfl | exact Zb (by first | (simp; done) | (simp; omega))) F.lay39 rfl rfl rfl ?_ | refine Zs rfl rfl rfl (by first | assumption | exact Mem.get_of (by assumption) (by repeat first | assumption | refine Mem.le.trans (by assumption) ?_)) F.lay39 rfl rfl rfl ?_ | refine Zp rfl rfl rfl (by assumption) (by repeat first | exact Rem.here _ | exact Rem.two | apply Rem.skip | apply Rem.over) (by first | exact Zb (by omega) | exact List.getElem?_eq_getElem (by omega) | exact rfl | exact Zb (by first | (simp; done) | (simp; omega))) F.lay39 rfl rfl rfl ?_
                                  refine Zba rfl rfl F.elem23 F.zero39 rfl rfl (.cons rfl (by constructor) .nil) rfl rfl (by simp only [List.map_cons, List.map_nil] <;> rfl) rfl ?_; intro b15 hob16
                                  refine Zca (m := 1000000) rfl rfl rfl rfl rfl F.elem23 F.zero39 (by first | rfl | exact Zbo rfl) rfl (by first | assumption | exact OSl.nil) (by repeat first | exact Rem.here _ | exact Rem.two | apply Rem.skip | apply Rem.over) (Src.own hob16.lens (by first | exact PeerV.flat1 _ | exact PeerV.flat1 ⟨_, _⟩ | exact stFlat _ | exact Zay _ | exact Zaz | (refine Zbf ?_; (repeat (first | exact Zag | refine Zau ?_ | (refine Zae ?_ ?_; rfl))); done) | (refine Zbf ?_; exact PeerV.flat _) | (simp [rowsCells, Segs.cells, Seg.cells, Value.oneCell']; done)) rfl (by repeat first | exact List.Mem.head _ | refine List.Mem.tail _ ?_ | refine List.mem_append_right _ ?_)) (by first | omega | (simp; done) | (simp; omega)) (by decide) rfl ?_; intro v19 hs18 ho17; obtain ⟨adv19, cpv19, rfl⟩ := ho17.val
                                  refine Zc rfl rfl rfl rfl ?_; refine Zg ?_; refine Ze ?_; refine Zk ?_; refine Za (l := [0, 1, 2, 3, 4, 5]) rfl ?_; refine Zd rfl rfl rfl rfl ?_; refine Zd rfl rfl rfl rfl ?_; refine Zd rfl rfl rfl rfl ?_; refine X_slice rfl rfl rfl (.some (k := k) rfl rfl) .none .none F.elem23 (by simp only [Option.getD_none]; omega) (by simp only [Option.getD_some, Option.getD_none]; omega) (by simp only [Option.getD_some, Option.getD_none]; omega) (by simp) (pieceV_drop (l := q_l) (k := k)) rfl ?_
                                  refine X_appendK (m := 1000000) rfl rfl rfl rfl rfl F.elem23 F.zero39 (by first | rfl | exact Zbo rfl) rfl (by first | assumption | exact OSl.nil) (by repeat first | exact Rem.here _ | exact Rem.two | apply Rem.skip | apply Rem.over) (k_dr.h1) PeerV.flat (by first | omega | (simp; done) | (simp; omega)) (by decide) rfl ?_; intro v22 hs21 ho20; obtain ⟨adv22, cpv22, rfl⟩ := ho20.val
                                  refine Zc rfl rfl rfl rfl ?_; refine Zg ?_; refine Ze ?_
                                  have er9 : (([] : List Segs) ++ (q_l.take k).map PeerV.segs ++ [[Seg.one (Value.int .i64 Zbg), idSeg p_id]] ++ (q_l.drop k).map PeerV.segs) = (q_l.take k ++ (⟨Zbg, p_id⟩ : PeerV) :: q_l.drop k).map PeerV.segs := by rw [List.nil_append, List.append_assoc, List.map_append]; rfl
                                  have en9 : (([] : List Segs) ++ (q_l.take k).map PeerV.segs ++ [[Seg.one (Value.int .i64 Zbg), idSeg p_id]] ++ (q_l.drop k).map PeerV.segs).length = (q_l.take k ++ (⟨Zbg, p_id⟩ : PeerV) :: q_l.drop k).length := by rw [er9, List.length_map]
                                  rw [en9]
                                  have hoz : OSl 39 21 (.slice adv22 (q_l.take k ++ (⟨Zbg, p_id⟩ : PeerV) :: q_l.drop k).length cpv22) hs21 ((q_l.take k ++ (⟨Zbg, p_id⟩ : PeerV) :: q_l.drop k).map PeerV.segs) := by have h9 := ho20; rw [en9, er9] at h9; exact h9
                                  refine C_frz hoz (by repeat first | exact Rem.here _ | exact Rem.two | apply Rem.skip | apply Rem.over) (fun M4 hm4 k_n => ?_)
                                  refine Za (l := [0, 1]) rfl ?_; refine Zd rfl rfl rfl rfl ?_; refine Zc rfl rfl rfl rfl ?_; refine Zg ?_; refine Zbs ?_; refine Ze ?_; refine Za (l := [0, 1, 2]) rfl ?_; refine Zd rfl rfl rfl rfl ?_; refine Zav rfl rfl rfl rfl rfl (by first | exact Zaa (by decide) (by omega) | exact Zm (by decide) (by omega) | exact Zo (by decide) (by omega) | exact Zn (by decide) (by omega) | exact Zt _ | exact Zz _ | exact Zq _ | exact rfl) rfl ?_; refine Zc rfl rfl rfl rfl ?_; refine Zg ?_; refine Zbj (a' := [(6, _), (5, _)]) (i + 1) ([]) (.cons (k := 6) rfl (.cons (k := 5) rfl (.cons (k := 3) rfl (.cons (k := 2) rfl (.cons (k := 0) rfl (.nil)))))) (hm1.trans (hm2.trans hm4)) (fun w hw => by first | exact hw | exact hw.cnt (by intro zz; first | exact Nat.le_refl _ | (simp only [Zh, Zf, Zi, cat, List.append_eq, List.append_assoc, List.cons_append, List.nil_append, List.append_nil]; omega) | (simp only [Zh, Zf, Zi, cat, List.append_eq, List.append_assoc, List.cons_append, List.nil_append, List.append_nil, PeerV.segs]; omega))) ?_ ?_
                                  · refine ⟨⟨_, _, q_l.take k ++ (⟨Zbg, p_id⟩ : PeerV) :: q_l.drop k⟩, rfl, rfl, by omega, ?_, k_n⟩
                                    rw [insAll_succ (by rw [List.length_map]; omega), hq, List.getElem_map, hp]
                                    show insR (⟨Zbg, p_id⟩ : PeerV) q_l = _
                                    rw [insR_at (⟨Zbg, p_id⟩ : PeerV) q_l k hk (fun j h hj => hI j h hj) (by first | exact fun h => absurd h (by omega) | exact fun h => by assumption), if_neg (by first | exact fun ⟨h, _⟩ => absurd h (by omega) | exact fun ⟨h, h9⟩ => absurd h9 (by assumption))]
                                  · omega
                          · first | replace hc10 := dT hc10 | replace hc10 := dF hc10 | replace hc10 := nT hc10 | replace hc10 := nF hc10 | skip
                            try simp only [PeerV.eta] at hc10
                            first
                            | (exfalso; omega)
                            | (exfalso; simp [eqX] at hc10; done)
                            | contradiction
                            | skip
                              refine Zj rfl rfl rfl ?_; refine Zj rfl rfl rfl ?_; refine Zj rfl rfl rfl ?_; refine Zj rfl rfl rfl ?_; refine Zj rfl rfl rfl ?_; refine Zj rfl rfl rfl ?_; refine Zj rfl rfl rfl ?_; refine Zj rfl rfl rfl ?_; refine Zx rfl rfl rfl rfl rfl ?_; refine Zg ?_; refine Ze ?_; refine C_false rfl ?_; refine Zah ?_; refine Ze ?_; refine Zk ?_
                              have k_tk := (k_q.mono hm2).take k hk
                              have k_dr := (k_q.mono hm2).drop k hk
                              refine Za (l := [0, 1, 2, 3, 4, 5]) rfl ?_; refine Zd rfl rfl rfl rfl ?_; refine Zd rfl rfl rfl rfl ?_; refine Zd rfl rfl rfl rfl ?_; refine X_slice rfl rfl rfl .none (.some (k := k) rfl rfl) .none F.elem23 (by simp only [Option.getD_none]; omega) (by simp only [Option.getD_some, Option.getD_none]; omega) (by simp only [Option.getD_some, Option.getD_none]; omega) (by simp) (pieceV_take (l := q_l) (k := k) (by omega)) rfl ?_
                              refine X_appendK (m := 1000000) rfl rfl rfl rfl rfl F.elem23 F.zero39 (by first | rfl | exact Zbo rfl) rfl (by first | assumption | exact OSl.nil) (by repeat first | exact Rem.here _ | exact Rem.two | apply Rem.skip | apply Rem.over) (k_tk.h1) PeerV.flat (by first | omega | (simp; done) | (simp; omega)) (by decide) rfl ?_; intro v25 hs24 ho23; obtain ⟨adv25, cpv25, rfl⟩ := ho23.val
                              refine Zc rfl rfl rfl rfl ?_; refine Zg ?_; refine Ze ?_; refine Zk ?_; refine Za (l := [0, 1, 2, 3, 4]) rfl ?_; refine Zd rfl rfl rfl rfl ?_
                              first | refine Zan rfl rfl rfl (by repeat first | exact List.Mem.head _ | refine List.Mem.tail _ ?_ | refine List.mem_append_right _ ?_) F.lay39 rfl rfl rfl ?_ | refine Zv rfl rfl rfl (by first | assumption | exact SlM.mono (by assumption) (by assumption)) (by first | exact Zb (by omega) | exact List.getElem?_eq_getElem (by omega) | exact rfl | exact Zb (by first | (simp; done) | (simp; omega))) F.lay39 rfl rfl rfl ?_ | refine Zu rfl rfl rfl (by assumption) (by first | exact Zb (by omega) | exact List.getElem?_eq_getElem (by omega) | exact rfl | exact Zb (by first | (simp; done) | (simp; omega))) F.lay39 rfl rfl rfl ?_ | refine Zs rfl rfl rfl (by first | assumption | exact Mem.get_of (by assumption) (by repeat first | assumption | refine Mem.le.trans (by assumption) ?_)) F.lay39 rfl rfl rfl ?_ | refine Zp rfl rfl rfl (by assumption) (by repeat first | exact Rem.here _ | exact Rem.two | apply Rem.skip | apply Rem.over) (by first | exact Zb (by omega) | exact List.getElem?_eq_getElem (by omega) | exact rfl | exact Zb (by first | (simp; done) | (simp; omega))) F.lay39 rfl rfl rfl ?_
                              refine Zba rfl rfl F.elem23 F.zero39 rfl rfl (.cons rfl (by constructor) .nil) rfl rfl (by simp only [List.map_cons, List.map_nil] <;> rfl) rfl ?_; intro b26 hob27
                              refine Zca (m := 1000000) rfl rfl rfl rfl rfl F.elem23 F.zero39 (by first | rfl | exact Zbo rfl) rfl (by first | assumption | exact OSl.nil) (by repeat first | exact Rem.here _ | exact Rem.two | apply Rem.skip | apply Rem.over) (Src.own hob27.lens (by first | exact PeerV.flat1 _ | exact PeerV.flat1 ⟨_, _⟩ | exact stFlat _ | exact Zay _ | exact Zaz | (refine Zbf ?_; (repeat (first | exact Zag | refine Zau ?_ | (refine Zae ?_ ?_; rfl))); done) | (refine Zbf ?_; exact PeerV.flat _) | (simp [rowsCells, Segs.cells, Seg.cells, Value.oneCell']; done)) rfl (by repeat first | exact List.Mem.head _ | refine List.Mem.tail _ ?_ | refine List.mem_append_right _ ?_)) (by first | omega | (simp; done) | (simp; omega)) (by decide) rfl ?_; intro v30 hs29 ho28; obtain ⟨adv30, cpv30, rfl⟩ := ho28.val
                              refine Zc rfl rfl rfl rfl ?_; refine Zg ?_; refine Ze ?_; refine Zk ?_; refine Za (l := [0, 1, 2, 3, 4, 5]) rfl ?_; refine Zd rfl rfl rfl rfl ?_; refine Zd rfl rfl rfl rfl ?_; refine Zd rfl rfl rfl rfl ?_; refine X_slice rfl rfl rfl (.some (k := k) rfl rfl) .none .none F.elem23 (by simp only [Option.getD_none]; omega) (by simp only [Option.getD_some, Option.getD_none]; omega) (by simp only [Option.getD_some, Option.getD_none]; omega) (by simp) (pieceV_drop (l := q_l) (k := k)) rfl ?_
                              refine X_appendK (m := 1000000) rfl rfl rfl rfl rfl F.elem23 F.zero39 (by first | rfl | exact Zbo rfl) rfl (by first | assumption | exact OSl.nil) (by repeat first | exact Rem.here _ | exact Rem.two | apply Rem.skip | apply Rem.over) (k_dr.h1) PeerV.flat (by first | omega | (simp; done) | (simp; omega)) (by decide) rfl ?_; intro v33 hs32 ho31; obtain ⟨adv33, cpv33, rfl⟩ := ho31.val
                              refine Zc rfl rfl rfl rfl ?_; refine Zg ?_; refine Ze ?_
                              have er9 : (([] : List Segs) ++ (q_l.take k).map PeerV.segs ++ [[Seg.one (Value.int .i64 Zbg), idSeg p_id]] ++ (q_l.drop k).map PeerV.segs) = (q_l.take k ++ (⟨Zbg, p_id⟩ : PeerV) :: q_l.drop k).map PeerV.segs := by rw [List.nil_append, List.append_assoc, List.map_append]; rfl
                              have en9 : (([] : List Segs) ++ (q_l.take k).map PeerV.segs ++ [[Seg.one (Value.int .i64 Zbg), idSeg p_id]] ++ (q_l.drop k).map PeerV.segs).length = (q_l.take k ++ (⟨Zbg, p_id⟩ : PeerV) :: q_l.drop k).length := by rw [er9, List.length_map]
                              rw [en9]
                              have hoz : OSl 39 21 (.slice adv33 (q_l.take k ++ (⟨Zbg, p_id⟩ : PeerV) :: q_l.drop k).length cpv33) hs32 ((q_l.take k ++ (⟨Zbg, p_id⟩ : PeerV) :: q_l.drop k).map PeerV.segs) := by have h9 := ho31; rw [en9, er9] at h9; exact h9
                              refine C_frz hoz (by repeat first | exact Rem.here _ | exact Rem.two | apply Rem.skip | apply Rem.over) (fun M4 hm4 k_n => ?_)
                              refine Za (l := [0, 1]) rfl ?_; refine Zd rfl rfl rfl rfl ?_; refine Zc rfl rfl rfl rfl ?_; refine Zg ?_; refine Zbs ?_; refine Ze ?_; refine Za (l := [0, 1, 2]) rfl ?_; refine Zd rfl rfl rfl rfl ?_; refine Zav rfl rfl rfl rfl rfl (by first | exact Zaa (by decide) (by omega) | exact Zm (by decide) (by omega) | exact Zo (by decide) (by omega) | exact Zn (by decide) (by omega) | exact Zt _ | exact Zz _ | exact Zq _ | exact rfl) rfl ?_; refine Zc rfl rfl rfl rfl ?_; refine Zg ?_; refine Zbj (a' := [(6, _), (5, _)]) (i + 1) ([]) (.cons (k := 6) rfl (.cons (k := 5) rfl (.cons (k := 3) rfl (.cons (k := 2) rfl (.cons (k := 0) rfl (.nil)))))) (hm1.trans (hm2.trans hm4)) (fun w hw => by first | exact hw | exact hw.cnt (by intro zz; first | exact Nat.le_refl _ | (simp only [Zh, Zf, Zi, cat, List.append_eq, List.append_assoc, List.cons_append, List.nil_append, List.append_nil]; omega) | (simp only [Zh, Zf, Zi, cat, List.append_eq, List.append_assoc, List.cons_append, List.nil_append, List.append_nil, PeerV.segs]; omega))) ?_ ?_
                              · refine ⟨⟨_, _, q_l.take k ++ (⟨Zbg, p_id⟩ : PeerV) :: q_l.drop k⟩, rfl, rfl, by omega, ?_, k_n⟩
                                rw [insAll_succ (by rw [List.length_map]; omega), hq, List.getElem_map, hp]
                                show insR (⟨Zbg, p_id⟩ : PeerV) q_l = _
                                rw [insR_at (⟨Zbg, p_id⟩ : PeerV) q_l k hk (fun j h hj => hI j h hj) (by first | exact fun h => absurd h (by omega) | exact fun h => by assumption), if_neg (by first | exact fun ⟨h, _⟩ => absurd h (by omega) | exact fun ⟨h, h9⟩ => absurd h9 (by assumption))]
                              · omega
                  · first | replace hc8 := dT hc8 | replace hc8 := dF hc8 | replace hc8 := nT hc8 | replace hc8 := nF hc8 | skip
                    try simp only [PeerV.eta] at hc8
                    first
                    | (exfalso; omega)
                    | (exfalso; simp [eqX] at hc8; done)
                    | contradiction
                    | skip
                      refine Zj rfl rfl rfl ?_; refine Zj rfl rfl rfl ?_; refine Zj rfl rfl rfl ?_; refine Zj rfl rfl rfl ?_; refine Zj rfl rfl rfl ?_; refine Zj rfl rfl rfl ?_; refine Zj rfl rfl rfl ?_; refine Zj rfl rfl rfl ?_; refine Zx rfl rfl rfl rfl rfl ?_; refine Zg ?_; refine Ze ?_; refine C_false rfl ?_; refine Zbl ?_; refine Zao ?_; refine Zao ?_; refine Zbx ?_; refine Ze ?_; refine Zk ?_; refine Zk ?_; refine Zaf (l := [0, 1, 2, 3, 4, 5, 6, 7, 8, 9, 10, 11, 12, 13]) #[0, 0, 2, 7, 15, 31, 31, 127, 255, 511, 31, 1055, 4095, 8191] _ rfl (by kernel_rfl) (by kernel_rfl) St.drawn (fun _ h => h) ?_; refine Zd rfl rfl rfl rfl ?_; refine Zd rfl rfl rfl rfl ?_; refine Zat rfl rfl rfl rfl F.elem23 rfl ?_; refine Zaq rfl rfl rfl rfl rfl rfl ?_; refine Zd rfl rfl rfl rfl ?_
                      refine Zbb 72 rfl (fun hc34 => ?_) (fun hc34 => ?_)
                      · first | replace hc34 := dT hc34 | replace hc34 := dF hc34 | replace hc34 := nT hc34 | replace hc34 := nF hc34 | skip
                        try simp only [PeerV.eta] at hc34
                        first
                        | (exfalso; omega)
                        | (exfalso; simp [eqX] at hc34; done)
                        | contradiction
                        | skip
                          refine Zd rfl rfl rfl rfl ?_; refine Zd rfl rfl rfl rfl ?_; refine Zab rfl rfl rfl rfl F.elem23 (by first | rfl | exact (Int.toNat_of_nonneg (by omega)).symm) (by first | omega | (simp; done) | (simp; omega)) (by first | exact ⟨_, _, rfl⟩ | assumption | exact SlM.plain (by assumption) (by first | (simp; done) | (simp; omega)) | exact RdS.plain (by assumption) (by first | (simp; done) | (simp; omega)) | exact OSl.plain (by assumption) (by first | (simp; done) | (simp; omega))) rfl ?_
                          first | refine Zak rfl rfl rfl F.foff39_0 rfl ?_ | refine Zac rfl rfl rfl (by first | exact ⟨_, _, rfl⟩ | assumption | exact SlM.plain (by assumption) (by first | (simp; done) | (simp; omega)) | exact RdS.plain (by assumption) (by first | (simp; done) | (simp; omega)) | exact OSl.plain (by assumption) (by first | (simp; done) | (simp; omega))) F.foff39_0 rfl ?_
                          first | refine Zan rfl rfl rfl (by repeat first | exact List.Mem.head _ | refine List.Mem.tail _ ?_ | refine List.mem_append_right _ ?_) F.lay3 rfl rfl rfl ?_ | refine Zv rfl rfl rfl (by first | assumption | exact SlM.mono (by assumption) (by assumption)) (by first | exact Zb (by omega) | exact List.getElem?_eq_getElem (by omega) | exact rfl | exact Zb (by first | (simp; done) | (simp; omega))) F.lay3 rfl rfl rfl ?_ | refine Zu rfl rfl rfl (by assumption) (by first | exact Zb (by omega) | exact List.getElem?_eq_getElem (by omega) | exact rfl | exact Zb (by first | (simp; done) | (simp; omega))) F.lay3 rfl rfl rfl ?_ | refine Zs rfl rfl rfl (by first | assumption | exact Mem.get_of (by assumption) (by repeat first | assumption | refine Mem.le.trans (by assumption) ?_)) F.lay3 rfl rfl rfl ?_ | refine Zp rfl rfl rfl (by assumption) (by repeat first | exact Rem.here _ | exact Rem.two | apply Rem.skip | apply Rem.over) (by first | exact Zb (by omega) | exact List.getElem?_eq_getElem (by omega) | exact rfl | exact Zb (by first | (simp; done) | (simp; omega))) F.lay3 rfl rfl rfl ?_ | refine Zr rfl rfl rfl (by repeat first | exact List.Mem.head _ | refine List.Mem.tail _ ?_ | refine List.mem_append_right _ ?_) F.lay3 (by first | exact Zbw (by first | omega | decide) | exact Zbk (by first | omega | decide)) rfl ?_
                          first | refine Zak rfl rfl rfl F.foff39_0 rfl ?_ | refine Zac rfl rfl rfl (by first | exact ⟨_, _, rfl⟩ | assumption | exact SlM.plain (by assumption) (by first | (simp; done) | (simp; omega)) | exact RdS.plain (by assumption) (by first | (simp; done) | (simp; omega)) | exact OSl.plain (by assumption) (by first | (simp; done) | (simp; omega))) F.foff39_0 rfl ?_
                          first | refine Zan rfl rfl rfl (by repeat first | exact List.Mem.head _ | refine List.Mem.tail _ ?_ | refine List.mem_append_right _ ?_) F.lay3 rfl rfl rfl ?_ | refine Zv rfl rfl rfl (by first | assumption | exact SlM.mono (by assumption) (by assumption)) (by first | exact Zb (by omega) | exact List.getElem?_eq_getElem (by omega) | exact rfl | exact Zb (by first | (simp; done) | (simp; omega))) F.lay3 rfl rfl rfl ?_ | refine Zu rfl rfl rfl (by assumption) (by first | exact Zb (by omega) | exact List.getElem?_eq_getElem (by omega) | exact rfl | exact Zb (by first | (simp; done) | (simp; omega))) F.lay3 rfl rfl rfl ?_ | refine Zs rfl rfl rfl (by first | assumption | exact Mem.get_of (by assumption) (by repeat first | assumption | refine Mem.le.trans (by assumption) ?_)) F.lay3 rfl rfl rfl ?_ | refine Zp rfl rfl rfl (by assumption) (by repeat first | exact Rem.here _ | exact Rem.two | apply Rem.skip | apply Rem.over) (by first | exact Zb (by omega) | exact List.getElem?_eq_getElem (by omega) | exact rfl | exact Zb (by first | (simp; done) | (simp; omega))) F.lay3 rfl rfl rfl ?_ | refine Zr rfl rfl rfl (by repeat first | exact List.Mem.head _ | refine List.Mem.tail _ ?_ | refine List.mem_append_right _ ?_) F.lay3 (by first | exact Zbw (by first | omega | decide) | exact Zbk (by first | omega | decide)) rfl ?_
                          refine Zaq rfl rfl rfl rfl rfl rfl ?_; refine Zx rfl rfl rfl rfl rfl ?_; refine Zg ?_; refine Ze ?_
                          refine Zai rfl (fun hc35 => ?_) (fun hc35 => ?_)
                          · first | replace hc35 := dT hc35 | replace hc35 := dF hc35 | replace hc35 := nT hc35 | replace hc35 := nF hc35 | skip
                            try simp only [PeerV.eta] at hc35
                            first
                            | (exfalso; omega)
                            | (exfalso; simp [eqX] at hc35; done)
                            | contradiction
                            | skip
                              refine Zk ?_; refine Za (l := [0, 1]) rfl ?_; refine Zc rfl rfl rfl rfl ?_; refine Zc rfl rfl rfl rfl ?_; refine Zg ?_; refine Ze ?_; refine Zam ?_; refine Zar ?_; refine Zbe ?_; refine Zar ?_; refine Zar ?_; refine Zbe ?_; refine Zar ?_
                              refine Zal (.inr rfl) (.tmp rfl (.tmp rfl .nil)) (fun w hw => ?_)
                              refine ⟨_, M2, rfl, hm1.trans hm2, hw.cnt (by intro zz; first | exact Nat.le_refl _ | (simp only [Zh, Zf, Zi, cat, List.append_eq, List.append_assoc, List.cons_append, List.nil_append, List.append_nil]; omega) | (simp only [Zh, Zf, Zi, cat, List.append_eq, List.append_assoc, List.cons_append, List.nil_append, List.append_nil, PeerV.segs]; omega)), ?_⟩
                              show OfR2 _ l_l _
                              refine ⟨⟨none, 0, []⟩, _, rfl, SlK.nil, ?_⟩
                              rw [if_neg (by omega), if_neg (by rintro ⟨a, ha, h9⟩; obtain ⟨j, hj, rfl⟩ := List.getElem_of_mem ha; exact hn9 j hj h9)]
                              rw [insAll_none (k := i + 1) (by rw [insAll_succ (by rw [List.length_map]; omega), hq, List.getElem_map, hp]; show insR (⟨Zbg, p_id⟩ : PeerV) q_l = _; rw [insR_at (⟨Zbg, p_id⟩ : PeerV) q_l k hk (fun j h hj => hI j h hj) (by first | exact fun h => by assumption | exact fun h => absurd h (by omega)), if_pos ⟨by omega, by assumption⟩])]
                              exact ⟨rfl, rfl⟩
                          · first | replace hc35 := dT hc35 | replace hc35 := dF hc35 | replace hc35 := nT hc35 | replace hc35 := nF hc35 | skip
                            try simp only [PeerV.eta] at hc35
                            first
                            | (exfalso; omega)
                            | (exfalso; simp [eqX] at hc35; done)
                            | contradiction
                            | skip
                              refine Zah ?_; refine Ze ?_; refine Zk ?_
                              have k_tk := (k_q.mono hm2).take k hk
                              have k_dr := (k_q.mono hm2).drop k hk
                              refine Za (l := [0, 1, 2, 3, 4, 5]) rfl ?_; refine Zd rfl rfl rfl rfl ?_; refine Zd rfl rfl rfl rfl ?_; refine Zd rfl rfl rfl rfl ?_; refine X_slice rfl rfl rfl .none (.some (k := k) rfl rfl) .none F.elem23 (by simp only [Option.getD_none]; omega) (by simp only [Option.getD_some, Option.getD_none]; omega) (by simp only [Option.getD_some, Option.getD_none]; omega) (by simp) (pieceV_take (l := q_l) (k := k) (by omega)) rfl ?_
                              refine X_appendK (m := 1000000) rfl rfl rfl rfl rfl F.elem23 F.zero39 (by first | rfl | exact Zbo rfl) rfl (by first | assumption | exact OSl.nil) (by repeat first | exact Rem.here _ | exact Rem.two | apply Rem.skip | apply Rem.over) (k_tk.h1) PeerV.flat (by first | omega | (simp; done) | (simp; omega)) (by decide) rfl ?_; intro v38 hs37 ho36; obtain ⟨adv38, cpv38, rfl⟩ := ho36.val
                              refine Zc rfl rfl rfl rfl ?_; refine Zg ?_; refine Ze ?_; refine Zk ?_; refine Za (l := [0, 1, 2, 3, 4]) rfl ?_; refine Zd rfl rfl rfl rfl ?_
                              first | refine Zan rfl rfl rfl (by repeat first | exact List.Mem.head _ | refine List.Mem.tail _ ?_ | refine List.mem_append_right _ ?_) F.lay39 rfl rfl rfl ?_ | refine Zv rfl rfl rfl (by first | assumption | exact SlM.mono (by assumption) (by assumption)) (by first | exact Zb (by omega) | exact List.getElem?_eq_getElem (by omega) | exact rfl | exact Zb (by first | (simp; done) | (simp; omega))) F.lay39 rfl rfl rfl ?_ | refine Zu rfl rfl rfl (by assumption) (by first | exact Zb (by omega) | exact List.getElem?_eq_getElem (by omega) | exact rfl | exact Zb (by first | (simp; done) | (simp; omega))) F.lay39 rfl rfl rfl ?_ | refine Zs rfl rfl rfl (by first | assumption | exact Mem.get_of (by assumption) (by repeat first | assumption | refine Mem.le.trans (by assumption) ?_)) F.lay39 rfl rfl rfl ?_ | refine Zp rfl rfl rfl (by assumption) (by repeat first | exact Rem.here _ | exact Rem.two | apply Rem.skip | apply Rem.over) (by first | exact Zb (by omega) | exact List.getElem?_eq_getElem (by omega) | exact rfl | exact Zb (by first | (simp; done) | (simp; omega))) F.lay39 rfl rfl rfl ?_
                              refine Zba rfl rfl F.elem23 F.zero39 rfl rfl (.cons rfl (by constructor) .nil) rfl rfl (by simp only [List.map_cons, List.map_nil] <;> rfl) rfl ?_; intro b39 hob40
                              refine Zca (m := 1000000) rfl rfl rfl rfl rfl F.elem23 F.zero39 (by first | rfl | exact Zbo rfl) rfl (by first | assumption | exact OSl.nil) (by repeat first | exact Rem.here _ | exact Rem.two | apply Rem.skip | apply Rem.over) (Src.own hob40.lens (by first | exact PeerV.flat1 _ | exact PeerV.flat1 ⟨_, _⟩ | exact stFlat _ | exact Zay _ | exact Zaz | (refine Zbf ?_; (repeat (first | exact Zag | refine Zau ?_ | (refine Zae ?_ ?_; rfl))); done) | (refine Zbf ?_; exact PeerV.flat _) | (simp [rowsCells, Segs.cells, Seg.cells, Value.oneCell']; done)) rfl (by repeat first | exact List.Mem.head _ | refine List.Mem.tail _ ?_ | refine List.mem_append_right _ ?_)) (by first | omega | (simp; done) | (simp; omega)) (by decide) rfl ?_; intro v43 hs42 ho41; obtain ⟨adv43, cpv43, rfl⟩ := ho41.val
                              refine Zc rfl rfl rfl rfl ?_; refine Zg ?_; refine Ze ?_; refine Zk ?_; refine Za (l := [0, 1, 2, 3, 4, 5]) rfl ?_; refine Zd rfl rfl rfl rfl ?_; refine Zd rfl rfl rfl rfl ?_; refine Zd rfl rfl rfl rfl ?_; refine X_slice rfl rfl rfl (.some (k := k) rfl rfl) .none .none F.elem23 (by simp only [Option.getD_none]; omega) (by simp only [Option.getD_some, Option.getD_none]; omega) (by simp only [Option.getD_some, Option.getD_none]; omega) (by simp) (pieceV_drop (l := q_l) (k := k)) rfl ?_
                              refine X_appendK (m := 1000000) rfl rfl rfl rfl rfl F.elem23 F.zero39 (by first | rfl | exact Zbo rfl) rfl (by first | assumption | exact OSl.nil) (by repeat first | exact Rem.here _ | exact Rem.two | apply Rem.skip | apply Rem.over) (k_dr.h1) PeerV.flat (by first | omega | (simp; done) | (simp; omega)) (by decide) rfl ?_; intro v46 hs45 ho44; obtain ⟨adv46, cpv46, rfl⟩ := ho44.val
                              refine Zc rfl rfl rfl rfl ?_; refine Zg ?_; refine Ze ?_
                              have er9 : (([] : List Segs) ++ (q_l.take k).map PeerV.segs ++ [[Seg.one (Value.int .i64 Zbg), idSeg p_id]] ++ (q_l.drop k).map PeerV.segs) = (q_l.take k ++ (⟨Zbg, p_id⟩ : PeerV) :: q_l.drop k).map PeerV.segs := by rw [List.nil_append, List.append_assoc, List.map_append]; rfl
                              have en9 : (([] : List Segs) ++ (q_l.take k).map PeerV.segs ++ [[Seg.one (Value.int .i64 Zbg), idSeg p_id]] ++ (q_l.drop k).map PeerV.segs).length = (q_l.take k ++ (⟨Zbg, p_id⟩ : PeerV) :: q_l.drop k).length := by rw [er9, List.length_map]
                              rw [en9]
                              have hoz : OSl 39 21 (.slice adv46 (q_l.take k ++ (⟨Zbg, p_id⟩ : PeerV) :: q_l.drop k).length cpv46) hs45 ((q_l.take k ++ (⟨Zbg, p_id⟩ : PeerV) :: q_l.drop k).map PeerV.segs) := by have h9 := ho44; rw [en9, er9] at h9; exact h9
                              refine C_frz hoz (by repeat first | exact Rem.here _ | exact Rem.two | apply Rem.skip | apply Rem.over) (fun M4 hm4 k_n => ?_)
                              refine Za (l := [0, 1]) rfl ?_; refine Zd rfl rfl rfl rfl ?_; refine Zc rfl rfl rfl rfl ?_; refine Zg ?_; refine Zbs ?_; refine Ze ?_; refine Za (l := [0, 1, 2]) rfl ?_; refine Zd rfl rfl rfl rfl ?_; refine Zav rfl rfl rfl rfl rfl (by first | exact Zaa (by decide) (by omega) | exact Zm (by decide) (by omega) | exact Zo (by decide) (by omega) | exact Zn (by decide) (by omega) | exact Zt _ | exact Zz _ | exact Zq _ | exact rfl) rfl ?_; refine Zc rfl rfl rfl rfl ?_; refine Zg ?_; refine Zbj (a' := [(6, _), (5, _)]) (i + 1) ([]) (.cons (k := 6) rfl (.cons (k := 5) rfl (.cons (k := 3) rfl (.cons (k := 2) rfl (.cons (k := 0) rfl (.nil)))))) (hm1.trans (hm2.trans hm4)) (fun w hw => by first | exact hw | exact hw.cnt (by intro zz; first | exact Nat.le_refl _ | (simp only [Zh, Zf, Zi, cat, List.append_eq, List.append_assoc, List.cons_append, List.nil_append, List.append_nil]; omega) | (simp only [Zh, Zf, Zi, cat, List.append_eq, List.append_assoc, List.cons_append, List.nil_append, List.append_nil, PeerV.segs]; omega))) ?_ ?_
                              · refine ⟨⟨_, _, q_l.take k ++ (⟨Zbg, p_id⟩ : PeerV) :: q_l.drop k⟩, rfl, rfl, by omega, ?_, k_n⟩
                                rw [insAll_succ (by rw [List.length_map]; omega), hq, List.getElem_map, hp]
                                show insR (⟨Zbg, p_id⟩ : PeerV) q_l = _
                                rw [insR_at (⟨Zbg, p_id⟩ : PeerV) q_l k hk (fun j h hj => hI j h hj) (by first | exact fun h => absurd h (by omega) | exact fun h => by assumption), if_neg (by first | exact fun ⟨h, _⟩ => absurd h (by omega) | exact fun ⟨h, h9⟩ => absurd h9 (by assumption))]
                              · omega
                      · first | replace hc34 := dT hc34 | replace hc34 := dF hc34 | replace hc34 := nT hc34 | replace hc34 := nF hc34 | skip
                        try simp only [PeerV.eta] at hc34
                        first
                        | (exfalso; omega)
                        | (exfalso; simp [eqX] at hc34; done)
                        | contradiction
                        | skip
                          refine Zj rfl rfl rfl ?_; refine Zj rfl rfl rfl ?_; refine Zj rfl rfl rfl ?_; refine Zj rfl rfl rfl ?_; refine Zj rfl rfl rfl ?_; refine Zj rfl rfl rfl ?_; refine Zj rfl rfl rfl ?_; refine Zj rfl rfl rfl ?_; refine Zx rfl rfl rfl rfl rfl ?_; refine Zg ?_; refine Ze ?_; refine C_false rfl ?_; refine Zah ?_; refine Ze ?_; refine Zk ?_
                          have k_tk := (k_q.mono hm2).take k hk
                          have k_dr := (k_q.mono hm2).drop k hk
                          refine Za (l := [0, 1, 2, 3, 4, 5]) rfl ?_; refine Zd rfl rfl rfl rfl ?_; refine Zd rfl rfl rfl rfl ?_; refine Zd rfl rfl rfl rfl ?_; refine X_slice rfl rfl rfl .none (.some (k := k) rfl rfl) .none F.elem23 (by simp only [Option.getD_none]; omega) (by simp only [Option.getD_some, Option.getD_none]; omega) (by simp only [Option.getD_some, Option.getD_none]; omega) (by simp) (pieceV_take (l := q_l) (k := k) (by omega)) rfl ?_
                          refine X_appendK (m := 1000000) rfl rfl rfl rfl rfl F.elem23 F.zero39 (by first | rfl | exact Zbo rfl) rfl (by first | assumption | exact OSl.nil) (by repeat first | exact Rem.here _ | exact Rem.two | apply Rem.skip | apply Rem.over) (k_tk.h1) PeerV.flat (by first | omega | (simp; done) | (simp; omega)) (by decide) rfl ?_; intro v49 hs48 ho47; obtain ⟨adv49, cpv49, rfl⟩ := ho47.val
                          refine Zc rfl rfl rfl rfl ?_; refine Zg ?_; refine Ze ?_; refine Zk ?_; refine Za (l := [0, 1, 2, 3, 4]) rfl ?_; refine Zd rfl rfl rfl rfl ?_
                          first | refine Zan rfl rfl rfl (by repeat first | exact List.Mem.head _ | refine List.Mem.tail _ ?_ | refine List.mem_append_right _ ?_) F.lay39 rfl rfl rfl ?_ | refine Zv rfl rfl rfl (by first | assumption | exact SlM.mono (by assumption) (by assumption)) (by first | exact Zb (by omega) | exact List.getElem?_eq_getElem (by omega) | exact rfl | exact Zb (by first | (simp; done) | (simp; omega))) F.lay39 rfl rfl rfl ?_ | refine Zu rfl rfl rfl (by assumption) (by first | exact Zb (by omega) | exact List.getElem?_eq_getElem (by omega) | exact rfl | exact Zb (by first | (simp; done) | (simp; omega))) F.lay39 rfl rfl rfl ?_ | refine Zs rfl rfl rfl (by first | assumption | exact Mem.get_of (by assumption) (by repeat first | assumption | refine Mem.le.trans (by assumption) ?_)) F.lay39 rfl rfl rfl ?_ | refine Zp rfl rfl rfl (by assumption) (by repeat first | exact Rem.here _ | exact Rem.two | apply Rem.skip | apply Rem.over) (by first | exact Zb (by omega) | exact List.getElem?_eq_getElem (by omega) | exact rfl | exact Zb (by first | (simp; done) | (simp; omega))) F.lay39 rfl rfl rfl ?_
                          refine Zba rfl rfl F.elem23 F.zero39 rfl rfl (.cons rfl (by constructor) .nil) rfl rfl (by simp only [List.map_cons, List.map_nil] <;> rfl) rfl ?_; intro b50 hob51
                          refine Zca (m := 1000000) rfl rfl rfl rfl rfl F.elem23 F.zero39 (by first | rfl | exact Zbo rfl) rfl (by first | assumption | exact OSl.nil) (by repeat first | exact Rem.here _ | exact Rem.two | apply Rem.skip | apply Rem.over) (Src.own hob51.lens (by first | exact PeerV.flat1 _ | exact PeerV.flat1 ⟨_, _⟩ | exact stFlat _ | exact Zay _ | exact Zaz | (refine Zbf ?_; (repeat (first | exact Zag | refine Zau ?_ | (refine Zae ?_ ?_; rfl))); done) | (refine Zbf ?_; exact PeerV.flat _) | (simp [rowsCells, Segs.cells, Seg.cells, Value.oneCell']; done)) rfl (by repeat first | exact List.Mem.head _ | refine List.Mem.tail _ ?_ | refine List.mem_append_right _ ?_)) (by first | omega | (simp; done) | (simp; omega)) (by decide) rfl ?_; intro v54 hs53 ho52; obtain ⟨adv54, cpv54, rfl⟩ := ho52.val
                          refine Zc rfl rfl rfl rfl ?_; refine Zg ?_; refine Ze ?_; refine Zk ?_; refine Za (l := [0, 1, 2, 3, 4, 5]) rfl ?_; refine Zd rfl rfl rfl rfl ?_; refine Zd rfl rfl rfl rfl ?_; refine Zd rfl rfl rfl rfl ?_; refine X_slice rfl rfl rfl (.some (k := k) rfl rfl) .none .none F.elem23 (by simp only [Option.getD_none]; omega) (by simp only [Option.getD_some, Option.getD_none]; omega) (by simp only [Option.getD_some, Option.getD_none]; omega) (by simp) (pieceV_drop (l := q_l) (k := k)) rfl ?_
                          refine X_appendK (m := 1000000) rfl rfl rfl rfl rfl F.elem23 F.zero39 (by first | rfl | exact Zbo rfl) rfl (by first | assumption | exact OSl.nil) (by repeat first | exact Rem.here _ | exact Rem.two | apply Rem.skip | apply Rem.over) (k_dr.h1) PeerV.flat (by first | omega | (simp; done) | (simp; omega)) (by decide) rfl ?_; intro v57 hs56 ho55; obtain ⟨adv57, cpv57, rfl⟩ := ho55.val
                          refine Zc rfl rfl rfl rfl ?_; refine Zg ?_; refine Ze ?_
                          have er9 : (([] : List Segs) ++ (q_l.take k).map PeerV.segs ++ [[Seg.one (Value.int .i64 Zbg), idSeg p_id]] ++ (q_l.drop k).map PeerV.segs) = (q_l.take k ++ (⟨Zbg, p_id⟩ : PeerV) :: q_l.drop k).map PeerV.segs := by rw [List.nil_append, List.append_assoc, List.map_append]; rfl
                          have en9 : (([] : List Segs) ++ (q_l.take k).map PeerV.segs ++ [[Seg.one (Value.int .i64 Zbg), idSeg p_id]] ++ (q_l.drop k).map PeerV.segs).length = (q_l.take k ++ (⟨Zbg, p_id⟩ : PeerV) :: q_l.drop k).length := by rw [er9, List.length_map]
                          rw [en9]
                          have hoz : OSl 39 21 (.slice adv57 (q_l.take k ++ (⟨Zbg, p_id⟩ : PeerV) :: q_l.drop k).length cpv57) hs56 ((q_l.take k ++ (⟨Zbg, p_id⟩ : PeerV) :: q_l.drop k).map PeerV.segs) := by have h9 := ho55; rw [en9, er9] at h9; exact h9
                          refine C_frz hoz (by repeat first | exact Rem.here _ | exact Rem.two | apply Rem.skip | apply Rem.over) (fun M4 hm4 k_n => ?_)
                          refine Za (l := [0, 1]) rfl ?_; refine Zd rfl rfl rfl rfl ?_; refine Zc rfl rfl rfl rfl ?_; refine Zg ?_; refine Zbs ?_; refine Ze ?_; refine Za (l := [0, 1, 2]) rfl ?_; refine Zd rfl rfl rfl rfl ?_; refine Zav rfl rfl rfl rfl rfl (by first | exact Zaa (by decide) (by omega) | exact Zm (by decide) (by omega) | exact Zo (by decide) (by omega) | exact Zn (by decide) (by omega) | exact Zt _ | exact Zz _ | exact Zq _ | exact rfl) rfl ?_; refine Zc rfl rfl rfl rfl ?_; refine Zg ?_; refine Zbj (a' := [(6, _), (5, _)]) (i + 1) ([]) (.cons (k := 6) rfl (.cons (k := 5) rfl (.cons (k := 3) rfl (.cons (k := 2) rfl (.cons (k := 0) rfl (.nil)))))) (hm1.trans (hm2.trans hm4)) (fun w hw => by first | exact hw | exact hw.cnt (by intro zz; first | exact Nat.le_refl _ | (simp only [Zh, Zf, Zi, cat, List.append_eq, List.append_assoc, List.cons_append, List.nil_append, List.append_nil]; omega) | (simp only [Zh, Zf, Zi, cat, List.append_eq, List.append_assoc, List.cons_append, List.nil_append, List.append_nil, PeerV.segs]; omega))) ?_ ?_
                          · refine ⟨⟨_, _, q_l.take k ++ (⟨Zbg, p_id⟩ : PeerV) :: q_l.drop k⟩, rfl, rfl, by omega, ?_, k_n⟩
                            rw [insAll_succ (by rw [List.length_map]; omega), hq, List.getElem_map, hp]
                            show insR (⟨Zbg, p_id⟩ : PeerV) q_l = _
                            rw [insR_at (⟨Zbg, p_id⟩ : PeerV) q_l k hk (fun j h hj => hI j h hj) (by first | exact fun h => absurd h (by omega) | exact fun h => by assumption), if_neg (by first | exact fun ⟨h, _⟩ => absurd h (by omega) | exact fun ⟨h, h9⟩ => absurd h9 (by assumption))]
                          · omega
              · first | replace hc6 := dT hc6 | replace hc6 := dF hc6 | replace hc6 := nT hc6 | replace hc6 := nF hc6 | skip
                try simp only [PeerV.eta] at hc6
                first
                | (exfalso; omega)
                | (exfalso; simp [eqX] at hc6; done)
                | contradiction
                | skip
                  refine Zbl ?_; refine Zao ?_; refine Zao ?_; refine Zbx ?_; refine Ze ?_; refine Zl (.cons (k := 5) rfl (.cons (k := 3) rfl (.cons (k := 2) rfl .nil))) ?_; refine Zk ?_; refine Za (l := [0, 1, 2]) rfl ?_; refine Zd rfl rfl rfl rfl ?_; refine Zc rfl rfl rfl rfl ?_; refine Zc rfl rfl rfl rfl ?_; refine Zg ?_; refine Ze ?_; refine Zl (.cons (k := 3) rfl (.cons (k := 2) rfl .nil)) ?_; refine Zam ?_
                  refine Zal (.inr rfl) (.tmp rfl (.tmp rfl .nil)) (fun w hw => ?_)
                  obtain rfl : i = l_l.length := by omega
                  rw [List.take_of_length_le (by rw [List.length_map]; exact Nat.le_refl _)] at hq
                  refine ⟨_, M1, rfl, hm1, hw.cnt (by intro zz; first | exact Nat.le_refl _ | (simp only [Zh, Zf, Zi, cat, List.append_eq, List.append_assoc, List.cons_append, List.nil_append, List.append_nil]; omega) | (simp only [Zh, Zf, Zi, cat, List.append_eq, List.append_assoc, List.cons_append, List.nil_append, List.append_nil, PeerV.segs]; omega)), ?_⟩
                  show OfR2 _ l_l _
                  refine ⟨⟨q_a, q_c, q_l⟩, _, rfl, k_q, ?_⟩
                  rw [if_neg (by omega), if_neg (by rintro ⟨a, ha, h9⟩; obtain ⟨j, hj, rfl⟩ := List.getElem_of_mem ha; exact hn9 j hj h9)]
                  rw [hq]
                  exact ⟨rfl, rfl⟩
end Go.Proofs.YtpfdblknaihidaaDoor
namespace Go.Esp
def plN (n : Nat) : Nat :=
  let s := 110 :: 111 :: 100 :: 101 :: digitsN n
  let h := blocksN (s.length / 64 + 2) (padN s) start5
  ((((h.a * 4294967296 + h.b) * 4294967296 + h.c) * 4294967296 + h.d) * 4294967296 + h.e) % 2 ^ 160
theorem plN_is (n : Nat) : plN n = (sumP (110 :: 111 :: 100 :: 101 :: digitsN n)).toNat := by
  unfold plN sumP stPlc
  rw [BitVec.toNat_ofNat]
def apartN (m : Nat) : List Nat → Nat → Bool
  | [], _ => true
  | a :: l, k => !(Nat.testBit k (a % m)) && apartN m l (k ||| 2 ^ (a % m))
theorem apartN_is (m : Nat) : ∀ (l : List Nat) (k : Nat), apartN m l k = true → (∀ x ∈ l, Nat.testBit k (x % m) = false) ∧ l.Pairwise (fun x y => x ≠ y)
  | [], k, _ => ⟨fun x hx => (by cases hx), .nil⟩
  | a :: l, k, h => by
    unfold apartN at h
    simp only [Bool.and_eq_true, Bool.not_eq_true'] at h
    obtain ⟨h1, h2⟩ := h
    obtain ⟨h3, h4⟩ := apartN_is m l _ h2
    have h5 : ∀ x ∈ l, Nat.testBit k (x % m) = false ∧ x % m ≠ a % m := fun x hx => by
      have h6 := h3 x hx
      rw [Nat.testBit_or, Bool.or_eq_false_iff] at h6
      refine ⟨h6.1, fun e => ?_⟩
      rw [e, Nat.testBit_two_pow_self] at h6
      exact absurd h6.2 (by decide)
    refine ⟨fun x hx => ?_, List.pairwise_cons.2 ⟨fun x hx e => (h5 x hx).2 (by rw [e]), h4⟩⟩
    rcases List.mem_cons.1 hx with rfl | hx
    · exact h1
    · exact (h5 x hx).1
end Go.Esp
set_option maxRecDepth 100000
namespace Go.Esp
def plL0 : List Nat := [457020467024515997469324310271165517587667959079, 1422782272889934309514053401711921772469756363674, 261170007327692568197095477523293501092486196158, 938769449270226163776929426754389593053143316798, 899947027677124325248883849940210549304413927106, 1008497812533577422566271835113878403913710940131, 667364150681903527390826139836426981168736970215, 1097516349978132276175317110044003355850477336030, 1132421257598159790449025622284244026765379978155, 42932442657451334063092114649983431958796433358, 445788799490175158425945396658438281124643631814, 1046443249753656743631145003012390965124234493999, 936980027179511967491959252794886334913438007171, 960671065725380539777992779720473727869864264632, 141170173152074569069818563643272179619758582807, 29159618768151716411079242059759241109192226034, 1350259286136780010723200920248857646155349841749, 1236286049335469669250621536076062722672360790899, 1113442048892902837801087375306950100863630564805, 605700994870808754655317934130990254439720731608, 64039396949489554053216144572785015595648173733, 588631596723069255395148789884692708246686914189, 710470923807530455042890510661811196274337235005, 645189738494870752460842966341922722119106900006, 22147315540523826660777390480263139936425748491, 496260035869428219744850183094871243872301884789, 43134688723167168800321640491313971971840814039, 1009043005707787594815582611682073369116885505045, 102927819198065979431093607998869603955192186512, 797316446943328066685567541648316908196058653339, 1276903681558739207686203685302322828303055824495, 279824757373346152145652637668731948164849645699, 1205512906100521972435314556104298231189216600664, 1050983475642806234081209740480842410137999998004, 1249127018019566989045243062988734964950022354953, 64254701923038081560143080063981214087915817593, 1183741359242928217945896399748324407129421384102, 317129831559462788390497216817507530495300643884, 389732602152824147159653397706763394220095232545, 1021924557195102081951386670194215370319991309100, 1084238978048196256114101573206701879251970625728, 743619922719379633499415331923279565401336278520, 253331849238923030659006104142234303085097752397, 620672668507376304297649191455313093415757359935, 1062914067625159846474180904877598062263506017528, 399195771280178836826198192549223368710367126159, 892571970569563165954596062313775479311387334336, 300365692713216821249175008936789819534935645010, 1306320716702456678961592873340217670753678126894, 1278078519884212133098088498626056489612399875631, 829272042765449139418319713984966117715643070464, 514258052908031898142615003203872430396367056803, 1126452656083987389637610873955877668439405860915, 762906773884319747840909686072616148085801632951, 1000074346922254441279775695570302239250535555872, 321510432018378147418895794889755679416053122663, 888813508596618634288743809408071355824601438952, 474147647972253699883497756178436609111530850840, 516045330823901156512039192600474870217380106624, 560104319433296846101767978165346167947859106690, 703386567017580034548532455800570669168061352329, 1281366026692985007235965090426082707410319372656, 952816175374667116260219449776652704378145006973, 511128127721568788799721725507826733974081426621, 128109112740886749274220734488320989189868057415, 941645006715694138669105329761755371759233326258, 182726991479402636973199475115360927983214146629, 466305750053010675804814722888732804624474143270, 141264364942849188393305539609528629068528479664, 807696995473223972741139441681967958862931426813, 466666183509390151580169753110169361097521781660, 566491838798684627494784576895336691732356580510, 166654432626984773403710550583037599800668434100, 1344822916380451111543458793686966730509731005033, 1262638079013938407420927192676277285538033493638, 168442894726905774819368034489532502363951701090, 1239332422270834308601086940140077466830459995446, 963474648790075549492630155503641875353102848223, 94571419128915291204845232112275696520058794656, 736035756351585145593940508293291029167820639510, 1346176055418684606964892610883723523207940379252, 1273342703605072715835814212827469214835941788474, 1399848516426134693618426582905409760546851514219, 1253753100952691565508726920393007786892080146155, 430109060238858593276089588103947640091338553276, 1276012320459293289821579583864804642765802983735, 727838430035884550317859775765880952254714421859, 1365742760260765669749116213148802399525901650602, 68456195666538695184034429568809085998111569756, 452710945266943763651704106994263814630821803074, 1166846142648026507999842562160184506223362939746, 337866398402936038534786215632985853183806060024, 812824642131247637909370491956938457950881398027, 121776607476284176738441595481861733649436667077, 693316227626165419226891483912299154320275042646, 144311679898119751372579984348074652520643415806, 646892945004284753754049509973573707126792816706, 1181306316594911477507938761484905536664271796122, 590508497182537772909825784713071029756472868035, 854170879454789637371256754838284799153374517434]
theorem plL0_is : (List.range' 0 100).map plN = plL0 := by kernel_rfl
end Go.Esp
namespace Go.Esp
def plL1 : List Nat := [607256083035026294476346509796847217460863314187, 18308120114314747774069628539323980149322384680, 742547294217805449426952850457292943601111952243, 737792381928698417454871581023191860154069843582, 738853856376446375083483054959717986457664259787, 898354416930029686772105505677381491562610908573, 861683417285601808393141995271692761355430686899, 126898892585049531514232051599522670516564792792, 431614418996028204660597818282459448827954536765, 629703184102626212152628249261894071451221058173, 662054550098851516758341661155721238889952435193, 516038445357364055137560126402824061386439228181, 1031872874797840472058727231726344968673395213785, 948259121258006939343390206257203765939145037040, 1244142011590141286487469485671042836441378410128, 901463187450490191096279824361185176061356369991, 712115205203004696089594681749672441774673745941, 1107965953910186528986064453999714850387462521542, 1251889862551126784383914218507427320230071849890, 227740475040034227958697433504615296950103880088, 659871604952328716061687725042777074829547345471, 1250868418135022447200586541458603173389566167552, 1187332315990563878549265308648929539927472611137, 1275241564559057277538117226287559358296045155430, 1222045949524744984619868317401749578225865888988, 69417448689129841845136824730798202450271403124, 738861735802108556283777418410005276585131948171, 1039855473727480282849509797471065731337769226527, 1250085200529133002653539079083377746335973664048, 582361015215296242223895600266060307034835053140, 1315830311882477578518897594927612305178848413102, 1240031228481661121606026312909867990522235436879, 31145494545243938766951427547784358731215761542, 218541118849199837716648629133852818334572112036, 1136290941350288376264723442229534416594979409968, 1101593470309709524377376548866533247533278276622, 335351705051868306959878530251486326863283371220, 376209288659733262489939153312914121287409792166, 242682593427529575863672790386513020701707782288, 663631351189113985886816876215517344146382713502, 356132375780013239527875494489350702221590556762, 356947580121459685826371128428023268905982101237, 1347243632559218585702957880954027414309068210246, 279724913178545654813298214404538937578653180235, 38702240988996839786672508042565798150488050238, 1058536224076794382589506095517356858009854438318, 391197998915388544185263412659515910637917385903, 341402977659198709182140028917921163479856233931, 1216581902007452889274730216130176142500928011023, 45296915004848641404244946660331511926840950820, 175671267185133590323424107194971542016367864240, 904476040335602109040350962276665896836443044649, 51152507127425786653425850896314149094680848936, 332764308302189720985636881245238745930699627762, 70655026870357404907748201799796909703053003336, 479262293544930593154007533694907862540888124047, 809387312679372067280781142034965501327577246271, 968470411745972515838414351724402317765788075788, 365170313638712797724428305622201868357288574503, 1368667377178138523910754636647825307002036524925, 1180472356341527287544702850832699911420756464658, 1070848421149241438452407737469724793898332433289, 887221979294128755446801737885795125465581179905, 757287254117490424011916805573163061231168103934, 853468758949085107150811257457754370312160837457, 424979787690273797254575593101269502322819570659, 551591753210726007348380072247008633846647528444, 775216455534111161195381758758261657741873332944, 712577456586240102549504906210548804252030429488, 1342219130908720910678151000525360446788991720152, 1075681912060652394880551400003031861798235157634, 201731262302842656398868447116054492330608580953, 617437033504625704486476758191761554342750871272, 1443208838096630618893643901766178806637421241393, 390305316842827445354840416629455029255040760058, 927847691038862227218545195286365939500097811989, 922782232522092420626761491024795625182950205368, 504827646173197027478067980939480512353824249309, 999082783558957926708600887327758302600553243743, 1109902839520580375876519997219396610507389930476, 1011802882473992681123351539989236353465980612432, 604519011488922773449888007478770769400444314258, 110091808800090115060964785089884446627581902128, 327798170108922423491844080921538651635102763045, 1369835866624044145567279202966483856951334431383, 1199855933667317722347368657882123792670813295116, 1404783763907027127947226398659604989839892905063, 223766888576007966296369843038331445492302506441, 307102311334336014441344757078821873792551156405, 1071646233423769076153412908691995429409505818845, 1037654754873336491422482443115636699241750238773, 641068005676083544893393300385028940729631283934, 360847348648924062311055417950190311953992746355, 215091274609146970808126616032323306724437301091, 103159022854246838950520237164347308816886260531, 1352662998636742494027633234838633239859951133863, 730590771650066149735168219859602149980644995710, 615353500478227813416147668620617145337724490291, 584725700070516725098391606556966893888203260631, 1439618949139819441639041928501088812464660106226]
theorem plL1_is : (List.range' 100 100).map plN = plL1 := by kernel_rfl
end Go.Esp
namespace Go.Esp
def plL2 : List Nat := [545537957868036666032810211685614987893093611732, 1120259979440188966679325895668517279091554367052, 1306287383641398847496016964215879708358798741840, 811901716488653245438627926261067225908995115422, 707143434808264256714627992868357900694909120083, 630219642370748075685389587415178335618361423606, 1299863035371638611807424589596016902047558885816, 73151632991168354797132724761286784425467145205, 934205166173306431620014587945951282710849481410, 1170137250759359329031800154967263747930689238616, 613224855034766716020669054663678186617451285347, 79056982454749448164429714026558607373037900061, 497646627520303125010605886267786982657429998068, 1297243583143550614465353619057430765462729136637, 1360012247663520381156486128201955040744753590437, 1294376813165219784315919592740929909263621182388, 716585467775773277783522907772213434280471369214, 1111678436357869061376868961485310825754339522027, 516413468771182066656831221246846269713262454616, 854808678610946663420423371149043254238818979172, 626261666122094608242396503204182787101082469432, 980064922492079236558028234471854979829557749682, 1170049038991816420456559353840879092102501406457, 1304827160074718890109603829370160730551765973829, 1224914899654930050316901828471948544236125148242, 34981069795410686100022400452307950195940710744, 1158003815326766000780193891686110474186954818323, 69264116112210045636908403442348508891600635439, 750024162802888767781139763364948898798658365370, 902167001342916427351457685607925497312238170099, 1014146253895089624536730324867777913772027866632, 903618307735681490841560258168653691376080101303, 1049216400336347237760299962625440147864181132244, 1381836860535369273850588556988214865437970191876, 663877668274859685897079249349377329749873737593, 1119497417320030011047123693548305605120402373652, 1398694124900170072483892185434322580110843688464, 1343889712896273751662272888628497113010213174377, 1090270891625341702838057252142344630490157654953, 5046534278330142371863414737792050808423795206, 842416841827533819366889244457388947863621348429, 42696378706717511073810003291442951500962564451, 911056185956744750282416540017907329037346074295, 139322866527392997835093020563505124807766125545, 1220387190496444781127142294968794442450460172255, 989263054785051211654144266957171643749976447096, 48995579494762241416219878288937825753721945054, 237924784660735811166029555542776708227170928256, 1248270474690775613318492021727807236383418234549, 613213650011727340489332128442825522310259158858, 1286982148168626060521990351126310870990198749421, 52302681042193075156752779305771124876234676851, 394207879328344003980559159950897621357796720591, 133597761759814622945727153845955130243758938625, 529723748449535876306648068269796874113625105493, 821683148312790109872995065721776481403510883746, 1121151883260446917696975981874078493622107041132, 355661050907434859668787812799411256981322413501, 1450240677732760770381881351259476915962244539743, 1217669610037159599846514619672016817114662640860, 1293837474208320151689567195055211614794415193001, 92073239991223634561920839853885189387471956793, 1434378542501364592886938286259764128098909050948, 204396094258683074677479051117686633415389257392, 430497411554683404229790219544729651642850651039, 73585199124723997349342013535643904831448640933, 1297283076747369530996216036987543582388709274032, 694480612242862266692889818673323919398469071443, 1104553191682295244922090131947070264530430787726, 697800627377026390082190520010298412459898025952, 139500337508253058381385964537803786421869654336, 190972353513795186175553334839323831582505039717, 211922866747954307382648679025311675529676847169, 1283948678862320589253468268645350420946215301997, 440805950990275906471277675046579946395157105688, 211238300621149565362680866832880307695286748106, 47498262876258845626742149932042430602280022208, 276792965190480354796532090702134553053299296812, 538000702839257315178427711047268620423068196571, 819891373677452330381464819502670515237936178244, 855264364459087135394689567397759231095001516875, 605170388734755006878365952598139935187370428863, 592529660715034759896681378869257744800671790981, 1452865045078483602703106306888879571448569735657, 778082092798925374738132975236222246982508321856, 49361150325271487966200888160999146195036287325, 474854442196680809896519833528467684180317920439, 602899946361397701344925834104966142904986158880, 658518073226383543836690047940542973865098343397, 184394427736827973564760717173089116421695336839, 289531067093800067991356026622556814613380126513, 287442543950373036055530074687563351069313755415, 75164526440371887802397644087588659920809479625, 959996699319534820463073914248414975348141745329, 1387077827893146256189387126046080053306537099660, 1435840401888588285295459269233495234023098049313, 1078162867022071355882666919831914038058267693264, 45822468886893159465170799282010355358440727222, 1457251494502936182013956206683022602726342329077, 154691128715485996557249965813203350619538280478]
theorem plL2_is : (List.range' 200 100).map plN = plL2 := by kernel_rfl
end Go.Esp
namespace Go.Esp
def plL3 : List Nat := [806431545634231457623289820421468348523024019832, 385166214854759670345528106651606902526707936342, 1091318953941710868748007225470752536857242514097, 257918612056006758432117801036126048195901376739, 398265757188684960142997819992670687883809824767, 946928740935075472343793147705822030713502449721, 234766560605123350278599653723617374058124603615, 1368641273387228961984764658238132427195529664225, 759402685216383258171626447291367199992709775620, 121968698486420630387876300188187750182960358168, 1381985117461424751385719314110912661053555731175, 976132030140866044684043462249153348805717780113, 1365614708707218947180857704644793449102466789893, 56822182368499255080475164903389358570177947420, 150591375159365743849419932467294740199470762759, 1321013664618281707318896375374863446347759545268, 408656741648224349761155705506413709777261645338, 1126957153936114148523586919186645613289655554436, 1009406969766229505502838123233305068778928918728, 1273520564786490342744610389459073365058498215415, 804501008768870933718284085014112000619456505840, 801550072086659878695533230439111275617385173497, 952247713689762324438418005011310362412360977700, 788896378979814401778740319785973803860485082602, 1156724469118686752351560149383655464149963117614, 81175875995105819586020232367728083999092492872, 991676737439409661285818997834681617472590435324, 1073473672146897192702902189461231349493543409517, 1294003364645286733808772092975447391509358923169, 1447768883831450118372848469065591629232455305182, 187097740922245223606661579058799834986262448745, 1411324759127977592469944107832716236150383224427, 45005833372716332025875659513975065739277256079, 1454273615925203435489335722523743183269421247280, 289372983712418207098513436698918274713935832775, 516383568774162833858418152462132225185842162954, 540771758483484115594318602419625837394236068017, 648986160014372744895449788900406774580645806153, 231539128737482251903056416087793529362518684532, 563981680970586259372662447852412596227918147037, 1311336036754404464667156257562196803593649642230, 30270381924435985604077123565142547001383686556, 6515911528762963451985728742000389808833871324, 901470606400579015120148762579026084918970882333, 294529960509786460103454640409596481390832125859, 1132228877848855918182550835729448125238834120979, 309359457095140872131758053922493885463562446247, 441919486416478424580956409136063139614182206350, 970447483028826679317767589459612113299619736401, 804211478047910152079240935261290770981279354709, 273748150737578652134576543705465993769225026143, 1395260971472860522159850878157065858194113361755, 904731211260572763730866945114049594773535109886, 348698569295239791637485223803967840999797126336, 560165554345856808869073184587669647966085546454, 1099405588598581424194518638699733978684073159001, 1316345878788659233550035132892477696956239110891, 1101702824201918264861961328402671365894867616303, 235855653436292539590974749506722123267007211607, 1298796168066854322390302649921499350348052962285, 206364202904996302105929856301029691204376332995, 850025354831935812397846554787261291016492751977, 1304728088871469486639151826877300202260189198934, 674351919676065482204847079366639467769827176472, 358141758632014273235617710213547517399627756930, 257830943092938418092111086866404171357268479359, 1239630390413729758869360080683284841488735798804, 187713105881373997332961894429661359994364061957, 475944802379307988302358704014127295952590590513, 942173840226582392378085347053119107853169623942, 1180412811394477877909425874254593037970391810995, 1259961136699870451693746914600141298384183135845, 1310186446495652988278528727623488478797867606444, 42294136277397597241650088763371721509807546113, 839247776873393380080227047838679166314120119949, 1353876955761542281816753417884099148568981633906, 200321471836341450060335571289592794627414469423, 1272364352462507186032295937642599132432621756961, 1345773041937850112355936500946027333938032252452, 13435405802043180343899135275704038723774075161, 1079035416745332418575415369923889580335043051437, 330570348284435196470291469272012138261329804442, 76696997245098831502622844045960600748078706492, 137119346296495944400211632769513353226277690526, 99948099841285227964990907602155947913892282340, 1322344001088967687503851658722719182236182631222, 888471109883891904498878338746842221657600748098, 251056424213177462582295361537557779029356153757, 796651379928793828017885023959584262552643479590, 549527780508187204290121438529573997336552095859, 1033615708747718761775676242551815116698535729764, 278777394786050300841756482457857784751461316165, 161964586746212559116195297830486727906015823082, 1364580780691143986424625802442639502065520952568, 1406727311926561843566316864657591404286510418644, 21404121598840796398597742118552914336049676595, 1196125347561589633414528095819951991665890717522, 606120062357796987655871096789289635442289833516, 1348015349115884282216059402587691773783069012817, 1408740804740909976763620258347390459498313065304]
theorem plL3_is : (List.range' 300 100).map plN = plL3 := by kernel_rfl
end Go.Esp
namespace Go.Esp
def plL4 : List Nat := [1102665831763724763952141350760313077434001972505, 1200027936449767222661104346917214647533868869409, 829122515643415745620898090782741210774878504134, 10818972892008466991224579219116625241438535540, 612809444212855534116046224235842849908471391102, 1006618746769307685564470111686603737121255920222, 1388761937933996478699015098616124273171350172489, 455022674999440615766696990034098423990943683333, 482250175779468803736717413220398876137088931434, 1145880613197821924887270543776244351755482035650, 484170128886753861372028525156046584159360290733, 1228883901642790296653103114040956233239053949370, 136901610399415579028875422679995287504324359112, 285183272712265605059306284185080757354619962900, 838918671372959908521344655050359813977167136583, 14604236612033337600748032011940836130608068415, 1012758737646756897150470482512500536225574556750, 107246601997234374266467942215701005304294815537, 640289956986142487007915159544865198329107845742, 1162825467737903521078959741478356477237355404108, 903894156694468095430028641121740173354694727369, 47047121936511969012237392931468902459791458346, 325540422873056560895075932388508848873939348204, 421824549117023111119461778807264048030591944303, 305241112999164127542509504084769482279416106602, 1239522927156474659601400428718390690616872823227, 656470414287376597018327991040592502216352037149, 1198544031398382696480833236616736799962311273676, 827673585155366283002625218182890080268215074262, 895230266966114221400203614934162247667591861343, 570654489785712590596983077487402148838675895763, 707888204412795629584693785736774534468449505720, 185512963811179345928888433848983680644928063068, 1433498833553204911648537190930748910916633867180, 283411707174950125348611645328507192331066641160, 1453115357398047196907998230810346579561853558940, 575293043103076552713472999382546929864970664270, 328400280871942899085870279684978691586719466681, 706870008813526279775674615498436019135407797720, 413793297507943451251144113197662914865429605888, 1101255316122855082789784155867772083164364394052, 654691173833222880288754476296179226290775787606, 902227070893914846542151379827952637827156098982, 429489804512286651902336341637658468843171205415, 448731050142632503248915183506799607966057615457, 391742719483958949844689718044614807072438575563, 218936400088730330262590205691700038536792182346, 1025516285722911738911488006229011328621650753831, 1120815140555892611674711010622218878216571033216, 917127916929377311130276647221321313127851320502, 1310884374151816134906853529937357895995990544406, 1075036654952000007516409965106841991125657274572, 1392693967845537965226143595860389014079976782616, 543870991678701079235855156884682569746802794374, 298367258314066041735859599816103631040834443561, 601970328641815959387360128446563925063909961908, 298433271284744271737787082634875218002392584873, 1315853196825012357872581367097667263723981555542, 949698982206309171075039596140181702121055786774, 58219003093615390677413795816191296232518597723, 445007919679785303725034737129019822789073431840, 579277088131297144829378542235594766280478075347, 425404077685507702662969924733904156114260115927, 681782881418128228100567153952566032257537941723, 1444634806843279098752126926091390278513479974944, 551331482850003134544481437684040614217602433347, 575927296604046797861320095282111072406639188394, 945835280279625119919281511179948915522802739740, 1056989900314166969934399070114435587917198982771, 393077200853165953300597408704993485010666150422, 1101459347547231086639169832455832454767106817915, 399597289928171807593303263571405011578479297488, 1425658095822859445190660115356669240410115495718, 93427305087743340100357624215782236797131397869, 36545253855606325618055200638613970974167052957, 664634051127671635950434471663185226810900470217, 751947900441196078111888862025299892961686365009, 1016883399561228971986475522947080553946473219092, 128744960260035433666076764725118574263321801723, 558355613821153516450759724863988217492875784039, 257587911157604000615467908793869209018221801254, 39354256003682931666859426432538407374924328290, 217118240727717913530242335846039461671547422886, 225648656557957858309067365062633730820369665015, 1241807118657866390487260741804247700698023121669, 1101941320750183768378483613512903247114003927497, 1409723745772781217102926913535501446600207536363, 1297661764249915336497682455559115976582398616560, 1253921625069208020305786096754901091257818534701, 1099636919481624711580631311133120101674330896808, 932631566052193207577476747149173947490682696730, 1161986523090283184924856226222435904889674314284, 430166507397601346816264707871337009685799738384, 274339309746012040325461155471050226564723308994, 392092513672128044293461495519594276112891938980, 1189076469212662014149349289334431470236829199108, 1292869916435447202412325291725565118768158496023, 721216240971930125717487031359768413511185705188, 1011983957450814311661824192755260574064850892378, 1076051915742054660470457135893606072827225798690]
theorem plL4_is : (List.range' 400 100).map plN = plL4 := by kernel_rfl
end Go.Esp
namespace Go.Esp
def plL5 : List Nat := [295117490693021626581973528100475031072559543625, 1436822136239524448099999655571519111367634073239, 119860424466605238568208497186155258912737708674, 702656816930668463607995300854622596002096686395, 1316518708265681938808928215582018893294502436043, 159817395861704761687091305793886799137555478736, 69055169049979653016674562789900129667518807417, 472490983922567743973932383159237770545862617874, 71854851199431146093168555242486945764174366825, 695459774707419513193425473108307675438367448883, 606379669750178987256750703053486640441587021513, 1237720212265398879255127274829056572336626496883, 1405320926483029798373731793375562237326680275894, 743349980042620595560878356267298085808431224899, 617870160887750144415606623819790970931126323400, 166115380340853579689931592906034927652841720835, 41116166048340139634602396495668150000828268503, 596670031899928193974604561363192584200273147713, 504118424537895004337989875103218742810170368387, 67105782392215058723801908630302366933700314590, 1113558978253042480284925156622264803472137482513, 1130926132242515601460724747593198867108073101473, 1404295286320342793785671571464145215941115500907, 308085040547834463585847315158009928138164727671, 514695251518329700033628982113077219072656558816, 1037535070948169567292077812888477038638344774903, 1221027598025524033499102888189459684536874448457, 829511560904637574338344866198557389459591650712, 426832920945573889585338937817499069208488145891, 363232265418367954745560885966537670387262620816, 1339282868347967973706951344949409750308474457476, 813147412260194793461859654328542156556116150872, 244485102435591285167682537113073171104909966671, 1166608234584641717160308726888377026112139885581, 1132753105382617370043339736440908771849834442659, 277909458722496507058987509879719037760448618197, 847674275901670665160021394552341961869191829646, 647093548619725539373951586451185800382276996114, 617691235404201660243599491432881491251441309985, 730837915507277109335532151751895129561441999491, 104214938244551382275625675986328835966889755163, 918012992093854502890323038461321948412087770541, 453565593530485816074748032049272297451824513356, 111847633486189049825268038400424106303049919099, 6031853984597745506850972473822181992885098640, 794521806323135914650096172224948237524359612343, 641081110326437635716125567461942698495260192828, 795184639489578881877481934951443591473694061059, 716713331820162767875344416181274382977332419410, 1407508013327617062295071726436166421252221154988, 860894360267482528708623997810392288662666086664, 1119943755872706688883594164063287900348888196622, 1175758254436170352468768705009582201864841138997, 318835320962463434887838045323723869429513538415, 1324834602786256966463190580010273155936910650798, 1759931671191763415105379224433600256689987941, 468408645682908553231558318541905249072511051900, 676466439058922910038201598955350585327562805384, 1233620922265636776368912788135514711194863916515, 878116726784410036663546455148187141730179129995, 562318003393078951174499135162484523927898154490, 1286709290938277791094481672264870119352153483117, 100123224727435381458416545417056923812193177763, 1242514214366470897850835074036214384515922165105, 103901152883532961081470454347262436983760070228, 411609561416774706938240058097653673235974968589, 598481314099777987602838481284793023138132160744, 1333298238812717018006491046137422812572430260859, 197471734227365512828951056423497659085000614913, 655717352771658148474996226084254106787252799140, 1373941290284525755674333196601692546366728881020, 761149319690470825310324529600368291093911051218, 853815239169805605882324025178467481250648491912, 108959015730958049772971759157552552684796547910, 517705302122584087254153870176828969812706467142, 751115126566558386622952913108262464241110700538, 1423668082911702019425097520997349019562560919571, 1053694677735515141824108760634650881474169330214, 593836708295013436599371239875772969736559205368, 1445967948757641777345303341953451264139611187910, 81831743519536713464391755065861333329872842074, 276745534845185296865317534947569431192485182553, 1342489129525105270358694389697876889705005292368, 1125521003209131626160864770313383847812735273761, 421568355231329227653030280542177493840113949634, 1250840602310260451490429777544091191412690478254, 696153986323425148393892086798726526912281575162, 207972523768497363611211042873510412219236520600, 1286731734296005778129627560088913809206775510156, 521931772264704373686597008445625826277261135114, 230221301858840374677443564252882101777434021308, 856490329712736945991543051277902023291701170321, 124441034329243686575651996573845130972618722133, 649306996992445640784581343828218782198433485146, 719873968087088298278312724494052249789297415875, 28519065059707514477985001386054415877956622790, 1409522161814363252524167995730783736154017695741, 388091069090240392211072001594777931424999295327, 617463620394050830788049524004673001450159869618, 658040100135386424417256430728757854653255695276]
theorem plL5_is : (List.range' 500 100).map plN = plL5 := by kernel_rfl
end Go.Esp
namespace Go.Esp
def plL6 : List Nat := [266768156818738531776329287231702307249165844396, 1266728966781189982062277651898983276417785462940, 642270476373754512479105311685291608442693584199, 824590990260269241628644600361502456267456059290, 491506942901398953672115194662849107979745815816, 688881575078601508127186452021310115725337891797, 534104680740284940961538858018826358262877983425, 1056221435007630804665354141343900747619621109613, 1024003558799417150515079957766753857062324472079, 712815229527649942699958129035475079093479910826, 1157130542159333237093958482887487888150358876574, 803341516837099176222947240510179347259383079751, 82893993721770366501065825309354895921876414993, 36552275555058898409333111569695814493362124944, 1132441756067160197170418222451516516009813433540, 11318279692415543525467692599759328895284490574, 569436897894886550776523511105899981727576241670, 795947116718528492975602764111208555393945458887, 1417870536612003562662654091772767861749384951412, 1075461336985955133097408336010372847206529386987, 777904385204767387865195333944114911669607733807, 217008965126285378058033658640110060092838357795, 1187537896580275648959475666001452236795927732655, 937546657561448266141549927493058627530586902058, 1439428970512166946939253996811776341805148931449, 32769520194247645771101244868946576604162061096, 1040469454999152962587657505505833252246061714298, 991576328245965450382265804257239116004429520478, 371688528855200830228370927096241337276572301608, 330726457503809149329011582709836957958406314881, 325996598140133732643768101440761233852833321413, 531305305417769240542239984384521719781860528874, 1116022577253466959769885864414488581672473332753, 920338320832409202900683801457127940289114131243, 1241869821969951276154800179738310088692182108762, 985467177927174019997594994983261111180175711593, 423622474038862099430371873092148372844032489253, 268898239345475340299898913355282903279317774839, 229043677727183409020606743972185483369303602871, 1457758948248735023888114066957615971683968749799, 88443421769472866520029782311513337323559814756, 752165357513667958079218896472323620060522155424, 1302910229863207540261180881837851585042958556682, 1412592276990777154868007057462191816667426655059, 154387427885490470555445868000864426170393156903, 1352635243662113273336282599264658868298199315130, 596073516581255922943952397012894170996563752869, 487068676955084995971852993788156607091677616714, 382593216202723089494236839355422890956930426769, 1181489772557006848727288885599414875372575940060, 1255262449102610855150223646848212308357892091221, 114380989194683679484749521273853244662395917219, 1054584957600931910844632304936159410623815128828, 1317011297543074774801044102329603741159061747614, 921548647420276948632898166813669633260052115297, 2549656765642557471389570941937338683567662190, 1150304008340831626628880266952274819946973708780, 874004602033520300017473754597927788607580589019, 1131856276137467794001722630094805237277267512237, 139971632273105938708170671703866106389818652106, 733266920901569759775971219207793849727877369831, 752108120512823607540641074868275516490832386936, 663825164650343448082659762037952562176366631935, 1195979170713293574006889879042204299701254657019, 618834299899071454256768805741937555900291465796, 1399412567459118354467423027650782251064805101007, 1008759291855903938024955693959982989308957190504, 153895379018772329876300259618143397140134533438, 753886813251698665935508294510791508800788549408, 1126216434003985861899584754442526053024817021943, 831688117854923741159989528487769673414580549024, 419838792179331714158644315312389121827612773528, 592628266599557932650194826834580754712023640354, 710309856597578461761449422945678647861954528208, 183947313542523341105953720846686773158358787013, 2003329876669924846875604502301396365490446726, 1191521619491441426331267321654684109308700627952, 797515697467496428963321143760187591672224072891, 992939733224850031996031544846390950265843675690, 293753238422111489996730602946876883847133546971, 910831473855514627406959017534385434470667511370, 708655007715731354367494346586391135727544117053, 505560070804761320806655249000803106642773599223, 1003941859095973078810021537847898713393007063709, 132933891008602234671348904121968425024054649588, 854458766760684980294923133176362963783952448510, 456838293349505774588872088184718258990532083751, 80962809930069412239355151723586456980347156160, 506806859908345768041815424129899844067781831277, 1439600315203755162018975703166361067870428362129, 1381013368685802400355045130529519003021182355950, 1454723777713304122707250802990925830457931013010, 748555829939004462389632183949227632868207537318, 580446495769167020178220036055436481714920010615, 588094649545817151810427580134597174767862752302, 1239974710659984384737663641202299836720344186889, 248497945724726409466241737737228761773352483171, 522217689296815446558897475585037706860232988494, 992563002726295722489050886773362267376991691644, 1158627543217452859009260212139450508323754659403]
theorem plL6_is : (List.range' 600 100).map plN = plL6 := by kernel_rfl
end Go.Esp
namespace Go.Esp
def plL7 : List Nat := [877729077210143458565104844204185192765807539676, 930157729124971737295116053235503882458202740771, 393935126139948821916767754167105820373145749702, 477453820017669994274950881240329036960282328816, 1446093450587923430394323418660035128545079366003, 554441848519131012436477461352328088686285326358, 541126906094397048882126767882783934648473345230, 575678016426234541975801929992957498202894763623, 540715148547410944245603854659185871259164773927, 270134414353117965019616924827409891276935368407, 1010804536035515748286626062952947384018080669794, 5531147715774741973429682142377356383571678518, 343200193008708593705129551937487462394777801081, 1246972743831548479990837511186694576313778663410, 1104952193948036223161982909463725596800983390107, 1399499419505932079818842706766805031758087141600, 1138025507172104305421269883007844134320493103583, 971395182428150458724999887719696506196040867979, 784549122450979866725094086299054594462838456658, 94160821589318421592660471524197967474466298311, 288666260924779824691719082889603505834112384176, 239338554476356764241193040264467199326290418871, 541940813306833699197819204482425783672162413855, 887320350740468848441039283165551404947385378641, 1171560352421539458949125547738271967186157797784, 696644873006743006086204528111651954397381594923, 746652493333166480299101568107772735418138714699, 4053313668866670095304144867216224089986778265, 1098749507933119650793566419118151076310229426826, 33390188328866324873201302135691314381694399766, 1097000673134885595148456294342569056181770185786, 778999385661939807072979171601985497661546699644, 279898843160197721500511530376965603955405860651, 171436772773969374609934842740600275745175805028, 1340682316292528548571896995058924364453841154703, 628596402785197822944431766499640883787974491891, 1214094366306497567832270616770293837360016364722, 619140541501730110582833793223710229096070136643, 707625279936620882882976003388566064456993211522, 1061359091194122219235579749639283150771056396315, 539071597218064362399373536044228601807470664007, 510835125920907164474945351304243301959970112363, 1377956075011843035798883608316420937456816016696, 273369220620099278580468742412190963285851337231, 809685735232040678580431765373236054965474610786, 1257129433569028193839621390600414777039728656419, 180483712165166979374907208712538871449186685836, 1222408962884565041408108066408998388232973749263, 947588188737846809754463289400764799613455435199, 236978280678648026370989858125495747693038399084, 1436046726416641953052634821059194511421077150114, 1230594855698880709556506002182024953573620671265, 649637010882745277519891020022665544982683237031, 513038867738511531360276274984216932788875512193, 574428706636331502237876261439560497922098057785, 838599451717977058371681053579697179215081053829, 232704170681004782419811734370378943186368645721, 125539504926844536561023827643206830200443836521, 1218619348010310856239817686042915956776405176109, 1073539993054819715854663400772200985943747243298, 1346647982754592696499032394581933826242552286113, 1337293489489234034131339206734131923893432430820, 426354149178978421742753247861570978290480180119, 690432832042889403220243063665279458747127941622, 430924900368104389281609676634545617759536161871, 625162156467751307295748680761780480186651616023, 281596654290479802464394755813858164236790435276, 1217606436778065283646761689133144934150978263982, 452102451847845502124874147143071148352777710652, 1099405962584584573669755185330038868885573556413, 141824903454084502565015753041572995210856492363, 980690625262565190671864895784663349215406936014, 787596289357878031137109472109499811140221242566, 677770246692342905311772288037730502521031215814, 719571042748331725641558762537580045979667240745, 672158260562835511413086976902299356405532990119, 724494129559266257449524425958974287971848348525, 423681820781579137403744573507369052119291751879, 409548883184417221078666573052022664787971033781, 1214507294977172036801408323488684435225040949843, 1390482370768323028221032579549017702615242509807, 1016099593844132573684274427145433630372941121317, 151699434976648173255385635299241246647211085638, 717130039390289891153489219813266793707136445051, 784011503199258964319451441738740190408626933632, 1273183053329088435869661798437339737643608540128, 1127259478783306769326283805643973884665855590815, 452541681363265571510032749228192311426410640178, 265513620699821537463836388635701117467351403428, 853389408499733196278550143792954362469713712996, 731453884354747047573174724451095971470997198521, 1194835460560065045371963511167436017982098162756, 500161186990753211232217454246566787313957025729, 476197595237419897045062209953984619324001002044, 248009539613284540186802096497022772628201548532, 1270426407165653427830837219768981476073701930863, 352020816152978924112954318464284206729726453543, 946640556975944721331459712774363514683873302025, 1114898181620730305938675104671095895225345464821, 695262184030411978271463934977222905077504856563]
theorem plL7_is : (List.range' 700 100).map plN = plL7 := by kernel_rfl
end Go.Esp
namespace Go.Esp
def plL8 : List Nat := [1117294810413434013013304296401834478253137180852, 165341438816884742545903866501118929755787407160, 512740025377895921817939455852461310221185338284, 1367533551836770607577700125334735545712498244790, 295782209248474551413312881639205322543787356788, 669395539579503673893090454482327202533912807227, 1457699125906297796318284623459277419538373327354, 204154570314427433243170052301107586136092331060, 1429067711342735553558753062010669593431943841922, 1001741343161269316028751093516740504188209254145, 1445253772864663231034397756425259993517993097109, 1202705749536127549208986022280350158862383618185, 640571263562085956269200661873409643113745395599, 1202391148612149705448127254171633190820037535027, 1088636743858025317145986926915652693842253891291, 1245333093131491631451922069269138768691622517055, 1211876578206613879524333809459679262552086190885, 1165090090952733616174396105450399440114596257364, 1265329521284959849214979916671703879542326550676, 444706600400797137359670219899857514166445051448, 348076656838816641883065532708150783735635461435, 918434151026102819678029016975219767768075375697, 1021888050858463979333353912503204850509145426994, 545041568888014909616535752206707746741833547858, 1039365512392841233271682366863250940397954199125, 1316686623884564714666276222879054047729763907349, 957179570798502835486425191089024628756062426881, 803555265965950856357034713594760035151814428061, 470805226349961943383242824855086828152806095891, 978174073642598119448567030850724274481921820882, 878683341328002775873744089372025030407216421298, 1020862033187221289027807135660599903703344143141, 1265361982732954669394406686351570249403844600640, 573273201685421784247499965377530421348416149079, 341808367109257872219766702498609036757582652093, 988173533593245992495626198490936431933299427197, 188672791583222646859073481918280999451626023480, 1170326418852288994570836493469990876179840506147, 1394938505813865402386112017801788750766335796568, 126932749416634925195633344149578874296005905703, 930957851994022748186649935983371965077648250748, 65406586645030042276504425862296392776554882632, 1002851189097369894060327109612251552524610798175, 1364710587660620343460535147078225725217895875832, 1380618322746819561065042562392937323858952584559, 1423017373132093593124877335856714082733073783726, 529012308751326355910110860826684010073135169422, 477893696104255111452568003456738152023020103252, 1326368569174219008902481922118254658286853150148, 426176917662987301234902668568631800414678154189, 678864202963730539320024575265028402298699424490, 975733936979457092585305869051959330535016103023, 1385683892050141340201580516756966652678383946458, 1313567967759541435592379218975904043811864379524, 754891827976049331483061335304687194906134181877, 860953052471674763300128215889060485432035933184, 1208466094101130022483129807037829757957520858764, 930965084091761072123793777563123717717654327493, 885514044625930595924803805845775169975856807355, 1199026481123949093991665891302736873827640629339, 95091941306272991691796402680971643469258792590, 868042747796659181384074705671421321825038562938, 351242345228838493839875484800520908087381561829, 801917270768632640372704965800358995779784117928, 1155275460495436993011570233649246067477034760120, 989314410340872226226160700301307116147721330035, 508249834957987960830274856862728671566593975526, 1312950757303159159330611114435950985647830617443, 772628260975205118150019925722911362371710657818, 391473765270717710376852301465480526726725745604, 121538100701440765522887492639682532988354118907, 391741988116283065388628604232185595222003233692, 514774569817484311623513039687590671293478056158, 1411507850984368471897292149188596587718149175795, 780479693164053633518646199248774068389771732134, 531595947811118380742701988525840226850519190403, 143150832240175371828644030646337808423868380882, 419337951741508310726922589785054527885042663042, 362733683125503115513019677725116841399508422776, 902988207521869103128045824571785871366298597490, 920864880478228528989660588990082147414171941402, 1201383319362327905215324210124560421658922346430, 886569089297289913269058225640855905094385560950, 676028767296617246661304305415795460336377035306, 153143461826641337744295952934578763646353187130, 671836342865505726227287032989398166330789621361, 570111487217645735025503432022653659127187336549, 1251262988573401815808586723856131988547866498522, 590023598692784181152717961272476720754986535892, 1009583558574735070299019498339448989203448906653, 345844225954978225775076151297054705285858762149, 80358725653963063660585242775435015511420130076, 148008986893145994459960469365165004900688777117, 750517925441143275380140399877241855504509819296, 956818368569627904951777389162957997794311808616, 1452237322372019005074837116163392985084690757438, 689954400630380669049838692454641358674446322199, 1089242808369720150272527455450126271016431105688, 665832428451104851309541114699671485502434369058, 572148813379966308469298105894169874081782137702]
theorem plL8_is : (List.range' 800 100).map plN = plL8 := by kernel_rfl
end Go.Esp
namespace Go.Esp
def plL9 : List Nat := [962440359423201240651046428699493577462331477982, 454378685616522163501224502275231618680686419978, 1413069792759892017746120614633311550813344031518, 1033879126606416412291784704860263540665214447945, 8041431782683533625120936438443873355773061942, 1123209904268710999151487766593185755081220200464, 171671055923496992740093211528021901735232265251, 1130358717210298033341159630808229541161766731362, 1303521419985613729500332177991647194203180485270, 432892006161356266684457209583753116234266700949, 690485703247404880421625268342192044488135040608, 132692119722883834586024877079844509999619463525, 875596202126646602668758276730742538306764262852, 1278217553048630414066688090255492074374222608732, 14819730119874332027603040656379348563901181886, 356066322888557213950133736751065228885497306090, 1370025426631684635297977999043293938533837805546, 1145621790347733823015479087203498609709835220324, 1286060382493701212184737198220282841907506619056, 766093133111598906679527840253819017623471114497, 42856974688475702687166331750102048539366275947, 157799291739607488975167060290294506598395436021, 1008901678248602653600200828633615007039673982559, 1446086730150140031207228036070475616299678598076, 1456159501107501856026189462999747771364983110694, 1416630096385543858461600890903915978733751614229, 1238100058214679193687179271092204442234053541210, 1179618705193384435048617516202345336789637438714, 700469648203447046709654042579381181880757097943, 874971456357155096242144717802444123546509604919, 1367748714300565282564250272618213659681829677815, 237246285550784344824282821619917734178663828038, 1272018825412295932712062643322423216734973685847, 9068541603727460978097399871914054156452830757, 184436078803202269983583138090424411040942581878, 1384580862692251532254369411117944819365216927520, 376347616053784176580329241410685182942493725382, 1213415985796187926464818801391038767707768918402, 228562282902222777049906526385342693048948274720, 724438115882143994263844249764394022638818436880, 485796867051299500407054962421740199731222510769, 207526121770471372239950506397933856123970443929, 782656521112422554539315431387981139077596471529, 860595294237511573934088606735127239144922338291, 282420409998150293668594737642806482204035998230, 1075271427064812187650762320602895977268689110290, 406857836730788010180166547498367152593440713120, 1431199409798973438140972377217175330822489627234, 320688892185773521838179730434293444213249822559, 699731674164412098508692065491922498875018782113, 511591566108074196323707223348363022622374851665, 1382822819281777012615005881005826249404415492852, 456276855527405607448279120291286712036710749415, 245783553726916021060224092845325701984808737844, 869477303577087028984764413744153627115656382775, 613990467957878411329868245435855336583165632497, 681343830724200445135328150610904203205792269628, 1394132179784242543461769290618253640085204879794, 955939261807477717861179666489884433038551122864, 52139275290522139077747309544230603586794233611, 509160667323415418747706462632270309284969922474, 890516537197303366095282915019245382726461072138, 1281722209600305291522332950864820589385720156648, 1411636560835929398243766356451351529143663003873, 1358976630069111480224928427604229026640920533278, 708758968885296644521282414007909313012034310563, 315932398114324153248220127514707984941011633846, 1429688745682072330659291349434517361731980351862, 1148678138915536270571247706511230370798757108271, 493392201815035645457731148622925042346457986051, 792335206621820038492278539780323796579685578316, 520431158963306845914362522379236765554101110975, 591842986324207923987141203440029557942970758269, 341186693347396285616159791067962598103872530467, 1267994329058591976079354106364085742608025709361, 216045652547080123536267377184873580182928971074, 486414176859702908517719835867620474793189216005, 112215862398239811097827972924494132003301486911, 117093287668694406037467010692989069402176906216, 935379722759107429741913769882590595856455423579, 1371273188620678547582826738227748613347251440223, 87851677184106771754779445928904773077952134865, 154798382406676411573571865149037575499956762058, 483758878098845015558333840461734529958843901621, 332878561128112635884765908001638416660316734476, 461708086272372949111337737046987089169828573180, 1239450231545633708455372033516615472210054821995, 1102878599971333900084281635730027479545516334014, 94841954126071320758957476584544026504836843151, 1344153713284212245596277292911147072102226328376, 1336275437389162921435172132487890284161219048114, 227563923569842586401978923091030629520296457275, 872713710698593834618083438171654927286452281861, 610226181978388594012417569314664955637492019174, 465900576177867300732474668814707337299299696640, 1353842277737891469222005829400156206840305040729, 107825029562371018140666024909544570668581140535, 1273785428171652862824763738951430026611690264959, 129794778253863973912762899815818803327415981600, 1148314806482138532225634112788748506804779966219]
theorem plL9_is : (List.range' 900 100).map plN = plL9 := by kernel_rfl
end Go.Esp
namespace Go.Esp
theorem pl_apart : apartN 55377 (plL0 ++ (plL1 ++ (plL2 ++ (plL3 ++ (plL4 ++ (plL5 ++ (plL6 ++ (plL7 ++ (plL8 ++ (plL9)))))))))) 0 = true := by kernel_rfl
theorem plL_is : (List.range' 0 1000).map plN = plL0 ++ (plL1 ++ (plL2 ++ (plL3 ++ (plL4 ++ (plL5 ++ (plL6 ++ (plL7 ++ (plL8 ++ (plL9))))))))) := by
  rw [← plL0_is, ← plL1_is, ← plL2_is, ← plL3_is, ← plL4_is, ← plL5_is, ← plL6_is, ← plL7_is, ← plL8_is, ← plL9_is]
  simp only [← List.map_append]
  congr 1
theorem plN_inj {a b : Nat} (ha : a < 1000) (hb : b < 1000) (h : plN a = plN b) : a = b := by
  have hd := (apartN_is _ _ _ pl_apart).2
  rw [← plL_is, List.pairwise_map] at hd
  have key : ∀ x y : Nat, x < 1000 → y < 1000 → x < y → plN x ≠ plN y := fun x y hx hy hl => by
    have h9 := List.pairwise_iff_getElem.1 hd x y (by rw [List.length_range']; exact hx) (by rw [List.length_range']; exact hy) hl
    rw [List.getElem_range', List.getElem_range'] at h9
    simpa using h9
  rcases Nat.lt_trichotomy a b with h1 | h1 | h1
  · exact absurd h (key a b ha hb h1)
  · exact h1
  · exact absurd h.symm (key b a hb ha h1)
end Go.Esp
namespace Go.Proofs.YtpfdblknaihidaaDoor
open Go.Esp
theorem F.ok5 : okFn Tryd.prog 5 = true := by kernel_rfl
theorem F.ok6 : okFn Tryd.prog 6 = true := by kernel_rfl
theorem F.ok7 : okFn Tryd.prog 7 = true := by kernel_rfl
theorem F.ok9 : okFn Tryd.prog 9 = true := by kernel_rfl
theorem dec_is {n : Nat} (h : n < 1000) : (Lib.decDigits n).map (fun b => b.toNat) = digitsN n := by
  unfold digitsN
  by_cases h1 : n < 10
  · rw [Lib.decDigits, dif_pos h1, if_pos h1]
    simp only [List.map_cons, List.map_nil, UInt8.toNat_ofNat']
    rw [Nat.mod_eq_of_lt (by omega)]
  · rw [Lib.decDigits, dif_neg h1, if_neg h1]
    by_cases h2 : n < 100
    · rw [Lib.decDigits, dif_pos (by omega), if_pos h2]
      simp only [List.map_append, List.map_cons, List.map_nil, UInt8.toNat_ofNat', List.cons_append, List.nil_append]
      rw [Nat.mod_eq_of_lt (by omega), Nat.mod_eq_of_lt (by omega)]
    · rw [Lib.decDigits, dif_neg (by omega), Lib.decDigits, dif_pos (by omega), if_neg h2]
      simp only [List.map_append, List.map_cons, List.map_nil, UInt8.toNat_ofNat', List.cons_append, List.nil_append]
      have e : ∀ x, x < 10 → (48 + x) % 2 ^ 8 = 48 + x := fun x h => Nat.mod_eq_of_lt (by omega)
      rw [e _ (show n / 10 / 10 < 10 by omega), e _ (show n / 10 % 10 < 10 by omega), e _ (show n % 10 < 10 by omega), Nat.div_div_eq_div_mul]
theorem peer_text {n : Nat} (h : n < 1000) : natsOf (nodeS ++ digS (n : Int)) = 110 :: 111 :: 100 :: 101 :: digitsN n := by
  rw [natsOf_app, ← dec_is h]
  rfl
theorem peer_inj {a b : Int} (ha : ¬ OddA a) (hb : ¬ OddA b) (h : (peerN a).id = (peerN b).id) : a = b := by
  unfold OddA at ha hb
  obtain ⟨n, rfl⟩ : ∃ n : Nat, a = n := ⟨a.toNat, by omega⟩
  obtain ⟨m, rfl⟩ : ∃ m : Nat, b = m := ⟨b.toNat, by omega⟩
  have h1 : sumP (natsOf (nodeS ++ digS (n : Int))) = sumP (natsOf (nodeS ++ digS (m : Int))) := h
  rw [peer_text (by omega), peer_text (by omega)] at h1
  have h2 := congrArg BitVec.toNat h1
  rw [← plN_is, ← plN_is] at h2
  rw [plN_inj (by omega) (by omega) h2]
theorem digs_all {M : Mem} (hp : PowM M) (l : List Int) : Digs M l := by
  intro M1 hM a _ ho
  unfold OddA at ho
  obtain ⟨n, rfl⟩ : ∃ n : Nat, a = n := ⟨a.toNat, by omega⟩
  exact Itoa_all M1 (hp.mono hM) n (by omega)
theorem of_same {l : List Int} {s t : List PeerV} {c d : Int}
    (h1 : if l.length < 1 ∨ 16 < l.length then s = [] ∧ c = 2 else if ∃ a ∈ l, OddA a then s = [] ∧ c = 1 else ∃ l' : List PeerV, l'.Perm (l.map peerN) ∧ l'.Pairwise (fun x y => ¬ lessF y x < 0) ∧ if IsCircle l' then s = l' ∧ c = 0 else s = [] ∧ c = 9)
    (h2 : if l.length < 1 ∨ 16 < l.length then t = [] ∧ d = 2 else if ∃ a ∈ l, OddA a then t = [] ∧ d = 1 else match insAll (l.map peerN) with | none => t = [] ∧ d = 9 | some o => t = o ∧ d = 0) : s = t ∧ c = d ∧ (c = 0 → IsCircle s) := by
  by_cases hA : l.length < 1 ∨ 16 < l.length
  · rw [if_pos hA] at h1 h2
    obtain ⟨rfl, rfl⟩ := h1; obtain ⟨rfl, rfl⟩ := h2
    exact ⟨rfl, rfl, fun h => by omega⟩
  rw [if_neg hA] at h1 h2
  by_cases hB : ∃ a ∈ l, OddA a
  · rw [if_pos hB] at h1 h2
    obtain ⟨rfl, rfl⟩ := h1; obtain ⟨rfl, rfl⟩ := h2
    exact ⟨rfl, rfl, fun h => by omega⟩
  rw [if_neg hB] at h1 h2
  obtain ⟨l', hp, hs, h⟩ := h1
  have hx : ∀ x ∈ l.map peerN, ∃ a, ¬ OddA a ∧ peerN a = x := fun x hx => by
    obtain ⟨a, ha, rfl⟩ := List.mem_map.1 hx
    exact ⟨a, fun h9 => hB ⟨a, ha, h9⟩, rfl⟩
  have hi : ∀ x ∈ l.map peerN, ∀ y ∈ l.map peerN, x.id = y.id → x = y := fun x h1 y h2 he => by
    obtain ⟨a, ha, rfl⟩ := hx x h1
    obtain ⟨b, hb, rfl⟩ := hx y h2
    rw [peer_inj ha hb he]
  have hn : ∀ x ∈ l.map peerN, ∀ y ∈ l.map peerN, x.addr = y.addr → x = y := fun x h1 y h2 he => by
    obtain ⟨a, ha, rfl⟩ := hx x h1
    obtain ⟨b, hb, rfl⟩ := hx y h2
    have he' : a = b := he
    rw [he']
  have key := insAll_is hi hn (l.map peerN).length (Nat.le_refl _)
  rw [List.take_length] at key
  have hpa : (l'.map PeerV.addr).Perm ((l.map peerN).map PeerV.addr) := hp.map _
  cases h9 : insAll (l.map peerN) with
  | none =>
    rw [h9] at key h2
    have hnc : ¬ IsCircle l' := fun hc => key (hpa.nodup_iff.1 hc.2.2.1)
    rw [if_neg hnc] at h
    obtain ⟨rfl, rfl⟩ := h; obtain ⟨rfl, rfl⟩ := h2
    exact ⟨rfl, rfl, fun h => by omega⟩
  | some o =>
    rw [h9] at key h2
    obtain ⟨k1, k2, k3⟩ := key
    have hnd := hpa.nodup_iff.2 k3
    have hne : l'.Pairwise (fun x y => x.addr ≠ y.addr) := List.pairwise_map.1 hnd
    have hst : l'.Pairwise (fun x y => LessP x.id y.id) := by
      refine (hs.and hne).imp_of_mem (fun {x y} hxm hym hh => ?_)
      obtain ⟨g1, g2⟩ := hh
      have g3 : ¬ LessP y.id x.id := fun g => g1 (by unfold lessF; rw [if_neg (fun e => g2 (by rw [e])), if_pos g]; omega)
      have g4 : x.id ≠ y.id := fun e => g2 (by rw [hi x (hp.mem_iff.1 hxm) y (hp.mem_iff.1 hym) e])
      unfold LessP at *
      have g5 : x.id.toNat ≠ y.id.toNat := fun e => g4 (BitVec.eq_of_toNat_eq e)
      omega
    have hlen : l'.length = l.length := by rw [hp.length_eq, List.length_map]
    have hc : IsCircle l' := ⟨by omega, fun p hpm => by
      obtain ⟨a, ha, rfl⟩ := hx p (hp.mem_iff.1 hpm)
      unfold OddA at ha
      show 0 ≤ a ∧ a ≤ 999
      omega, hnd, hst⟩
    rw [if_pos hc] at h
    obtain ⟨e1, e2⟩ := h; obtain ⟨e3, e4⟩ := h2
    have he : l' = o := List.Perm.eq_of_pairwise (le := fun x y : PeerV => LessP x.id y.id) (fun a b _ _ g1 g2 => by unfold LessP at *; omega) hst k2 (hp.trans k1.symm)
    exact ⟨by rw [e1, e3, he], by rw [e2, e4], fun _ => by rw [e1]; exact hc⟩
theorem lawOf_ok (M : Mem) (l : (Sl Int)) (x : (Sl PeerV)) (hl0 : SlK M (oneI .i64) 1 l) (hx1 : SlK M PeerV.segs 21 x) (hM : M.dr = 0) (hP : PowM M) : Esp.Fn Tryd.prog 3 [Sl.val l, Sl.val x] M (fun _ v => v = .bool true) := by
  obtain ⟨l_a, l_c, l_l⟩ := l
  obtain ⟨x_a, x_c, x_l⟩ := x
  have k_l : SlK M (oneI .i64) 1 ⟨l_a, l_c, l_l⟩ := hl0
  have s_l : SlM M l_a (l_l.map (oneI .i64)) 1 := k_l.h1
  have n_l : (l_l.map (oneI .i64)).length = l_l.length := List.length_map ..
  have m_l : l_l.length ≤ 9223372036854775807 := k_l.h2
  have c_l : l_l.length ≤ l_c := k_l.h3
  have k_x : SlK M PeerV.segs 21 ⟨x_a, x_c, x_l⟩ := hx1
  have s_x : SlM M x_a (x_l.map PeerV.segs) 21 := k_x.h1
  have n_x : (x_l.map PeerV.segs).length = x_l.length := List.length_map ..
  have m_x : x_l.length ≤ 9223372036854775807 := k_x.h2
  have c_x : x_l.length ≤ x_c := k_x.h3
  refine Zbv Tryd.func3 rfl Tryd.ntmps3 rfl ?_; intro H
  refine Zk ?_; refine Za (l := [0]) rfl ?_; refine Zc rfl rfl rfl rfl ?_; refine Zg ?_; refine Ze ?_; refine Zk ?_; refine Zk ?_; refine Za (l := [0, 1, 2, 3, 4, 5, 6, 7]) rfl ?_; refine Zd rfl rfl rfl rfl ?_; refine Zat rfl rfl rfl rfl F.elem22 rfl ?_; refine Zaq rfl rfl rfl rfl rfl rfl ?_; refine Zd rfl rfl rfl rfl ?_
  refine Zbb 12 rfl (fun hc1 => ?_) (fun hc1 => ?_)
  · first | replace hc1 := dT hc1 | replace hc1 := dF hc1 | replace hc1 := nT hc1 | replace hc1 := nF hc1 | skip
    try simp only [PeerV.eta] at hc1
    first
    | (exfalso; omega)
    | (exfalso; simp [eqX] at hc1; done)
    | contradiction
    | skip
      refine Zj rfl rfl rfl ?_; refine Zj rfl rfl rfl ?_; refine Zj rfl rfl rfl ?_; refine Zx rfl rfl rfl rfl rfl ?_; refine Zg ?_; refine Ze ?_; refine Zl (.cons (k := 16) rfl (.cons (k := 4) rfl (.cons (k := 0) rfl (.cons (k := 1) rfl .nil)))) ?_; refine Zcg rfl ?_; refine Zk ?_; refine Za (l := [0]) rfl ?_; refine Zc rfl rfl rfl rfl ?_; refine Zg ?_; refine Ze ?_; refine Zl (.cons (k := 4) rfl (.cons (k := 0) rfl (.cons (k := 1) rfl .nil))) ?_; refine Zam ?_; refine Zar ?_
      refine Zal (.inr rfl) (.tmp rfl .nil) (fun w hw => ?_)
      refine ⟨_, _, rfl, (by first | exact Mem.le.refl _ | assumption | (repeat first | assumption | refine Mem.le.trans (by assumption) ?_)), hw.cnt (by intro zz; first | exact Nat.le_refl _ | (simp only [Zh, Zf, Zi, cat, List.append_eq, List.append_assoc, List.cons_append, List.nil_append, List.append_nil]; omega) | (simp only [Zh, Zf, Zi, cat, List.append_eq, List.append_assoc, List.cons_append, List.nil_append, List.append_nil, PeerV.segs]; omega)), ?_⟩
      clear hw
      first | rfl | exact congrArg Value.bool (decide_eq_true (by omega)) | (simp; done) | (simp; rfl) | (simp_all; done)
  · first | replace hc1 := dT hc1 | replace hc1 := dF hc1 | replace hc1 := nT hc1 | replace hc1 := nF hc1 | skip
    try simp only [PeerV.eta] at hc1
    first
    | (exfalso; omega)
    | (exfalso; simp [eqX] at hc1; done)
    | contradiction
    | skip
      refine Zd rfl rfl rfl rfl ?_; refine Zat rfl rfl rfl rfl F.elem23 rfl ?_; refine Zaq rfl rfl rfl rfl rfl rfl ?_; refine Zx rfl rfl rfl rfl rfl ?_; refine Zg ?_; refine Ze ?_; refine Zl (.cons (k := 16) rfl (.cons (k := 4) rfl (.cons (k := 0) rfl (.cons (k := 1) rfl .nil)))) ?_
      refine Zai rfl (fun hc2 => ?_) (fun hc2 => ?_)
      · first | replace hc2 := dT hc2 | replace hc2 := dF hc2 | replace hc2 := nT hc2 | replace hc2 := nF hc2 | skip
        try simp only [PeerV.eta] at hc2
        first
        | (exfalso; omega)
        | (exfalso; simp [eqX] at hc2; done)
        | contradiction
        | skip
          refine Zk ?_; refine Za (l := [0]) rfl ?_; refine Zc rfl rfl rfl rfl ?_; refine Zg ?_; refine Ze ?_; refine Zl (.cons (k := 4) rfl (.cons (k := 0) rfl (.cons (k := 1) rfl .nil))) ?_; refine Zam ?_; refine Zar ?_
          refine Zal (.inr rfl) (.tmp rfl .nil) (fun w hw => ?_)
          refine ⟨_, _, rfl, (by first | exact Mem.le.refl _ | assumption | (repeat first | assumption | refine Mem.le.trans (by assumption) ?_)), hw.cnt (by intro zz; first | exact Nat.le_refl _ | (simp only [Zh, Zf, Zi, cat, List.append_eq, List.append_assoc, List.cons_append, List.nil_append, List.append_nil]; omega) | (simp only [Zh, Zf, Zi, cat, List.append_eq, List.append_assoc, List.cons_append, List.nil_append, List.append_nil, PeerV.segs]; omega)), ?_⟩
          clear hw
          first | rfl | exact congrArg Value.bool (decide_eq_true (by omega)) | (simp; done) | (simp; rfl) | (simp_all; done)
      · first | replace hc2 := dT hc2 | replace hc2 := dF hc2 | replace hc2 := nT hc2 | replace hc2 := nF hc2 | skip
        try simp only [PeerV.eta] at hc2
        first
        | (exfalso; omega)
        | (exfalso; simp [eqX] at hc2; done)
        | contradiction
        | skip
          refine Zah ?_; refine Ze ?_; refine Zl (.cons (k := 4) rfl (.cons (k := 0) rfl (.cons (k := 1) rfl .nil))) ?_; refine Zk ?_; refine Za (l := [0, 1, 2, 3, 4, 5, 6]) rfl ?_; refine Zd rfl rfl rfl rfl ?_; refine X_fn rfl rfl F.ok4 rfl (Of_ok _ ⟨l_a, l_c, l_l⟩ k_l hM (digs_all hP _)) rfl ?_
          rintro _ M1 hm1 ⟨⟨a1, c1, l1⟩, e1, rfl, k1, h1⟩
          refine Zd rfl rfl rfl rfl ?_; refine Zap rfl rfl rfl rfl rfl ?_; refine Zap rfl rfl rfl rfl rfl ?_; refine Zc rfl rfl rfl rfl ?_; refine Zc rfl rfl rfl rfl ?_; refine Zg ?_; refine Ze ?_; refine Zl (.cons (k := 6) rfl (.cons (k := 5) rfl (.cons (k := 4) rfl (.cons (k := 0) rfl (.cons (k := 1) rfl .nil))))) ?_; refine Zk ?_; refine Za (l := [0, 1, 2, 3, 4, 5, 6]) rfl ?_; refine Zd rfl rfl rfl rfl ?_; refine X_fn rfl rfl F.ok5 rfl (rOf_ok _ ⟨l_a, l_c, l_l⟩ (k_l.mono hm1)) rfl ?_
          rintro _ M2 hm2 ⟨⟨a2, c2, l2⟩, e2, rfl, k2, h2⟩
          obtain ⟨h3, h4, h5⟩ := of_same h1 h2
          try simp only at h3 h5
          subst h3 h4
          refine Zd rfl rfl rfl rfl ?_; refine Zap rfl rfl rfl rfl rfl ?_; refine Zap rfl rfl rfl rfl rfl ?_; refine Zc rfl rfl rfl rfl ?_; refine Zc rfl rfl rfl rfl ?_; refine Zg ?_; refine Ze ?_; refine Zl (.cons (k := 8) rfl (.cons (k := 7) rfl (.cons (k := 6) rfl (.cons (k := 5) rfl (.cons (k := 4) rfl (.cons (k := 1) rfl .nil)))))) ?_; refine Zk ?_; refine Za (l := [0, 1, 2, 3, 4, 5, 6, 7, 8, 9, 10, 11, 12, 13, 14, 15, 16, 17, 18, 19, 20, 21, 22, 23, 24, 25, 26]) rfl ?_; refine X_fn rfl rfl F.ok6 rfl (rounded_ok _ (Mem.le.loose (by first | exact Mem.le.refl _ | assumption | (repeat first | assumption | refine Mem.le.trans (by assumption) ?_)) hM)) rfl ?_
          rintro _ M9 hm9 rfl
          refine Zd rfl rfl rfl rfl ?_
          refine Zbb 28 rfl (fun hc3 => ?_) (fun hc3 => ?_)
          · first | replace hc3 := dT hc3 | replace hc3 := dF hc3 | replace hc3 := nT hc3 | replace hc3 := nF hc3 | skip
            try simp only [PeerV.eta] at hc3
            first
            | (exfalso; omega)
            | (exfalso; simp [eqX] at hc3; done)
            | contradiction
            | skip
              refine Zd rfl rfl rfl rfl ?_; refine Zd rfl rfl rfl rfl ?_; refine X_fs rfl rfl F.ok7 rfl (SameP_ok _ ⟨a1, c1, l1⟩ ⟨a2, c2, l1⟩ (k1.mono (by first | exact Mem.le.refl _ | assumption | (repeat first | assumption | refine Mem.le.trans (by assumption) ?_))) (k2.mono (by first | exact Mem.le.refl _ | assumption | (repeat first | assumption | refine Mem.le.trans (by assumption) ?_)))) rfl ?_
              rintro _ hv
              rw [decide_eq_true rfl] at hv
              subst hv
              refine Zx rfl rfl rfl rfl rfl ?_; refine Zd rfl rfl rfl rfl ?_
              refine Zbb 33 rfl (fun hc4 => ?_) (fun hc4 => ?_)
              · first | replace hc4 := dT hc4 | replace hc4 := dF hc4 | replace hc4 := nT hc4 | replace hc4 := nF hc4 | skip
                try simp only [PeerV.eta] at hc4
                first
                | (exfalso; omega)
                | (exfalso; simp [eqX] at hc4; done)
                | contradiction
                | skip
                  refine Zd rfl rfl rfl rfl ?_; refine Zd rfl rfl rfl rfl ?_; refine Zaq rfl rfl rfl rfl rfl rfl ?_; refine Zx rfl rfl rfl rfl rfl ?_; refine Zd rfl rfl rfl rfl ?_
                  refine Zbb 38 rfl (fun hc5 => ?_) (fun hc5 => ?_)
                  · first | replace hc5 := dT hc5 | replace hc5 := dF hc5 | replace hc5 := nT hc5 | replace hc5 := nF hc5 | skip
                    try simp only [PeerV.eta] at hc5
                    first
                    | (exfalso; omega)
                    | (exfalso; simp [eqX] at hc5; done)
                    | contradiction
                    | skip
                      refine Zd rfl rfl rfl rfl ?_; refine X_fs rfl rfl F.ok8 rfl (Circ_ok _ ⟨x_a, x_c, x_l⟩ (k_x.mono (by first | exact Mem.le.refl _ | assumption | (repeat first | assumption | refine Mem.le.trans (by assumption) ?_)))) rfl ?_
                      rintro _ rfl
                      refine Zd rfl rfl rfl rfl ?_; refine X_fs rfl rfl F.ok9 rfl (rCirc_ok _ ⟨x_a, x_c, x_l⟩ (k_x.mono (by first | exact Mem.le.refl _ | assumption | (repeat first | assumption | refine Mem.le.trans (by assumption) ?_)))) rfl ?_
                      rintro _ rfl
                      refine X_eqb rfl rfl rfl rfl rfl Tryd.underlying4 rfl ?_; refine Zx rfl rfl rfl rfl rfl ?_; refine Zd rfl rfl rfl rfl ?_
                      refine Zbb 45 rfl (fun hc6 => ?_) (fun hc6 => ?_)
                      · first | replace hc6 := dT hc6 | replace hc6 := dF hc6 | replace hc6 := nT hc6 | replace hc6 := nF hc6 | skip
                        try simp only [PeerV.eta] at hc6
                        first
                        | (exfalso; omega)
                        | (exfalso; simp [eqX] at hc6; done)
                        | contradiction
                        | skip
                          refine Zd rfl rfl rfl rfl ?_; refine Zaq rfl rfl rfl rfl rfl rfl ?_; refine Zd rfl rfl rfl rfl ?_
                          refine Zbb 48 rfl (fun hc7 => ?_) (fun hc7 => ?_)
                          · first | replace hc7 := dT hc7 | replace hc7 := dF hc7 | replace hc7 := nT hc7 | replace hc7 := nF hc7 | skip
                            try simp only [PeerV.eta] at hc7
                            first
                            | (exfalso; omega)
                            | (exfalso; simp [eqX] at hc7; done)
                            | contradiction
                            | skip
                              refine Zj rfl rfl rfl ?_; refine Zj rfl rfl rfl ?_; refine Zx rfl rfl rfl rfl rfl ?_; refine Zx rfl rfl rfl rfl rfl ?_; refine Zc rfl rfl rfl rfl ?_; refine Zg ?_; refine Ze ?_; refine Zl (.cons (k := 4) rfl .nil) ?_; refine Zam ?_
                              refine Zal (.inr rfl) (.tmp rfl .nil) (fun w hw => ?_)
                              refine ⟨_, _, rfl, (by first | exact Mem.le.refl _ | assumption | (repeat first | assumption | refine Mem.le.trans (by assumption) ?_)), hw.cnt (by intro zz; first | exact Nat.le_refl _ | (simp only [Zh, Zf, Zi, cat, List.append_eq, List.append_assoc, List.cons_append, List.nil_append, List.append_nil]; omega) | (simp only [Zh, Zf, Zi, cat, List.append_eq, List.append_assoc, List.cons_append, List.nil_append, List.append_nil, PeerV.segs]; omega)), ?_⟩
                              clear hw
                              first | rfl | exact congrArg Value.bool (decide_eq_true (by omega)) | (simp; done) | (simp; rfl) | (simp_all; done)
                          · first | replace hc7 := dT hc7 | replace hc7 := dF hc7 | replace hc7 := nT hc7 | replace hc7 := nF hc7 | skip
                            try simp only [PeerV.eta] at hc7
                            first
                            | (exfalso; omega)
                            | (exfalso; simp [eqX] at hc7; done)
                            | contradiction
                            | skip
                              refine Zd rfl rfl rfl rfl ?_; refine X_fs rfl rfl F.ok8 rfl (Circ_ok _ ⟨a1, c1, l1⟩ (k1.mono (by first | exact Mem.le.refl _ | assumption | (repeat first | assumption | refine Mem.le.trans (by assumption) ?_)))) rfl ?_
                              rintro _ hv
                              rw [decide_eq_true (h5 (by omega))] at hv
                              subst hv
                              refine Zx rfl rfl rfl rfl rfl ?_; refine Zx rfl rfl rfl rfl rfl ?_; refine Zc rfl rfl rfl rfl ?_; refine Zg ?_; refine Ze ?_; refine Zl (.cons (k := 4) rfl .nil) ?_; refine Zam ?_
                              refine Zal (.inr rfl) (.tmp rfl .nil) (fun w hw => ?_)
                              refine ⟨_, _, rfl, (by first | exact Mem.le.refl _ | assumption | (repeat first | assumption | refine Mem.le.trans (by assumption) ?_)), hw.cnt (by intro zz; first | exact Nat.le_refl _ | (simp only [Zh, Zf, Zi, cat, List.append_eq, List.append_assoc, List.cons_append, List.nil_append, List.append_nil]; omega) | (simp only [Zh, Zf, Zi, cat, List.append_eq, List.append_assoc, List.cons_append, List.nil_append, List.append_nil, PeerV.segs]; omega)), ?_⟩
                              clear hw
                              first | rfl | exact congrArg Value.bool (decide_eq_true (by omega)) | (simp; done) | (simp; rfl) | (simp_all; done)
                      · first | replace hc6 := dT hc6 | replace hc6 := dF hc6 | replace hc6 := nT hc6 | replace hc6 := nF hc6 | skip
                        try simp only [PeerV.eta] at hc6
                        first
                        | (exfalso; omega)
                        | (exfalso; simp [eqX] at hc6; done)
                        | contradiction
                        | skip
                          refine Zj rfl rfl rfl ?_; refine Zj rfl rfl rfl ?_; refine Zj rfl rfl rfl ?_; refine Zj rfl rfl rfl ?_; refine Zj rfl rfl rfl ?_; refine Zj rfl rfl rfl ?_; refine Zx rfl rfl rfl rfl rfl ?_; refine Zc rfl rfl rfl rfl ?_; refine Zg ?_; refine Ze ?_; refine Zl (.cons (k := 4) rfl .nil) ?_; refine Zam ?_
                          refine Zal (.inr rfl) (.tmp rfl .nil) (fun w hw => ?_)
                          refine ⟨_, _, rfl, (by first | exact Mem.le.refl _ | assumption | (repeat first | assumption | refine Mem.le.trans (by assumption) ?_)), hw.cnt (by intro zz; first | exact Nat.le_refl _ | (simp only [Zh, Zf, Zi, cat, List.append_eq, List.append_assoc, List.cons_append, List.nil_append, List.append_nil]; omega) | (simp only [Zh, Zf, Zi, cat, List.append_eq, List.append_assoc, List.cons_append, List.nil_append, List.append_nil, PeerV.segs]; omega)), ?_⟩
                          clear hw
                          first | rfl | exact congrArg Value.bool (decide_eq_true (by omega)) | (simp; done) | (simp; rfl) | (simp_all; done)
                  · first | replace hc5 := dT hc5 | replace hc5 := dF hc5 | replace hc5 := nT hc5 | replace hc5 := nF hc5 | skip
                    try simp only [PeerV.eta] at hc5
                    first
                    | (exfalso; omega)
                    | (exfalso; simp [eqX] at hc5; done)
                    | contradiction
                    | skip
                      refine Zj rfl rfl rfl ?_; refine Zj rfl rfl rfl ?_; refine Zj rfl rfl rfl ?_; refine Zj rfl rfl rfl ?_; refine Zj rfl rfl rfl ?_; refine Zx rfl rfl rfl rfl rfl ?_; refine Zd rfl rfl rfl rfl ?_; refine Zj rfl rfl rfl ?_; refine Zj rfl rfl rfl ?_; refine Zj rfl rfl rfl ?_; refine Zj rfl rfl rfl ?_; refine Zj rfl rfl rfl ?_; refine Zj rfl rfl rfl ?_; refine Zx rfl rfl rfl rfl rfl ?_; refine Zc rfl rfl rfl rfl ?_; refine Zg ?_; refine Ze ?_; refine Zl (.cons (k := 4) rfl .nil) ?_; refine Zam ?_
                      refine Zal (.inr rfl) (.tmp rfl .nil) (fun w hw => ?_)
                      refine ⟨_, _, rfl, (by first | exact Mem.le.refl _ | assumption | (repeat first | assumption | refine Mem.le.trans (by assumption) ?_)), hw.cnt (by intro zz; first | exact Nat.le_refl _ | (simp only [Zh, Zf, Zi, cat, List.append_eq, List.append_assoc, List.cons_append, List.nil_append, List.append_nil]; omega) | (simp only [Zh, Zf, Zi, cat, List.append_eq, List.append_assoc, List.cons_append, List.nil_append, List.append_nil, PeerV.segs]; omega)), ?_⟩
                      clear hw
                      first | rfl | exact congrArg Value.bool (decide_eq_true (by omega)) | (simp; done) | (simp; rfl) | (simp_all; done)
              · first | replace hc4 := dT hc4 | replace hc4 := dF hc4 | replace hc4 := nT hc4 | replace hc4 := nF hc4 | skip
                try simp only [PeerV.eta] at hc4
                first
                | (exfalso; omega)
                | (exfalso; simp [eqX] at hc4; done)
                | contradiction
                | skip
                  refine Zj rfl rfl rfl ?_; refine Zj rfl rfl rfl ?_; refine Zj rfl rfl rfl ?_; refine Zx rfl rfl rfl rfl rfl ?_; refine Zd rfl rfl rfl rfl ?_; refine Zj rfl rfl rfl ?_; refine Zj rfl rfl rfl ?_; refine Zj rfl rfl rfl ?_; refine Zj rfl rfl rfl ?_; refine Zj rfl rfl rfl ?_; refine Zx rfl rfl rfl rfl rfl ?_; refine Zd rfl rfl rfl rfl ?_; refine Zj rfl rfl rfl ?_; refine Zj rfl rfl rfl ?_; refine Zj rfl rfl rfl ?_; refine Zj rfl rfl rfl ?_; refine Zj rfl rfl rfl ?_; refine Zj rfl rfl rfl ?_; refine Zx rfl rfl rfl rfl rfl ?_; refine Zc rfl rfl rfl rfl ?_; refine Zg ?_; refine Ze ?_; refine Zl (.cons (k := 4) rfl .nil) ?_; refine Zam ?_
                  refine Zal (.inr rfl) (.tmp rfl .nil) (fun w hw => ?_)
                  refine ⟨_, _, rfl, (by first | exact Mem.le.refl _ | assumption | (repeat first | assumption | refine Mem.le.trans (by assumption) ?_)), hw.cnt (by intro zz; first | exact Nat.le_refl _ | (simp only [Zh, Zf, Zi, cat, List.append_eq, List.append_assoc, List.cons_append, List.nil_append, List.append_nil]; omega) | (simp only [Zh, Zf, Zi, cat, List.append_eq, List.append_assoc, List.cons_append, List.nil_append, List.append_nil, PeerV.segs]; omega)), ?_⟩
                  clear hw
                  first | rfl | exact congrArg Value.bool (decide_eq_true (by omega)) | (simp; done) | (simp; rfl) | (simp_all; done)
          · first | replace hc3 := dT hc3 | replace hc3 := dF hc3 | replace hc3 := nT hc3 | replace hc3 := nF hc3 | skip
            try simp only [PeerV.eta] at hc3
            first
            | (exfalso; omega)
            | (exfalso; simp [eqX] at hc3; done)
            | contradiction
            | skip
              refine Zj rfl rfl rfl ?_; refine Zj rfl rfl rfl ?_; refine Zj rfl rfl rfl ?_; refine Zx rfl rfl rfl rfl rfl ?_; refine Zd rfl rfl rfl rfl ?_; refine Zj rfl rfl rfl ?_; refine Zj rfl rfl rfl ?_; refine Zj rfl rfl rfl ?_; refine Zx rfl rfl rfl rfl rfl ?_; refine Zd rfl rfl rfl rfl ?_; refine Zj rfl rfl rfl ?_; refine Zj rfl rfl rfl ?_; refine Zj rfl rfl rfl ?_; refine Zj rfl rfl rfl ?_; refine Zj rfl rfl rfl ?_; refine Zx rfl rfl rfl rfl rfl ?_; refine Zd rfl rfl rfl rfl ?_; refine Zj rfl rfl rfl ?_; refine Zj rfl rfl rfl ?_; refine Zj rfl rfl rfl ?_; refine Zj rfl rfl rfl ?_; refine Zj rfl rfl rfl ?_; refine Zj rfl rfl rfl ?_; refine Zx rfl rfl rfl rfl rfl ?_; refine Zc rfl rfl rfl rfl ?_; refine Zg ?_; refine Ze ?_; refine Zl (.cons (k := 4) rfl .nil) ?_; refine Zam ?_
              refine Zal (.inr rfl) (.tmp rfl .nil) (fun w hw => ?_)
              refine ⟨_, _, rfl, (by first | exact Mem.le.refl _ | assumption | (repeat first | assumption | refine Mem.le.trans (by assumption) ?_)), hw.cnt (by intro zz; first | exact Nat.le_refl _ | (simp only [Zh, Zf, Zi, cat, List.append_eq, List.append_assoc, List.cons_append, List.nil_append, List.append_nil]; omega) | (simp only [Zh, Zf, Zi, cat, List.append_eq, List.append_assoc, List.cons_append, List.nil_append, List.append_nil, PeerV.segs]; omega)), ?_⟩
              clear hw
              first | rfl | exact congrArg Value.bool (decide_eq_true (by omega)) | (simp; done) | (simp; rfl) | (simp_all; done)
end Go.Proofs.YtpfdblknaihidaaDoor
