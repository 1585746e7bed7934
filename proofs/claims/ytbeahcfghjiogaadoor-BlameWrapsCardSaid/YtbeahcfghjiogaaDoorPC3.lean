/-
  Texts of this claim, one behind the other: B6, B7, B8, B9, Rules16, B10, B11, B12, B13, Seat, ItoaLM, ItoaX, B14.
-/
import Derived.Test.YtbeahcfghjiogaaDoorPC2
import Derived.LaidHandle
import Derived.LaidLaws
import Derived.ChangeVars
import Derived.Stop.Joined
import Derived.Shelf.Strconv.Itoa3
import Derived.Ground.NamesProg
import Derived.Test.YtbeahcfghjiogaaDoorRows
import Derived.Lib.Itoa
set_option linter.unusedSimpArgs false
set_option linter.unusedVariables false
set_option linter.unnecessarySimpa false
set_option maxRecDepth 8000
set_option maxHeartbeats 1000000
namespace Go.Proofs.YtbeahcfghjiogaaDoor
open Go.Esp
theorem F.bld32 : Bld Tryd.prog 32 [[.one (.int .i64 0)], [.one (.int .i64 0)], [.one (.string ⟨#[]⟩)], [.one (.slice none 0 0)]] := ⟨by kernel_rfl, by kernel_rfl⟩
theorem F.elem26 : slOf Tryd.prog 26 = some (32, 4, 56) := by kernel_rfl
theorem F.foff32_0 : foff Tryd.prog 32 0 = some 0 := by kernel_rfl
theorem F.lay3 : lay Tryd.prog 3 = some (false, 1) := by kernel_rfl
theorem F.lay32 : lay Tryd.prog 32 = some (true, 4) := by kernel_rfl
theorem F.zero32 : zeroOf Tryd.prog 32 = some (aggV [.one (.int .i64 0), .one (.int .i64 0), .one (.string ⟨#[]⟩), .one (.slice none 0 0)]) := by kernel_rfl
theorem rNew_ok (M : Mem) (c : Int) : Fs Tryd.prog 25 [.int .i64 c] M (fun v => v = aggV (newT c).segs) := by
  refine Zbb Tryd.func25 rfl Tryd.ntmps25 rfl ?_; intro H
  refine Zj ?_; refine Za (l := [0]) rfl ?_
  refine Zbw rfl rfl F.zero32 (by constructor) rfl ?_; intro b1
  refine Zf ?_; refine Zb ?_; refine Zj ?_; refine Zj ?_; refine Za (l := [0, 1]) rfl ?_; refine Zc rfl rfl rfl rfl ?_; refine Zao rfl rfl rfl rfl rfl rfl ?_; refine Zf ?_; refine Zb ?_; refine Zk (.cons (k := 4) rfl (.cons (k := 2) rfl (.cons (k := 0) rfl .nil))) ?_
  refine Zx rfl (fun hc2 => ?_) (fun hc2 => ?_)
  · first | replace hc2 := dT hc2 | replace hc2 := dF hc2 | replace hc2 := nT hc2 | replace hc2 := nF hc2 | skip
    first
    | (exfalso; omega)
    | (exfalso; simp [eqX] at hc2; done)
    | contradiction
    | skip
      refine Zj ?_; refine Za (l := [0, 1]) rfl ?_; refine Zbn rfl rfl F.bld32 (.nil) rfl rfl ?_; refine Zbv rfl rfl rfl rfl (by constructor) (by first | ((try simp only [cat, List.cons_append, List.nil_append, List.append_nil]); (repeat (first | exact Zap | refine Zbi ?_ | (refine Zaf ?_ ?_; rfl))); done) | exact StepL06V.flat _ | exact StepL06V.flat ⟨_, _, _, _⟩ | exact TrR.flat _ | (simp [flat, cat, Segs.cells, Seg.cells, Value.oneCell']; done)) (by repeat first | exact Upd.head | apply Upd.tail | apply Upd.over) F.lay32 rfl rfl ?_; refine Zf ?_; refine Zb ?_; refine Zk (.cons (k := 2) rfl (.cons (k := 0) rfl .nil)) ?_; refine Zag ?_; refine Zam ?_
      refine Zab (.inr rfl) (.cell rfl (by repeat first | exact List.Mem.head _ | refine List.Mem.tail _ ?_ | refine List.mem_append_right _ ?_) F.lay32 rfl rfl .nil) (fun w hw => ?_)
      refine ⟨_, rfl, hw.cnt (by intro zz; first | exact Nat.le_refl _ | (simp only [Zh, Zd, Zi, cat, List.append_eq, List.append_assoc, List.cons_append, List.nil_append, List.append_nil]; omega) | (simp only [Zh, Zd, Zi, cat, List.append_eq, List.append_assoc, List.cons_append, List.nil_append, List.append_nil, StepL06V.segs]; omega)), ?_⟩
      unfold newT
      first | rw [if_pos (by omega)]; rfl | rw [if_neg (by omega)]; rfl
  · first | replace hc2 := dT hc2 | replace hc2 := dF hc2 | replace hc2 := nT hc2 | replace hc2 := nF hc2 | skip
    first
    | (exfalso; omega)
    | (exfalso; simp [eqX] at hc2; done)
    | contradiction
    | skip
      refine Zu ?_; refine Zb ?_; refine Zk (.cons (k := 2) rfl (.cons (k := 0) rfl .nil)) ?_; refine Zj ?_; refine Za (l := [0, 1, 2]) rfl ?_; refine Zc rfl rfl rfl rfl ?_; refine Zbn rfl rfl F.bld32 (.cons rfl (by constructor) (.cons rfl (by constructor) .nil)) rfl rfl ?_; refine Zbv rfl rfl rfl rfl (by constructor) (by first | ((try simp only [cat, List.cons_append, List.nil_append, List.append_nil]); (repeat (first | exact Zap | refine Zbi ?_ | (refine Zaf ?_ ?_; rfl))); done) | exact StepL06V.flat _ | exact StepL06V.flat ⟨_, _, _, _⟩ | exact TrR.flat _ | (simp [flat, cat, Segs.cells, Seg.cells, Value.oneCell']; done)) (by repeat first | exact Upd.head | apply Upd.tail | apply Upd.over) F.lay32 rfl rfl ?_; refine Zf ?_; refine Zb ?_; refine Zk (.cons (k := 2) rfl .nil) ?_; refine Zag ?_
      refine Zab (.inr rfl) (.cell rfl (by repeat first | exact List.Mem.head _ | refine List.Mem.tail _ ?_ | refine List.mem_append_right _ ?_) F.lay32 rfl rfl .nil) (fun w hw => ?_)
      refine ⟨_, rfl, hw.cnt (by intro zz; first | exact Nat.le_refl _ | (simp only [Zh, Zd, Zi, cat, List.append_eq, List.append_assoc, List.cons_append, List.nil_append, List.append_nil]; omega) | (simp only [Zh, Zd, Zi, cat, List.append_eq, List.append_assoc, List.cons_append, List.nil_append, List.append_nil, StepL06V.segs]; omega)), ?_⟩
      unfold newT
      first | rw [if_pos (by omega)]; rfl | rw [if_neg (by omega)]; rfl
theorem rWrap_ok (M : Mem) (op : ByteArray) (o : Option Err) (t : TrR) (ht : TO M o t) : Esp.Fn Tryd.prog 26 [.string op, aggV t.segs] M (fun M' v => ∃ t', v = aggV (TrR.segs t') ∧ TO M' (wrapO op o) t') := by
  have hk := ht.kind
  obtain ⟨tk, tc, tp, ta, tn, tq⟩ := t
  simp only at hk
  refine fn_enter Tryd.func26 rfl Tryd.ntmps26 rfl ?_; intro H
  refine Zj ?_; refine Za (l := [0, 1]) rfl ?_
  refine X_box rfl rfl rfl (by constructor) rfl ?_; intro b1
  refine Zbw rfl rfl F.zero32 (by constructor) rfl ?_; intro b2
  refine Zf ?_; refine Zb ?_; refine Zk (.cons (k := 4) rfl (.cons (k := 3) rfl (.cons (k := 0) rfl .nil))) ?_; refine Zj ?_; refine Zj ?_; refine Za (l := [0, 1, 2]) rfl ?_
  first | refine Zad rfl rfl rfl F.foff32_0 rfl ?_ | refine Zv rfl rfl rfl (by first | exact ⟨_, _, rfl⟩ | assumption | exact SlM.plain (by assumption) (by first | (simp; done) | (simp; omega)) | exact RdS.plain (by assumption) (by first | (simp; done) | (simp; omega)) | exact OSl.plain (by assumption) (by first | (simp; done) | (simp; omega))) F.foff32_0 rfl ?_
  first | refine Zan rfl rfl rfl (by repeat first | exact List.Mem.head _ | refine List.Mem.tail _ ?_ | refine List.mem_append_right _ ?_) F.lay3 rfl rfl rfl ?_ | refine Zs rfl rfl rfl (by first | assumption | exact SlM.mono (by assumption) (by assumption)) (by first | exact Zg (by omega) | exact List.getElem?_eq_getElem (by omega) | exact rfl | exact Zg (by first | (simp; done) | (simp; omega))) F.lay3 rfl rfl rfl ?_ | refine Zr rfl rfl rfl (by assumption) (by first | exact Zg (by omega) | exact List.getElem?_eq_getElem (by omega) | exact rfl | exact Zg (by first | (simp; done) | (simp; omega))) F.lay3 rfl rfl rfl ?_ | refine Zp rfl rfl rfl (by first | assumption | exact Mem.get_of (by assumption) (by repeat first | assumption | refine Mem.le.trans (by assumption) ?_)) F.lay3 rfl rfl rfl ?_ | refine Zo rfl rfl rfl (by assumption) (by repeat first | exact Rem.here _ | exact Rem.two | apply Rem.skip | apply Rem.over) (by first | exact Zg (by omega) | exact List.getElem?_eq_getElem (by omega) | exact rfl | exact Zg (by first | (simp; done) | (simp; omega))) F.lay3 rfl rfl rfl ?_ | refine Zq rfl rfl rfl (by repeat first | exact List.Mem.head _ | refine List.Mem.tail _ ?_ | refine List.mem_append_right _ ?_) F.lay3 (by first | exact Zbj (by first | omega | decide) | exact Zax (by first | omega | decide)) rfl ?_
  refine Zao rfl rfl rfl rfl rfl rfl ?_; refine Zf ?_; refine Zb ?_; refine Zk (.cons (k := 7) rfl (.cons (k := 4) rfl (.cons (k := 3) rfl (.cons (k := 0) rfl .nil)))) ?_
  refine Zx rfl (fun hc3 => ?_) (fun hc3 => ?_)
  · first | replace hc3 := dT hc3 | replace hc3 := dF hc3 | replace hc3 := nT hc3 | replace hc3 := nF hc3 | skip
    first
    | (exfalso; omega)
    | (exfalso; simp [eqX] at hc3; done)
    | contradiction
    | skip
      refine Zj ?_; refine Za (l := [0, 1]) rfl ?_; refine Zbn rfl rfl F.bld32 (.nil) rfl rfl ?_; refine Zbv rfl rfl rfl rfl (by constructor) (by first | ((try simp only [cat, List.cons_append, List.nil_append, List.append_nil]); (repeat (first | exact Zap | refine Zbi ?_ | (refine Zaf ?_ ?_; rfl))); done) | exact StepL06V.flat _ | exact StepL06V.flat ⟨_, _, _, _⟩ | exact TrR.flat _ | (simp [flat, cat, Segs.cells, Seg.cells, Value.oneCell']; done)) (by repeat first | exact Upd.head | apply Upd.tail | apply Upd.over) F.lay32 rfl rfl ?_; refine Zf ?_; refine Zb ?_; refine Zk (.cons (k := 4) rfl (.cons (k := 3) rfl (.cons (k := 0) rfl .nil))) ?_; refine Zag ?_; refine Zam ?_
      refine Zab (.inr rfl) (.cell rfl (by repeat first | exact List.Mem.head _ | refine List.Mem.tail _ ?_ | refine List.mem_append_right _ ?_) F.lay32 rfl rfl .nil) (fun w hw => ?_)
      exact ⟨_, M, rfl, Mem.le.refl M, hw.cnt (by intro zz; first | exact Nat.le_refl _ | (simp only [Zh, Zd, Zi, cat, List.append_eq, List.append_assoc, List.cons_append, List.nil_append, List.append_nil]; omega) | (simp only [Zh, Zd, Zi, cat, List.append_eq, List.append_assoc, List.cons_append, List.nil_append, List.append_nil, StepL06V.segs]; omega)), zT, rfl, (by obtain rfl := hk.1 (by assumption); exact rfl)⟩
  · first | replace hc3 := dT hc3 | replace hc3 := dF hc3 | replace hc3 := nT hc3 | replace hc3 := nF hc3 | skip
    first
    | (exfalso; omega)
    | (exfalso; simp [eqX] at hc3; done)
    | contradiction
    | skip
      refine Zu ?_; refine Zb ?_; refine Zk (.cons (k := 4) rfl (.cons (k := 3) rfl (.cons (k := 0) rfl .nil))) ?_; refine Zj ?_; refine Za (l := [0, 1, 2, 3, 4]) rfl ?_; refine Zc rfl rfl rfl rfl ?_
      first | refine Zan rfl rfl rfl (by repeat first | exact List.Mem.head _ | refine List.Mem.tail _ ?_ | refine List.mem_append_right _ ?_) F.lay32 rfl rfl rfl ?_ | refine Zs rfl rfl rfl (by first | assumption | exact SlM.mono (by assumption) (by assumption)) (by first | exact Zg (by omega) | exact List.getElem?_eq_getElem (by omega) | exact rfl | exact Zg (by first | (simp; done) | (simp; omega))) F.lay32 rfl rfl rfl ?_ | refine Zr rfl rfl rfl (by assumption) (by first | exact Zg (by omega) | exact List.getElem?_eq_getElem (by omega) | exact rfl | exact Zg (by first | (simp; done) | (simp; omega))) F.lay32 rfl rfl rfl ?_ | refine Zp rfl rfl rfl (by first | assumption | exact Mem.get_of (by assumption) (by repeat first | assumption | refine Mem.le.trans (by assumption) ?_)) F.lay32 rfl rfl rfl ?_ | refine Zo rfl rfl rfl (by assumption) (by repeat first | exact Rem.here _ | exact Rem.two | apply Rem.skip | apply Rem.over) (by first | exact Zg (by omega) | exact List.getElem?_eq_getElem (by omega) | exact rfl | exact Zg (by first | (simp; done) | (simp; omega))) F.lay32 rfl rfl rfl ?_
      refine Zal rfl rfl F.elem26 F.zero32 rfl rfl (.cons rfl (by constructor) .nil) rfl rfl (by simp only [List.map_cons, List.map_nil] <;> rfl) rfl ?_; intro b4 hob5
      refine Zbn rfl rfl F.bld32 (.cons rfl (by constructor) (.cons rfl (by constructor) (.cons rfl (by constructor) .nil))) rfl rfl ?_; refine Zbv rfl rfl rfl rfl (by constructor) (by first | ((try simp only [cat, List.cons_append, List.nil_append, List.append_nil]); (repeat (first | exact Zap | refine Zbi ?_ | (refine Zaf ?_ ?_; rfl))); done) | exact StepL06V.flat _ | exact StepL06V.flat ⟨_, _, _, _⟩ | exact TrR.flat _ | (simp [flat, cat, Segs.cells, Seg.cells, Value.oneCell']; done)) (by repeat first | exact Upd.head | apply Upd.tail | apply Upd.over) F.lay32 rfl rfl ?_; refine Zf ?_; refine Zb ?_; refine Zk (.cons (k := 4) rfl .nil) ?_; refine Zag ?_
      refine Zab (.inr rfl) (.cell rfl (by repeat first | exact List.Mem.head _ | refine List.Mem.tail _ ?_ | refine List.mem_append_right _ ?_) F.lay32 rfl rfl .nil) (fun w hw => ?_)
      obtain ⟨M9, g1, g2, g3⟩ := OSl.frz (f := TrR.segs) (l := [⟨tk, tc, tp, ta, tn, tq⟩]) hob5 (hw.cnt (H' := _ ++ H) (by intro zz; first | exact Nat.le_refl _ | (simp only [Zh, Zd, Zi, cat, List.append_eq, List.append_assoc, List.cons_append, List.nil_append, List.append_nil]; omega) | (simp only [Zh, Zd, Zi, cat, List.append_eq, List.append_assoc, List.cons_append, List.nil_append, List.append_nil, StepL06V.segs]; omega)))
      refine ⟨_, M9, rfl, g1, g2, ⟨2, 0, op, _, 1, 1⟩, rfl, ?_⟩
      cases o with
      | none => exact ((by assumption : ¬ tk = 0) (hk.2 rfl)).elim
      | some e => exact ⟨_, _, rfl, g3.h1, TrE.mono g1 e ht⟩
theorem rJoin_ok (M : Mem) (s : Sl TrR) (es : List (Option Err)) (hs : SlK M TrR.segs 4 s) (he : TOL M es s.l) (hz : s.l.length ≤ 1000) : Esp.Fn Tryd.prog 27 [s.val] M (fun M' v => ∃ t', v = aggV (TrR.segs t') ∧ TO M' (joinO es) t') := by
  refine fn_enter Tryd.func27 rfl Tryd.ntmps27 rfl ?_; intro H
  obtain ⟨s_a, s_c, s_l⟩ := s
  have s_s : SlM M s_a (s_l.map TrR.segs) 4 := hs.h1
  have n_s : (s_l.map TrR.segs).length = s_l.length := List.length_map ..
  have m_s : s_l.length ≤ 9223372036854775807 := hs.h2
  have hle : s_l.length = es.length := he.len
  replace hz : s_l.length ≤ 1000 := hz
  refine Zj ?_; refine Za (l := [0]) rfl ?_
  refine Zbw rfl rfl F.zero32 (by constructor) rfl ?_; intro b1
  refine Zf ?_; refine Zb ?_; refine Zj ?_; refine Za (l := [0]) rfl ?_; refine Ze rfl rfl rfl rfl ?_; refine Zf ?_; refine Zb ?_; refine Zj ?_; refine Zj ?_; refine Za (l := [0]) rfl ?_; refine Ze rfl rfl rfl rfl ?_; refine Zf ?_; refine Zb ?_; refine Zaa ?_; refine Zk (.cons (k := 4) rfl (.cons (k := 3) rfl (.cons (k := 2) rfl (.cons (k := 0) rfl .nil)))) ?_; refine C_loopO (Hin := []) (.succ (.succ .zero)) (by repeat first | exact Rem.here _ | exact Rem.two | apply Rem.skip | apply Rem.over) (fun (k : Nat) M1 h1 z => ∃ v1 us, M1 = M ∧ z = [(4, .int .i64 (k : Int)), (3, v1)] ∧ k ≤ s_l.length ∧ OSl 32 4 v1 h1 (us.map TrR.segs) ∧ TrL M (somes (es.take k)) us) (fun k => s_l.length - k) (0) (⟨_, [], rfl, rfl, by omega, OSl.nil, rfl⟩) ?_
  rintro k M1 h1 z hm1 ⟨v1, us, hM1, rfl, hk, ho, hu⟩
  obtain rfl := hM1.symm
  obtain ⟨ad1, cp1, rfl⟩ := ho.valL
  have hlu := hu.len
  have hsl := somes_len (es.take k)
  have htk : (es.take k).length ≤ k := by rw [List.length_take]; omega
  have h3 : k = s_l.length ∨ ∃ hk2 : k < s_l.length, ∃ hke : k < es.length, (s_l[k].kind = 0 ∧ somes (es.take (k + 1)) = somes (es.take k)) ∨ (∃ e1, s_l[k].kind ≠ 0 ∧ TrE M e1 s_l[k] ∧ somes (es.take (k + 1)) = somes (es.take k) ++ [e1]) := by
    rcases Nat.lt_or_ge k s_l.length with hk2 | hk2
    · have hke : k < es.length := by omega
      refine .inr ⟨hk2, hke, ?_⟩
      have hw9 := he.at_ k hke hk2
      have hst := somes_take hke
      have hkd := hw9.kind
      cases hek : es[k] with
      | none => rw [hek] at hw9 hst hkd; exact .inl ⟨hkd.2 rfl, by rw [hst]; simp [somes]⟩
      | some e1 =>
        rw [hek] at hw9 hst hkd
        exact .inr ⟨e1, TrE.kind hw9, hw9, by rw [hst]; rfl⟩
    · exact .inl (by omega)
  rcases h3 with hkk | ⟨hk2, hke, ⟨hkd, hst⟩ | ⟨e1, hkd, hev, hst⟩⟩
  · skip
    refine Zj ?_; refine Zj ?_; refine Za (l := [0, 1, 2, 3]) rfl ?_; refine Zc rfl rfl rfl rfl ?_; refine Zc rfl rfl rfl rfl ?_; refine Zas rfl rfl rfl rfl F.elem26 rfl ?_; refine Zao rfl rfl rfl rfl rfl rfl ?_; refine Zf ?_; refine Zb ?_
    refine Zx rfl (fun hc2 => ?_) (fun hc2 => ?_)
    · first | replace hc2 := dT hc2 | replace hc2 := dF hc2 | replace hc2 := nT hc2 | replace hc2 := nF hc2 | skip
      first
      | (exfalso; omega)
      | (exfalso; simp [eqX] at hc2; done)
      | contradiction
      | skip
        refine Zu ?_; refine Zb ?_; refine Zj ?_; refine Zaa ?_; refine Zj ?_; refine Za (l := [0, 1, 2, 3, 4, 5]) rfl ?_; refine Zc rfl rfl rfl rfl ?_; refine Zc rfl rfl rfl rfl ?_; refine Zn rfl rfl rfl rfl F.elem26 (by first | rfl | exact (Int.toNat_of_nonneg (by omega)).symm) (by first | omega | (simp; done) | (simp; omega)) (by first | exact ⟨_, _, rfl⟩ | assumption | exact SlM.plain (by assumption) (by first | (simp; done) | (simp; omega)) | exact RdS.plain (by assumption) (by first | (simp; done) | (simp; omega)) | exact OSl.plain (by assumption) (by first | (simp; done) | (simp; omega))) rfl ?_
        first | refine Zad rfl rfl rfl F.foff32_0 rfl ?_ | refine Zv rfl rfl rfl (by first | exact ⟨_, _, rfl⟩ | assumption | exact SlM.plain (by assumption) (by first | (simp; done) | (simp; omega)) | exact RdS.plain (by assumption) (by first | (simp; done) | (simp; omega)) | exact OSl.plain (by assumption) (by first | (simp; done) | (simp; omega))) F.foff32_0 rfl ?_
        first | refine Zan rfl rfl rfl (by repeat first | exact List.Mem.head _ | refine List.Mem.tail _ ?_ | refine List.mem_append_right _ ?_) F.lay3 rfl rfl rfl ?_ | refine Zs rfl rfl rfl (by first | assumption | exact SlM.mono (by assumption) (by assumption)) (by first | exact Zg (by omega) | exact List.getElem?_eq_getElem (by omega) | exact rfl | exact Zg (by first | (simp; done) | (simp; omega))) F.lay3 rfl rfl rfl ?_ | refine Zr rfl rfl rfl (by assumption) (by first | exact Zg (by omega) | exact List.getElem?_eq_getElem (by omega) | exact rfl | exact Zg (by first | (simp; done) | (simp; omega))) F.lay3 rfl rfl rfl ?_ | refine Zp rfl rfl rfl (by first | assumption | exact Mem.get_of (by assumption) (by repeat first | assumption | refine Mem.le.trans (by assumption) ?_)) F.lay3 rfl rfl rfl ?_ | refine Zo rfl rfl rfl (by assumption) (by repeat first | exact Rem.here _ | exact Rem.two | apply Rem.skip | apply Rem.over) (by first | exact Zg (by omega) | exact List.getElem?_eq_getElem (by omega) | exact rfl | exact Zg (by first | (simp; done) | (simp; omega))) F.lay3 rfl rfl rfl ?_ | refine Zq rfl rfl rfl (by repeat first | exact List.Mem.head _ | refine List.Mem.tail _ ?_ | refine List.mem_append_right _ ?_) F.lay3 (by first | exact Zbj (by first | omega | decide) | exact Zax (by first | omega | decide)) rfl ?_
        refine Zao rfl rfl rfl rfl rfl rfl ?_; refine Zf ?_; refine Zb ?_
        refine Zx rfl (fun hc3 => ?_) (fun hc3 => ?_)
        · first | replace hc3 := dT hc3 | replace hc3 := dF hc3 | replace hc3 := nT hc3 | replace hc3 := nF hc3 | skip
          first
          | (exfalso; omega)
          | (exfalso; simp [eqX] at hc3; done)
          | contradiction
          | skip
            refine Za (l := [0, 1, 2, 3, 4, 5, 6, 7]) rfl ?_; refine Zc rfl rfl rfl rfl ?_; refine Zc rfl rfl rfl rfl ?_; refine Zc rfl rfl rfl rfl ?_; refine Zn rfl rfl rfl rfl F.elem26 (by first | rfl | exact (Int.toNat_of_nonneg (by omega)).symm) (by first | omega | (simp; done) | (simp; omega)) (by first | exact ⟨_, _, rfl⟩ | assumption | exact SlM.plain (by assumption) (by first | (simp; done) | (simp; omega)) | exact RdS.plain (by assumption) (by first | (simp; done) | (simp; omega)) | exact OSl.plain (by assumption) (by first | (simp; done) | (simp; omega))) rfl ?_
            first | refine Zan rfl rfl rfl (by repeat first | exact List.Mem.head _ | refine List.Mem.tail _ ?_ | refine List.mem_append_right _ ?_) F.lay32 rfl rfl rfl ?_ | refine Zs rfl rfl rfl (by first | assumption | exact SlM.mono (by assumption) (by assumption)) (by first | exact Zg (by omega) | exact List.getElem?_eq_getElem (by omega) | exact rfl | exact Zg (by first | (simp; done) | (simp; omega))) F.lay32 rfl rfl rfl ?_ | refine Zr rfl rfl rfl (by assumption) (by first | exact Zg (by omega) | exact List.getElem?_eq_getElem (by omega) | exact rfl | exact Zg (by first | (simp; done) | (simp; omega))) F.lay32 rfl rfl rfl ?_ | refine Zp rfl rfl rfl (by first | assumption | exact Mem.get_of (by assumption) (by repeat first | assumption | refine Mem.le.trans (by assumption) ?_)) F.lay32 rfl rfl rfl ?_ | refine Zo rfl rfl rfl (by assumption) (by repeat first | exact Rem.here _ | exact Rem.two | apply Rem.skip | apply Rem.over) (by first | exact Zg (by omega) | exact List.getElem?_eq_getElem (by omega) | exact rfl | exact Zg (by first | (simp; done) | (simp; omega))) F.lay32 rfl rfl rfl ?_
            refine Zal rfl rfl F.elem26 F.zero32 rfl rfl (.cons rfl (by constructor) .nil) rfl rfl (by simp only [List.map_cons, List.map_nil] <;> rfl) rfl ?_; intro b4 hob5
            refine Zbp (m := 1000000) rfl rfl rfl rfl rfl F.elem26 F.zero32 (by first | rfl | exact Zbm rfl) rfl (by first | assumption | exact OSl.nil) (by repeat first | exact Rem.here _ | exact Rem.two | apply Rem.skip | apply Rem.over) (Src.own hob5.lens (by first | exact StepL06V.flat1 _ | exact StepL06V.flat1 ⟨_, _, _, _⟩ | exact TrR.flat1 _ | (refine Zar ?_; (repeat (first | exact Zap | refine Zbi ?_ | (refine Zaf ?_ ?_; rfl))); done) | (refine Zar ?_; exact PeerV.flat _) | (simp [rowsCells, Segs.cells, Seg.cells, Value.oneCell']; done)) rfl (by repeat first | exact List.Mem.head _ | refine List.Mem.tail _ ?_ | refine List.mem_append_right _ ?_)) (by first | omega | (simp; done) | (simp; omega)) (by decide) rfl ?_; intro v8 hs7 ho6; obtain ⟨adv8, cpv8, rfl⟩ := ho6.val
            refine Ze rfl rfl rfl rfl ?_; refine Zf ?_; refine Zbk ?_; refine Zb ?_; refine Za (l := [0, 1, 2]) rfl ?_; refine Zc rfl rfl rfl rfl ?_; refine Zai rfl rfl rfl rfl rfl (by first | exact Zt (by decide) (by omega) | exact Zz (by decide) (by omega) | exact Zae (by decide) (by omega) | exact Zm (by decide) (by omega) | exact Zah _ | exact Zay _ | exact Zak _ | exact rfl) rfl ?_; refine Ze rfl rfl rfl rfl ?_; refine Zf ?_; refine Zbg (a' := [(4, _), (3, _)]) (k + 1) (h1) (.cons (k := 4) rfl (.cons (k := 3) rfl (.cons (k := 2) rfl (.cons (k := 0) rfl (.nil))))) (by first | exact Mem.le.refl _ | assumption | (repeat first | assumption | refine Mem.le.trans (by assumption) ?_)) (fun w hw => by first | exact hw | exact hw.cnt (by intro zz; first | exact Nat.le_refl _ | (simp only [Zh, Zd, Zi, cat, List.append_eq, List.append_assoc, List.cons_append, List.nil_append, List.append_nil]; omega) | (simp only [Zh, Zd, Zi, cat, List.append_eq, List.append_assoc, List.cons_append, List.nil_append, List.append_nil, StepL06V.segs]; omega))) ?_ ?_
            · exfalso; omega
            · omega
        · first | replace hc3 := dT hc3 | replace hc3 := dF hc3 | replace hc3 := nT hc3 | replace hc3 := nF hc3 | skip
          first
          | (exfalso; omega)
          | (exfalso; simp [eqX] at hc3; done)
          | contradiction
          | skip
            refine Zu ?_; refine Zbk ?_; refine Zb ?_; refine Za (l := [0, 1, 2]) rfl ?_; refine Zc rfl rfl rfl rfl ?_; refine Zai rfl rfl rfl rfl rfl (by first | exact Zt (by decide) (by omega) | exact Zz (by decide) (by omega) | exact Zae (by decide) (by omega) | exact Zm (by decide) (by omega) | exact Zah _ | exact Zay _ | exact Zak _ | exact rfl) rfl ?_; refine Ze rfl rfl rfl rfl ?_; refine Zf ?_; refine Zbg (a' := [(4, _), (3, _)]) (k + 1) (h1) (.cons (k := 4) rfl (.cons (k := 3) rfl (.cons (k := 2) rfl (.cons (k := 0) rfl (.nil))))) (by first | exact Mem.le.refl _ | assumption | (repeat first | assumption | refine Mem.le.trans (by assumption) ?_)) (fun w hw => by first | exact hw | exact hw.cnt (by intro zz; first | exact Nat.le_refl _ | (simp only [Zh, Zd, Zi, cat, List.append_eq, List.append_assoc, List.cons_append, List.nil_append, List.append_nil]; omega) | (simp only [Zh, Zd, Zi, cat, List.append_eq, List.append_assoc, List.cons_append, List.nil_append, List.append_nil, StepL06V.segs]; omega))) ?_ ?_
            · exfalso; omega
            · omega
    · first | replace hc2 := dT hc2 | replace hc2 := dF hc2 | replace hc2 := nT hc2 | replace hc2 := nF hc2 | skip
      first
      | (exfalso; omega)
      | (exfalso; simp [eqX] at hc2; done)
      | contradiction
      | skip
        refine Zbt ?_; refine Zbd ?_; refine Zbd ?_; refine Zca ?_; refine Zb ?_; refine Zk (.cons (k := 3) rfl (.cons (k := 2) rfl .nil)) ?_; refine Zj ?_; refine Zj ?_; refine Za (l := [0, 1, 2]) rfl ?_; refine Zc rfl rfl rfl rfl ?_; refine Zas rfl rfl rfl rfl F.elem26 rfl ?_; refine Zao rfl rfl rfl rfl rfl rfl ?_; refine Zf ?_; refine Zb ?_; refine Zk (.cons (k := 26) rfl (.cons (k := 3) rfl (.cons (k := 2) rfl .nil))) ?_
        refine Zx rfl (fun hc9 => ?_) (fun hc9 => ?_)
        · first | replace hc9 := dT hc9 | replace hc9 := dF hc9 | replace hc9 := nT hc9 | replace hc9 := nF hc9 | skip
          first
          | (exfalso; omega)
          | (exfalso; simp [eqX] at hc9; done)
          | contradiction
          | skip
            refine Zj ?_; refine Za (l := [0, 1]) rfl ?_; refine Zbn rfl rfl F.bld32 (.nil) rfl rfl ?_; refine Zbv rfl rfl rfl rfl (by constructor) (by first | ((try simp only [cat, List.cons_append, List.nil_append, List.append_nil]); (repeat (first | exact Zap | refine Zbi ?_ | (refine Zaf ?_ ?_; rfl))); done) | exact StepL06V.flat _ | exact StepL06V.flat ⟨_, _, _, _⟩ | exact TrR.flat _ | (simp [flat, cat, Segs.cells, Seg.cells, Value.oneCell']; done)) (by repeat first | exact Upd.head | apply Upd.tail | apply Upd.over) F.lay32 rfl rfl ?_; refine Zf ?_; refine Zb ?_; refine Zk (.cons (k := 3) rfl (.cons (k := 2) rfl .nil)) ?_; refine Zag ?_; refine Zam ?_
            refine Zab (.inr rfl) (.cell rfl (by repeat first | exact List.Mem.head _ | refine List.Mem.tail _ ?_ | refine List.mem_append_right _ ?_) F.lay32 rfl rfl .nil) (fun w hw => ?_)
            refine ⟨_, M, rfl, Mem.le.refl M, hw.cnt (by intro zz; first | exact Nat.le_refl _ | (simp only [Zh, Zd, Zi, cat, List.append_eq, List.append_assoc, List.cons_append, List.nil_append, List.append_nil]; omega) | (simp only [Zh, Zd, Zi, cat, List.append_eq, List.append_assoc, List.cons_append, List.nil_append, List.append_nil, StepL06V.segs]; omega)), zT, rfl, ?_⟩
            obtain rfl : k = s_l.length := by omega
            have h9 : somes es = [] := by
              have h8 : us = [] := List.length_eq_zero_iff.1 (by omega)
              subst h8
              rw [List.take_of_length_le (by omega)] at hlu
              exact List.length_eq_zero_iff.1 hlu.symm
            show TO M (joinE (somes es)) _
            rw [h9]; rfl
        · first | replace hc9 := dT hc9 | replace hc9 := dF hc9 | replace hc9 := nT hc9 | replace hc9 := nF hc9 | skip
          first
          | (exfalso; omega)
          | (exfalso; simp [eqX] at hc9; done)
          | contradiction
          | skip
            refine Zu ?_; refine Zb ?_; refine Zk (.cons (k := 3) rfl (.cons (k := 2) rfl .nil)) ?_; refine Zj ?_; refine Za (l := [0, 1, 2]) rfl ?_; refine Zc rfl rfl rfl rfl ?_; refine Zbn rfl rfl F.bld32 (.cons rfl (by constructor) (.cons rfl (by constructor) .nil)) rfl rfl ?_; refine Zbv rfl rfl rfl rfl (by constructor) (by first | ((try simp only [cat, List.cons_append, List.nil_append, List.append_nil]); (repeat (first | exact Zap | refine Zbi ?_ | (refine Zaf ?_ ?_; rfl))); done) | exact StepL06V.flat _ | exact StepL06V.flat ⟨_, _, _, _⟩ | exact TrR.flat _ | (simp [flat, cat, Segs.cells, Seg.cells, Value.oneCell']; done)) (by repeat first | exact Upd.head | apply Upd.tail | apply Upd.over) F.lay32 rfl rfl ?_; refine Zf ?_; refine Zb ?_; refine Zk (.cons (k := 2) rfl .nil) ?_; refine Zag ?_
            refine Zab (.inr rfl) (.cell rfl (by repeat first | exact List.Mem.head _ | refine List.Mem.tail _ ?_ | refine List.mem_append_right _ ?_) F.lay32 rfl rfl .nil) (fun w hw => ?_)
            obtain ⟨M2, g1, g2, g3⟩ := ho.frz (H := H) (hw.cnt (by intro zz; first | exact Nat.le_refl _ | (simp only [Zh, Zd, Zi, cat, List.append_eq, List.append_assoc, List.cons_append, List.nil_append, List.append_nil]; omega) | (simp only [Zh, Zd, Zi, cat, List.append_eq, List.append_assoc, List.cons_append, List.nil_append, List.append_nil, StepL06V.segs]; omega)))
            refine ⟨_, M2, rfl, g1, g2, ⟨3, 0, ⟨#[]⟩, ad1, us.length, cp1⟩, rfl, ?_⟩
            obtain rfl : k = s_l.length := by omega
            rw [List.take_of_length_le (by omega)] at hu
            have h8 : us.length ≠ 0 := by omega
            have hlu9 := hu.len
            show TO _ (joinE (somes es)) _
            cases hse : somes es with
            | nil => rw [hse] at hlu9; exact (h8 hlu9).elim
            | cons e9 r9 =>
              rw [hse] at hu
              exact ⟨by simp, ad1, us, cp1, rfl, g3.h1, g3.h2, TrL.mono g1 _ hu⟩
  · skip
    refine Zj ?_; refine Zj ?_; refine Za (l := [0, 1, 2, 3]) rfl ?_; refine Zc rfl rfl rfl rfl ?_; refine Zc rfl rfl rfl rfl ?_; refine Zas rfl rfl rfl rfl F.elem26 rfl ?_; refine Zao rfl rfl rfl rfl rfl rfl ?_; refine Zf ?_; refine Zb ?_
    refine Zx rfl (fun hc10 => ?_) (fun hc10 => ?_)
    · first | replace hc10 := dT hc10 | replace hc10 := dF hc10 | replace hc10 := nT hc10 | replace hc10 := nF hc10 | skip
      first
      | (exfalso; omega)
      | (exfalso; simp [eqX] at hc10; done)
      | contradiction
      | skip
        refine Zu ?_; refine Zb ?_; refine Zj ?_; refine Zaa ?_; refine Zj ?_; refine Za (l := [0, 1, 2, 3, 4, 5]) rfl ?_; refine Zc rfl rfl rfl rfl ?_; refine Zc rfl rfl rfl rfl ?_; refine Zn rfl rfl rfl rfl F.elem26 (by first | rfl | exact (Int.toNat_of_nonneg (by omega)).symm) (by first | omega | (simp; done) | (simp; omega)) (by first | exact ⟨_, _, rfl⟩ | assumption | exact SlM.plain (by assumption) (by first | (simp; done) | (simp; omega)) | exact RdS.plain (by assumption) (by first | (simp; done) | (simp; omega)) | exact OSl.plain (by assumption) (by first | (simp; done) | (simp; omega))) rfl ?_
        first | refine Zad rfl rfl rfl F.foff32_0 rfl ?_ | refine Zv rfl rfl rfl (by first | exact ⟨_, _, rfl⟩ | assumption | exact SlM.plain (by assumption) (by first | (simp; done) | (simp; omega)) | exact RdS.plain (by assumption) (by first | (simp; done) | (simp; omega)) | exact OSl.plain (by assumption) (by first | (simp; done) | (simp; omega))) F.foff32_0 rfl ?_
        first | refine Zan rfl rfl rfl (by repeat first | exact List.Mem.head _ | refine List.Mem.tail _ ?_ | refine List.mem_append_right _ ?_) F.lay3 rfl rfl rfl ?_ | refine Zs rfl rfl rfl (by first | assumption | exact SlM.mono (by assumption) (by assumption)) (by first | exact Zg (by omega) | exact List.getElem?_eq_getElem (by omega) | exact rfl | exact Zg (by first | (simp; done) | (simp; omega))) F.lay3 rfl rfl rfl ?_ | refine Zr rfl rfl rfl (by assumption) (by first | exact Zg (by omega) | exact List.getElem?_eq_getElem (by omega) | exact rfl | exact Zg (by first | (simp; done) | (simp; omega))) F.lay3 rfl rfl rfl ?_ | refine Zp rfl rfl rfl (by first | assumption | exact Mem.get_of (by assumption) (by repeat first | assumption | refine Mem.le.trans (by assumption) ?_)) F.lay3 rfl rfl rfl ?_ | refine Zo rfl rfl rfl (by assumption) (by repeat first | exact Rem.here _ | exact Rem.two | apply Rem.skip | apply Rem.over) (by first | exact Zg (by omega) | exact List.getElem?_eq_getElem (by omega) | exact rfl | exact Zg (by first | (simp; done) | (simp; omega))) F.lay3 rfl rfl rfl ?_ | refine Zq rfl rfl rfl (by repeat first | exact List.Mem.head _ | refine List.Mem.tail _ ?_ | refine List.mem_append_right _ ?_) F.lay3 (by first | exact Zbj (by first | omega | decide) | exact Zax (by first | omega | decide)) rfl ?_
        refine Zao rfl rfl rfl rfl rfl rfl ?_; refine Zbf 16 rfl (show Value.bool (!decide (s_l[k].kind = 0)) = .bool false from congrArg Value.bool (by simp [hkd])) ?_; refine Zf ?_; refine Zb ?_; refine Zbe rfl ?_; refine Zu ?_; refine Zbk ?_; refine Zb ?_; refine Za (l := [0, 1, 2]) rfl ?_; refine Zc rfl rfl rfl rfl ?_; refine Zai rfl rfl rfl rfl rfl (by first | exact Zt (by decide) (by omega) | exact Zz (by decide) (by omega) | exact Zae (by decide) (by omega) | exact Zm (by decide) (by omega) | exact Zah _ | exact Zay _ | exact Zak _ | exact rfl) rfl ?_; refine Ze rfl rfl rfl rfl ?_; refine Zf ?_; refine Zbg (a' := [(4, _), (3, _)]) (k + 1) (h1) (.cons (k := 4) rfl (.cons (k := 3) rfl (.cons (k := 2) rfl (.cons (k := 0) rfl (.nil))))) (by first | exact Mem.le.refl _ | assumption | (repeat first | assumption | refine Mem.le.trans (by assumption) ?_)) (fun w hw => by first | exact hw | exact hw.cnt (by intro zz; first | exact Nat.le_refl _ | (simp only [Zh, Zd, Zi, cat, List.append_eq, List.append_assoc, List.cons_append, List.nil_append, List.append_nil]; omega) | (simp only [Zh, Zd, Zi, cat, List.append_eq, List.append_assoc, List.cons_append, List.nil_append, List.append_nil, StepL06V.segs]; omega))) ?_ ?_
        · refine ⟨_, _, rfl, rfl, by omega, ho, ?_⟩
          rw [hst]; exact hu
        · omega
    · first | replace hc10 := dT hc10 | replace hc10 := dF hc10 | replace hc10 := nT hc10 | replace hc10 := nF hc10 | skip
      first
      | (exfalso; omega)
      | (exfalso; simp [eqX] at hc10; done)
      | contradiction
      | skip
        refine Zbt ?_; refine Zbd ?_; refine Zbd ?_; refine Zca ?_; refine Zb ?_; refine Zk (.cons (k := 3) rfl (.cons (k := 2) rfl .nil)) ?_; refine Zj ?_; refine Zj ?_; refine Za (l := [0, 1, 2]) rfl ?_; refine Zc rfl rfl rfl rfl ?_; refine Zas rfl rfl rfl rfl F.elem26 rfl ?_; refine Zao rfl rfl rfl rfl rfl rfl ?_; refine Zf ?_; refine Zb ?_; refine Zk (.cons (k := 26) rfl (.cons (k := 3) rfl (.cons (k := 2) rfl .nil))) ?_
        refine Zx rfl (fun hc11 => ?_) (fun hc11 => ?_)
        · first | replace hc11 := dT hc11 | replace hc11 := dF hc11 | replace hc11 := nT hc11 | replace hc11 := nF hc11 | skip
          first
          | (exfalso; omega)
          | (exfalso; simp [eqX] at hc11; done)
          | contradiction
          | skip
            refine Zj ?_; refine Za (l := [0, 1]) rfl ?_; refine Zbn rfl rfl F.bld32 (.nil) rfl rfl ?_; refine Zbv rfl rfl rfl rfl (by constructor) (by first | ((try simp only [cat, List.cons_append, List.nil_append, List.append_nil]); (repeat (first | exact Zap | refine Zbi ?_ | (refine Zaf ?_ ?_; rfl))); done) | exact StepL06V.flat _ | exact StepL06V.flat ⟨_, _, _, _⟩ | exact TrR.flat _ | (simp [flat, cat, Segs.cells, Seg.cells, Value.oneCell']; done)) (by repeat first | exact Upd.head | apply Upd.tail | apply Upd.over) F.lay32 rfl rfl ?_; refine Zf ?_; refine Zb ?_; refine Zk (.cons (k := 3) rfl (.cons (k := 2) rfl .nil)) ?_; refine Zag ?_; refine Zam ?_
            refine Zab (.inr rfl) (.cell rfl (by repeat first | exact List.Mem.head _ | refine List.Mem.tail _ ?_ | refine List.mem_append_right _ ?_) F.lay32 rfl rfl .nil) (fun w hw => ?_)
            refine ⟨_, M, rfl, Mem.le.refl M, hw.cnt (by intro zz; first | exact Nat.le_refl _ | (simp only [Zh, Zd, Zi, cat, List.append_eq, List.append_assoc, List.cons_append, List.nil_append, List.append_nil]; omega) | (simp only [Zh, Zd, Zi, cat, List.append_eq, List.append_assoc, List.cons_append, List.nil_append, List.append_nil, StepL06V.segs]; omega)), zT, rfl, ?_⟩
            obtain rfl : k = s_l.length := by omega
            have h9 : somes es = [] := by
              have h8 : us = [] := List.length_eq_zero_iff.1 (by omega)
              subst h8
              rw [List.take_of_length_le (by omega)] at hlu
              exact List.length_eq_zero_iff.1 hlu.symm
            show TO M (joinE (somes es)) _
            rw [h9]; rfl
        · first | replace hc11 := dT hc11 | replace hc11 := dF hc11 | replace hc11 := nT hc11 | replace hc11 := nF hc11 | skip
          first
          | (exfalso; omega)
          | (exfalso; simp [eqX] at hc11; done)
          | contradiction
          | skip
            refine Zu ?_; refine Zb ?_; refine Zk (.cons (k := 3) rfl (.cons (k := 2) rfl .nil)) ?_; refine Zj ?_; refine Za (l := [0, 1, 2]) rfl ?_; refine Zc rfl rfl rfl rfl ?_; refine Zbn rfl rfl F.bld32 (.cons rfl (by constructor) (.cons rfl (by constructor) .nil)) rfl rfl ?_; refine Zbv rfl rfl rfl rfl (by constructor) (by first | ((try simp only [cat, List.cons_append, List.nil_append, List.append_nil]); (repeat (first | exact Zap | refine Zbi ?_ | (refine Zaf ?_ ?_; rfl))); done) | exact StepL06V.flat _ | exact StepL06V.flat ⟨_, _, _, _⟩ | exact TrR.flat _ | (simp [flat, cat, Segs.cells, Seg.cells, Value.oneCell']; done)) (by repeat first | exact Upd.head | apply Upd.tail | apply Upd.over) F.lay32 rfl rfl ?_; refine Zf ?_; refine Zb ?_; refine Zk (.cons (k := 2) rfl .nil) ?_; refine Zag ?_
            refine Zab (.inr rfl) (.cell rfl (by repeat first | exact List.Mem.head _ | refine List.Mem.tail _ ?_ | refine List.mem_append_right _ ?_) F.lay32 rfl rfl .nil) (fun w hw => ?_)
            obtain ⟨M2, g1, g2, g3⟩ := ho.frz (H := H) (hw.cnt (by intro zz; first | exact Nat.le_refl _ | (simp only [Zh, Zd, Zi, cat, List.append_eq, List.append_assoc, List.cons_append, List.nil_append, List.append_nil]; omega) | (simp only [Zh, Zd, Zi, cat, List.append_eq, List.append_assoc, List.cons_append, List.nil_append, List.append_nil, StepL06V.segs]; omega)))
            refine ⟨_, M2, rfl, g1, g2, ⟨3, 0, ⟨#[]⟩, ad1, us.length, cp1⟩, rfl, ?_⟩
            obtain rfl : k = s_l.length := by omega
            rw [List.take_of_length_le (by omega)] at hu
            have h8 : us.length ≠ 0 := by omega
            have hlu9 := hu.len
            show TO _ (joinE (somes es)) _
            cases hse : somes es with
            | nil => rw [hse] at hlu9; exact (h8 hlu9).elim
            | cons e9 r9 =>
              rw [hse] at hu
              exact ⟨by simp, ad1, us, cp1, rfl, g3.h1, g3.h2, TrL.mono g1 _ hu⟩
  · skip
    refine Zj ?_; refine Zj ?_; refine Za (l := [0, 1, 2, 3]) rfl ?_; refine Zc rfl rfl rfl rfl ?_; refine Zc rfl rfl rfl rfl ?_; refine Zas rfl rfl rfl rfl F.elem26 rfl ?_; refine Zao rfl rfl rfl rfl rfl rfl ?_; refine Zf ?_; refine Zb ?_
    refine Zx rfl (fun hc12 => ?_) (fun hc12 => ?_)
    · first | replace hc12 := dT hc12 | replace hc12 := dF hc12 | replace hc12 := nT hc12 | replace hc12 := nF hc12 | skip
      first
      | (exfalso; omega)
      | (exfalso; simp [eqX] at hc12; done)
      | contradiction
      | skip
        refine Zu ?_; refine Zb ?_; refine Zj ?_; refine Zaa ?_; refine Zj ?_; refine Za (l := [0, 1, 2, 3, 4, 5]) rfl ?_; refine Zc rfl rfl rfl rfl ?_; refine Zc rfl rfl rfl rfl ?_; refine Zn rfl rfl rfl rfl F.elem26 (by first | rfl | exact (Int.toNat_of_nonneg (by omega)).symm) (by first | omega | (simp; done) | (simp; omega)) (by first | exact ⟨_, _, rfl⟩ | assumption | exact SlM.plain (by assumption) (by first | (simp; done) | (simp; omega)) | exact RdS.plain (by assumption) (by first | (simp; done) | (simp; omega)) | exact OSl.plain (by assumption) (by first | (simp; done) | (simp; omega))) rfl ?_
        first | refine Zad rfl rfl rfl F.foff32_0 rfl ?_ | refine Zv rfl rfl rfl (by first | exact ⟨_, _, rfl⟩ | assumption | exact SlM.plain (by assumption) (by first | (simp; done) | (simp; omega)) | exact RdS.plain (by assumption) (by first | (simp; done) | (simp; omega)) | exact OSl.plain (by assumption) (by first | (simp; done) | (simp; omega))) F.foff32_0 rfl ?_
        first | refine Zan rfl rfl rfl (by repeat first | exact List.Mem.head _ | refine List.Mem.tail _ ?_ | refine List.mem_append_right _ ?_) F.lay3 rfl rfl rfl ?_ | refine Zs rfl rfl rfl (by first | assumption | exact SlM.mono (by assumption) (by assumption)) (by first | exact Zg (by omega) | exact List.getElem?_eq_getElem (by omega) | exact rfl | exact Zg (by first | (simp; done) | (simp; omega))) F.lay3 rfl rfl rfl ?_ | refine Zr rfl rfl rfl (by assumption) (by first | exact Zg (by omega) | exact List.getElem?_eq_getElem (by omega) | exact rfl | exact Zg (by first | (simp; done) | (simp; omega))) F.lay3 rfl rfl rfl ?_ | refine Zp rfl rfl rfl (by first | assumption | exact Mem.get_of (by assumption) (by repeat first | assumption | refine Mem.le.trans (by assumption) ?_)) F.lay3 rfl rfl rfl ?_ | refine Zo rfl rfl rfl (by assumption) (by repeat first | exact Rem.here _ | exact Rem.two | apply Rem.skip | apply Rem.over) (by first | exact Zg (by omega) | exact List.getElem?_eq_getElem (by omega) | exact rfl | exact Zg (by first | (simp; done) | (simp; omega))) F.lay3 rfl rfl rfl ?_ | refine Zq rfl rfl rfl (by repeat first | exact List.Mem.head _ | refine List.Mem.tail _ ?_ | refine List.mem_append_right _ ?_) F.lay3 (by first | exact Zbj (by first | omega | decide) | exact Zax (by first | omega | decide)) rfl ?_
        refine Zao rfl rfl rfl rfl rfl rfl ?_; refine Zbf 16 rfl (show Value.bool (!decide (s_l[k].kind = 0)) = .bool true from congrArg Value.bool (by simp [hkd])) ?_; refine Zf ?_; refine Zb ?_; refine Zcc rfl ?_; refine Za (l := [0, 1, 2, 3, 4, 5, 6, 7]) rfl ?_; refine Zc rfl rfl rfl rfl ?_; refine Zc rfl rfl rfl rfl ?_; refine Zc rfl rfl rfl rfl ?_; refine Zn rfl rfl rfl rfl F.elem26 (by first | rfl | exact (Int.toNat_of_nonneg (by omega)).symm) (by first | omega | (simp; done) | (simp; omega)) (by first | exact ⟨_, _, rfl⟩ | assumption | exact SlM.plain (by assumption) (by first | (simp; done) | (simp; omega)) | exact RdS.plain (by assumption) (by first | (simp; done) | (simp; omega)) | exact OSl.plain (by assumption) (by first | (simp; done) | (simp; omega))) rfl ?_
        first | refine Zan rfl rfl rfl (by repeat first | exact List.Mem.head _ | refine List.Mem.tail _ ?_ | refine List.mem_append_right _ ?_) F.lay32 rfl rfl rfl ?_ | refine Zs rfl rfl rfl (by first | assumption | exact SlM.mono (by assumption) (by assumption)) (by first | exact Zg (by omega) | exact List.getElem?_eq_getElem (by omega) | exact rfl | exact Zg (by first | (simp; done) | (simp; omega))) F.lay32 rfl rfl rfl ?_ | refine Zr rfl rfl rfl (by assumption) (by first | exact Zg (by omega) | exact List.getElem?_eq_getElem (by omega) | exact rfl | exact Zg (by first | (simp; done) | (simp; omega))) F.lay32 rfl rfl rfl ?_ | refine Zp rfl rfl rfl (by first | assumption | exact Mem.get_of (by assumption) (by repeat first | assumption | refine Mem.le.trans (by assumption) ?_)) F.lay32 rfl rfl rfl ?_ | refine Zo rfl rfl rfl (by assumption) (by repeat first | exact Rem.here _ | exact Rem.two | apply Rem.skip | apply Rem.over) (by first | exact Zg (by omega) | exact List.getElem?_eq_getElem (by omega) | exact rfl | exact Zg (by first | (simp; done) | (simp; omega))) F.lay32 rfl rfl rfl ?_
        refine Zal rfl rfl F.elem26 F.zero32 rfl rfl (.cons rfl (by constructor) .nil) rfl rfl (by simp only [List.map_cons, List.map_nil] <;> rfl) rfl ?_; intro b13 hob14
        refine Zbp (m := 1000000) rfl rfl rfl rfl rfl F.elem26 F.zero32 (by first | rfl | exact Zbm rfl) rfl (by first | assumption | exact OSl.nil) (by repeat first | exact Rem.here _ | exact Rem.two | apply Rem.skip | apply Rem.over) (Src.own hob14.lens (by first | exact StepL06V.flat1 _ | exact StepL06V.flat1 ⟨_, _, _, _⟩ | exact TrR.flat1 _ | (refine Zar ?_; (repeat (first | exact Zap | refine Zbi ?_ | (refine Zaf ?_ ?_; rfl))); done) | (refine Zar ?_; exact PeerV.flat _) | (simp [rowsCells, Segs.cells, Seg.cells, Value.oneCell']; done)) rfl (by repeat first | exact List.Mem.head _ | refine List.Mem.tail _ ?_ | refine List.mem_append_right _ ?_)) (by first | omega | (simp; done) | (simp; omega)) (by decide) rfl ?_; intro v17 hs16 ho15; obtain ⟨adv17, cpv17, rfl⟩ := ho15.val
        refine Ze rfl rfl rfl rfl ?_; refine Zf ?_; refine Zbk ?_; refine Zb ?_; refine Za (l := [0, 1, 2]) rfl ?_; refine Zc rfl rfl rfl rfl ?_; refine Zai rfl rfl rfl rfl rfl (by first | exact Zt (by decide) (by omega) | exact Zz (by decide) (by omega) | exact Zae (by decide) (by omega) | exact Zm (by decide) (by omega) | exact Zah _ | exact Zay _ | exact Zak _ | exact rfl) rfl ?_; refine Ze rfl rfl rfl rfl ?_; refine Zf ?_; refine Zbg (a' := [(4, _), (3, _)]) (k + 1) (hs16) (.cons (k := 4) rfl (.cons (k := 3) rfl (.cons (k := 2) rfl (.cons (k := 0) rfl (.nil))))) (by first | exact Mem.le.refl _ | assumption | (repeat first | assumption | refine Mem.le.trans (by assumption) ?_)) (fun w hw => by first | exact hw | exact hw.cnt (by intro zz; first | exact Nat.le_refl _ | (simp only [Zh, Zd, Zi, cat, List.append_eq, List.append_assoc, List.cons_append, List.nil_append, List.append_nil]; omega) | (simp only [Zh, Zd, Zi, cat, List.append_eq, List.append_assoc, List.cons_append, List.nil_append, List.append_nil, StepL06V.segs]; omega))) ?_ ?_
        · refine ⟨_, us ++ [s_l[k]], rfl, rfl, by omega, ?_, ?_⟩
          · rw [List.map_append]; exact ho15
          · rw [hst]; exact hu.snoc hev
        · omega
    · first | replace hc12 := dT hc12 | replace hc12 := dF hc12 | replace hc12 := nT hc12 | replace hc12 := nF hc12 | skip
      first
      | (exfalso; omega)
      | (exfalso; simp [eqX] at hc12; done)
      | contradiction
      | skip
        refine Zbt ?_; refine Zbd ?_; refine Zbd ?_; refine Zca ?_; refine Zb ?_; refine Zk (.cons (k := 3) rfl (.cons (k := 2) rfl .nil)) ?_; refine Zj ?_; refine Zj ?_; refine Za (l := [0, 1, 2]) rfl ?_; refine Zc rfl rfl rfl rfl ?_; refine Zas rfl rfl rfl rfl F.elem26 rfl ?_; refine Zao rfl rfl rfl rfl rfl rfl ?_; refine Zf ?_; refine Zb ?_; refine Zk (.cons (k := 26) rfl (.cons (k := 3) rfl (.cons (k := 2) rfl .nil))) ?_
        refine Zx rfl (fun hc18 => ?_) (fun hc18 => ?_)
        · first | replace hc18 := dT hc18 | replace hc18 := dF hc18 | replace hc18 := nT hc18 | replace hc18 := nF hc18 | skip
          first
          | (exfalso; omega)
          | (exfalso; simp [eqX] at hc18; done)
          | contradiction
          | skip
            refine Zj ?_; refine Za (l := [0, 1]) rfl ?_; refine Zbn rfl rfl F.bld32 (.nil) rfl rfl ?_; refine Zbv rfl rfl rfl rfl (by constructor) (by first | ((try simp only [cat, List.cons_append, List.nil_append, List.append_nil]); (repeat (first | exact Zap | refine Zbi ?_ | (refine Zaf ?_ ?_; rfl))); done) | exact StepL06V.flat _ | exact StepL06V.flat ⟨_, _, _, _⟩ | exact TrR.flat _ | (simp [flat, cat, Segs.cells, Seg.cells, Value.oneCell']; done)) (by repeat first | exact Upd.head | apply Upd.tail | apply Upd.over) F.lay32 rfl rfl ?_; refine Zf ?_; refine Zb ?_; refine Zk (.cons (k := 3) rfl (.cons (k := 2) rfl .nil)) ?_; refine Zag ?_; refine Zam ?_
            refine Zab (.inr rfl) (.cell rfl (by repeat first | exact List.Mem.head _ | refine List.Mem.tail _ ?_ | refine List.mem_append_right _ ?_) F.lay32 rfl rfl .nil) (fun w hw => ?_)
            refine ⟨_, M, rfl, Mem.le.refl M, hw.cnt (by intro zz; first | exact Nat.le_refl _ | (simp only [Zh, Zd, Zi, cat, List.append_eq, List.append_assoc, List.cons_append, List.nil_append, List.append_nil]; omega) | (simp only [Zh, Zd, Zi, cat, List.append_eq, List.append_assoc, List.cons_append, List.nil_append, List.append_nil, StepL06V.segs]; omega)), zT, rfl, ?_⟩
            obtain rfl : k = s_l.length := by omega
            have h9 : somes es = [] := by
              have h8 : us = [] := List.length_eq_zero_iff.1 (by omega)
              subst h8
              rw [List.take_of_length_le (by omega)] at hlu
              exact List.length_eq_zero_iff.1 hlu.symm
            show TO M (joinE (somes es)) _
            rw [h9]; rfl
        · first | replace hc18 := dT hc18 | replace hc18 := dF hc18 | replace hc18 := nT hc18 | replace hc18 := nF hc18 | skip
          first
          | (exfalso; omega)
          | (exfalso; simp [eqX] at hc18; done)
          | contradiction
          | skip
            refine Zu ?_; refine Zb ?_; refine Zk (.cons (k := 3) rfl (.cons (k := 2) rfl .nil)) ?_; refine Zj ?_; refine Za (l := [0, 1, 2]) rfl ?_; refine Zc rfl rfl rfl rfl ?_; refine Zbn rfl rfl F.bld32 (.cons rfl (by constructor) (.cons rfl (by constructor) .nil)) rfl rfl ?_; refine Zbv rfl rfl rfl rfl (by constructor) (by first | ((try simp only [cat, List.cons_append, List.nil_append, List.append_nil]); (repeat (first | exact Zap | refine Zbi ?_ | (refine Zaf ?_ ?_; rfl))); done) | exact StepL06V.flat _ | exact StepL06V.flat ⟨_, _, _, _⟩ | exact TrR.flat _ | (simp [flat, cat, Segs.cells, Seg.cells, Value.oneCell']; done)) (by repeat first | exact Upd.head | apply Upd.tail | apply Upd.over) F.lay32 rfl rfl ?_; refine Zf ?_; refine Zb ?_; refine Zk (.cons (k := 2) rfl .nil) ?_; refine Zag ?_
            refine Zab (.inr rfl) (.cell rfl (by repeat first | exact List.Mem.head _ | refine List.Mem.tail _ ?_ | refine List.mem_append_right _ ?_) F.lay32 rfl rfl .nil) (fun w hw => ?_)
            obtain ⟨M2, g1, g2, g3⟩ := ho.frz (H := H) (hw.cnt (by intro zz; first | exact Nat.le_refl _ | (simp only [Zh, Zd, Zi, cat, List.append_eq, List.append_assoc, List.cons_append, List.nil_append, List.append_nil]; omega) | (simp only [Zh, Zd, Zi, cat, List.append_eq, List.append_assoc, List.cons_append, List.nil_append, List.append_nil, StepL06V.segs]; omega)))
            refine ⟨_, M2, rfl, g1, g2, ⟨3, 0, ⟨#[]⟩, ad1, us.length, cp1⟩, rfl, ?_⟩
            obtain rfl : k = s_l.length := by omega
            rw [List.take_of_length_le (by omega)] at hu
            have h8 : us.length ≠ 0 := by omega
            have hlu9 := hu.len
            show TO _ (joinE (somes es)) _
            cases hse : somes es with
            | nil => rw [hse] at hlu9; exact (h8 hlu9).elim
            | cons e9 r9 =>
              rw [hse] at hu
              exact ⟨by simp, ad1, us, cp1, rfl, g3.h1, g3.h2, TrL.mono g1 _ hu⟩
end Go.Proofs.YtbeahcfghjiogaaDoor
namespace Go.Proofs.YtbeahcfghjiogaaDoor
open Go.Esp
end Go.Proofs.YtbeahcfghjiogaaDoor
namespace Go.Proofs.YtbeahcfghjiogaaDoor
open Go.Esp
end Go.Proofs.YtbeahcfghjiogaaDoor
namespace Go.Proofs.YtbeahcfghjiogaaDoor
open Go.Esp
end Go.Proofs.YtbeahcfghjiogaaDoor
namespace Go.Esp
theorem parts_if {v : Value} (h : v = .nilIface ∨ ∃ t u, v = .iface t u) : Parts v [.one v] := by
  rcases h with rfl | ⟨t, u, rfl⟩ <;> constructor
theorem pieceV_head {a : Option Addr} {sz hi c : Nat} : pieceV a sz 0 hi c = .slice a hi c := by
  unfold pieceV
  have h : a.map (·.add (0 * sz)) = a := by
    cases a with
    | none => rfl
    | some x => simp [Addr.add]
  rw [h]
  simp
theorem rows_oneM {α : Type} {f : α → Segs} : ∀ (xs : List α), (∀ x ∈ xs, flat (f x)) → ∀ u ∈ rowsCells (xs.map f), u.oneCell' = true
  | [], _, u, hu => by cases hu
  | x :: r, h, u, hu => by
    rcases List.mem_append.1 (show u ∈ Segs.cells (f x) ++ rowsCells (r.map f) from hu) with hu | hu
    · exact h x (.head _) u hu
    · exact rows_oneM r (fun y hy => h y (.tail _ hy)) u hu
section
variable {P : Program} {n : Sh} {ops : Array Oper} {Q : Exit → Act → World → Prop} {rest : List Nat} {M M' : Mem} {H H' H0 : Hp} {e : Env} {J S : World → Prop} {A : As} {i : Nat}
  {dst : Option Tmp} {d : Tmp} {op : Op} {ty : TypeId} {pos : String} {af : Array Edge} {gd : Option (Nat × Bool)}
theorem X_appendKM {α : Type} {f : α → Segs} {xs : List α} {t E sz by_ m c' : Nat} {z : Value} {x y : Operand} {v : Value} {a : Option Addr} {hs : Hp} {rows : List Segs} {ats : Array TypeId} (hi : ops[i]? = some ⟨some d, .call ⟨.builtin .append, #[x, y], ats⟩, ty, pos, af, gd⟩) (hg : want ops e gd = some true)
    (hx : ev e x = some v) (hy : ev e y = some (.slice a xs.length c')) (hat : ats = #[t, t]) (ht : slOf P t = some (E, sz, by_)) (hz : zeroOf P E = some z) (hzs : z.cells.size = sz) (hsz : Nat.ble 1 sz = true) (ho : OSl E sz v hs rows) (hH : Rem hs H H0)
    (hsrc : SlM M a (xs.map f) sz) (hf : ∀ x ∈ xs, flat (f x)) (hm : rows.length + xs.length ≤ m) (hbm : Nat.ble (m * (by_ + 1)) 140737488355328 = true) (hd : Nat.ble (d + 1) n.sz = true)
    (hk : ∀ v' hs', OSl E sz v' hs' (rows ++ xs.map f) → XD P n ops Q rest (St M (hs' ++ H0)) ⟨M, hs' ++ H0⟩ ((d, v') :: e)) (hnw : n.wrs.contains i = false := by rfl) : XD P n ops Q (i :: rest) J ⟨M, H⟩ e := by
  cases a with
  | some ad => exact Zbp hi hg hx hy hat ht hz hzs hsz ho hH (SlM.src hsrc (rows_oneM _ hf) (List.length_map ..).symm) (by simpa using hm) hbm hd hk hnw
  | none =>
    have hl := hsrc.none_nil
    subst hl
    obtain ⟨a1, c1, rfl⟩ := ho.val
    obtain ⟨g1, _, _⟩ := ho.caps
    have hk' := hk _ _ (by simpa using ho)
    exact X_append_none hi hg hx hy hat ht g1 hd (XD_perm hH.perm hk') hnw
end
end Go.Esp
namespace Go.Proofs.YtbeahcfghjiogaaDoor
open Go.Esp
theorem F.elem22 : slOf Tryd.prog 22 = some (55, 4, 40) := by kernel_rfl
theorem F.foff55_2 : foff Tryd.prog 55 2 = some 2 := by kernel_rfl
theorem few_ok (M : Mem) (s : Sl StepL06V) (hs : Scr M s) : Fs Tryd.prog 7 [s.val] M (fun v => v = .bool (decide (FewP s.l))) := by
  have hscr := hs.h
  obtain ⟨s_a, s_c, s_l⟩ := s
  have s_s : SlM M s_a (s_l.map StepL06V.segs) 4 := hs.k.h1
  have n_s : (s_l.map StepL06V.segs).length = s_l.length := List.length_map ..
  have m_s : s_l.length ≤ 9223372036854775807 := hs.k.h2
  simp only at hscr
  refine Zbb Tryd.func7 rfl Tryd.ntmps7 rfl ?_; intro H
  refine Zj ?_; refine Za (l := [0]) rfl ?_; refine Ze rfl rfl rfl rfl ?_; refine Zf ?_; refine Zb ?_; refine Zj ?_; refine Za (l := [0]) rfl ?_; refine Ze rfl rfl rfl rfl ?_; refine Zf ?_; refine Zb ?_; refine Zj ?_; refine Zj ?_; refine Za (l := [0]) rfl ?_; refine Ze rfl rfl rfl rfl ?_; refine Zf ?_; refine Zb ?_; refine Zaa ?_; refine Zk (.cons (k := 4) rfl (.cons (k := 3) rfl (.cons (k := 2) rfl (.cons (k := 0) rfl .nil)))) ?_; refine C_loopS (.succ (.succ .zero)) (fun (k : Nat) z => z = [(4, .int .i64 (k : Int)), (3, .int .i64 ((sumOps (s_l.take k) : Nat) : Int))] ∧ k ≤ s_l.length ∧ sumOps (s_l.take k) ≤ k * 140737488351232 ∧ (0 < k → s_l.length ≤ 60)) (fun k => s_l.length - k) (0) (⟨rfl, by omega, by simp [sumOps], by omega⟩) ?_
  rintro k _ ⟨rfl, hk, hI, hJ⟩
  have hsz : ∀ hk2 : k < s_l.length, s_l[k].op.size ≤ 140737488351232 := fun hk2 => (hscr _ (List.getElem_mem hk2)).1
  refine Zj ?_; refine Zj ?_; refine Za (l := [0, 1, 2, 3, 4, 5, 6, 7, 8]) rfl ?_; refine Zc rfl rfl rfl rfl ?_; refine Zc rfl rfl rfl rfl ?_; refine Zas rfl rfl rfl rfl F.elem22 rfl ?_; refine Zao rfl rfl rfl rfl rfl rfl ?_; refine Zc rfl rfl rfl rfl ?_
  refine Zbz 9 rfl (fun hc1 => ?_) (fun hc1 => ?_)
  · first | replace hc1 := dT hc1 | replace hc1 := dF hc1 | replace hc1 := nT hc1 | replace hc1 := nF hc1 | skip
    try simp only [StepL06V.eta] at hc1
    first
    | (exfalso; omega)
    | (exfalso; simp [eqX] at hc1; done)
    | contradiction
    | skip
      refine Zc rfl rfl rfl rfl ?_; refine Zas rfl rfl rfl rfl F.elem22 rfl ?_; refine Zao rfl rfl rfl rfl rfl rfl ?_; refine Zau rfl rfl rfl rfl rfl ?_; refine Zf ?_; refine Zb ?_
      refine Zx rfl (fun hc2 => ?_) (fun hc2 => ?_)
      · first | replace hc2 := dT hc2 | replace hc2 := dF hc2 | replace hc2 := nT hc2 | replace hc2 := nF hc2 | skip
        try simp only [StepL06V.eta] at hc2
        first
        | (exfalso; omega)
        | (exfalso; simp [eqX] at hc2; done)
        | contradiction
        | skip
          refine Zu ?_; refine Zb ?_; refine Zj ?_; refine Zaa ?_; refine Za (l := [0, 1, 2, 3, 4, 5, 6, 7, 8]) rfl ?_; refine Zc rfl rfl rfl rfl ?_; refine Zc rfl rfl rfl rfl ?_; refine Zc rfl rfl rfl rfl ?_; refine Zn rfl rfl rfl rfl F.elem22 (by first | rfl | exact (Int.toNat_of_nonneg (by omega)).symm) (by first | omega | (simp; done) | (simp; omega)) (by first | exact ⟨_, _, rfl⟩ | assumption | exact SlM.plain (by assumption) (by first | (simp; done) | (simp; omega)) | exact RdS.plain (by assumption) (by first | (simp; done) | (simp; omega)) | exact OSl.plain (by assumption) (by first | (simp; done) | (simp; omega))) rfl ?_
          first | refine Zad rfl rfl rfl F.foff55_2 rfl ?_ | refine Zv rfl rfl rfl (by first | exact ⟨_, _, rfl⟩ | assumption | exact SlM.plain (by assumption) (by first | (simp; done) | (simp; omega)) | exact RdS.plain (by assumption) (by first | (simp; done) | (simp; omega)) | exact OSl.plain (by assumption) (by first | (simp; done) | (simp; omega))) F.foff55_2 rfl ?_
          first | refine Zan rfl rfl rfl (by repeat first | exact List.Mem.head _ | refine List.Mem.tail _ ?_ | refine List.mem_append_right _ ?_) F.lay9 rfl rfl rfl ?_ | refine Zs rfl rfl rfl (by first | assumption | exact SlM.mono (by assumption) (by assumption)) (by first | exact Zg (by omega) | exact List.getElem?_eq_getElem (by omega) | exact rfl | exact Zg (by first | (simp; done) | (simp; omega))) F.lay9 rfl rfl rfl ?_ | refine Zr rfl rfl rfl (by assumption) (by first | exact Zg (by omega) | exact List.getElem?_eq_getElem (by omega) | exact rfl | exact Zg (by first | (simp; done) | (simp; omega))) F.lay9 rfl rfl rfl ?_ | refine Zp rfl rfl rfl (by first | assumption | exact Mem.get_of (by assumption) (by repeat first | assumption | refine Mem.le.trans (by assumption) ?_)) F.lay9 rfl rfl rfl ?_ | refine Zo rfl rfl rfl (by assumption) (by repeat first | exact Rem.here _ | exact Rem.two | apply Rem.skip | apply Rem.over) (by first | exact Zg (by omega) | exact List.getElem?_eq_getElem (by omega) | exact rfl | exact Zg (by first | (simp; done) | (simp; omega))) F.lay9 rfl rfl rfl ?_ | refine Zq rfl rfl rfl (by repeat first | exact List.Mem.head _ | refine List.Mem.tail _ ?_ | refine List.mem_append_right _ ?_) F.lay9 (by first | exact Zbj (by first | omega | decide) | exact Zax (by first | omega | decide)) rfl ?_
          refine Zbf 21 rfl (show _ = Value.string s_l[k].op from rfl) ?_; refine X_len_str rfl rfl rfl rfl Tryd.underlying9 rfl ?_
          have h9 := hsz (by omega)
          refine Zai rfl rfl rfl rfl rfl (by first | exact Zt (by decide) (by omega) | exact Zz (by decide) (by omega) | exact Zae (by decide) (by omega) | exact Zm (by decide) (by omega) | exact Zah _ | exact Zay _ | exact Zak _ | exact rfl) rfl ?_; refine Ze rfl rfl rfl rfl ?_; refine Zf ?_; refine Zbk ?_; refine Zb ?_; refine Za (l := [0, 1, 2]) rfl ?_; refine Zc rfl rfl rfl rfl ?_; refine Zai rfl rfl rfl rfl rfl (by first | exact Zt (by decide) (by omega) | exact Zz (by decide) (by omega) | exact Zae (by decide) (by omega) | exact Zm (by decide) (by omega) | exact Zah _ | exact Zay _ | exact Zak _ | exact rfl) rfl ?_; refine Ze rfl rfl rfl rfl ?_; refine Zf ?_; refine K_roundS (a' := [(4, _), (3, _)]) (k + 1) (.cons (k := 4) rfl (.cons (k := 3) rfl (.cons (k := 2) rfl (.cons (k := 0) rfl (.nil))))) (fun w hw => by first | exact hw | exact hw.cnt (by intro zz; first | exact Nat.le_refl _ | (simp only [Zh, Zd, Zi, cat, List.append_eq, List.append_assoc, List.cons_append, List.nil_append, List.append_nil]; omega) | (simp only [Zh, Zd, Zi, cat, List.append_eq, List.append_assoc, List.cons_append, List.nil_append, List.append_nil, StepL06V.segs]; omega))) ?_ ?_
          · refine ⟨?_, by omega, ?_, fun _ => by omega⟩
            · rw [sumOps_succ (by omega), Int.natCast_add]; rfl
            · have h9 := hsz (by omega); rw [sumOps_succ (by omega)]; omega
          · omega
      · first | replace hc2 := dT hc2 | replace hc2 := dF hc2 | replace hc2 := nT hc2 | replace hc2 := nF hc2 | skip
        try simp only [StepL06V.eta] at hc2
        first
        | (exfalso; omega)
        | (exfalso; simp [eqX] at hc2; done)
        | contradiction
        | skip
          refine Zbt ?_; refine Zbd ?_; refine Zbd ?_; refine Zca ?_; refine Zb ?_; refine Zk (.cons (k := 3) rfl (.cons (k := 2) rfl (.cons (k := 0) rfl .nil))) ?_; refine Zj ?_; refine Za (l := [0, 1, 2, 3, 4, 5, 6, 7]) rfl ?_; refine Zc rfl rfl rfl rfl ?_; refine Zas rfl rfl rfl rfl F.elem22 rfl ?_; refine Zao rfl rfl rfl rfl rfl rfl ?_; refine Zc rfl rfl rfl rfl ?_
          refine Zbz 27 rfl (fun hc3 => ?_) (fun hc3 => ?_)
          · first | replace hc3 := dT hc3 | replace hc3 := dF hc3 | replace hc3 := nT hc3 | replace hc3 := nF hc3 | skip
            try simp only [StepL06V.eta] at hc3
            first
            | (exfalso; omega)
            | (exfalso; simp [eqX] at hc3; done)
            | contradiction
            | skip
              refine Zc rfl rfl rfl rfl ?_; refine Zao rfl rfl rfl rfl rfl rfl ?_; refine Zau rfl rfl rfl rfl rfl ?_; refine Ze rfl rfl rfl rfl ?_; refine Zf ?_; refine Zb ?_; refine Zk (.cons (k := 2) rfl .nil) ?_; refine Zag ?_
              refine Zab (.inr rfl) (.tmp rfl .nil) (fun w hw => ?_)
              refine ⟨_, rfl, hw.cnt (by intro zz; first | exact Nat.le_refl _ | (simp only [Zh, Zd, Zi, cat, List.append_eq, List.append_assoc, List.cons_append, List.nil_append, List.append_nil]; omega) | (simp only [Zh, Zd, Zi, cat, List.append_eq, List.append_assoc, List.cons_append, List.nil_append, List.append_nil, StepL06V.segs]; omega)), ?_⟩
              clear hw
              refine congrArg Value.bool ?_
              first
              | (refine (decide_eq_false (fun h9 => ?_)).symm; have h8 : s_l.length ≤ 60 := h9.1; omega)
              | (obtain rfl : k = s_l.length := (by omega); rw [List.take_length]; refine decide_eq_decide.2 ⟨fun h9 => ⟨by show s_l.length ≤ 60; omega, by show sumOps s_l ≤ 2000; omega⟩, fun h9 => ?_⟩; have h8 : sumOps s_l ≤ 2000 := h9.2; omega)
          · first | replace hc3 := dT hc3 | replace hc3 := dF hc3 | replace hc3 := nT hc3 | replace hc3 := nF hc3 | skip
            try simp only [StepL06V.eta] at hc3
            first
            | (exfalso; omega)
            | (exfalso; simp [eqX] at hc3; done)
            | contradiction
            | skip
              refine Zba rfl rfl rfl ?_; refine Zba rfl rfl rfl ?_; refine Zau rfl rfl rfl rfl rfl ?_; refine Ze rfl rfl rfl rfl ?_; refine Zf ?_; refine Zb ?_; refine Zk (.cons (k := 2) rfl .nil) ?_; refine Zag ?_
              refine Zab (.inr rfl) (.tmp rfl .nil) (fun w hw => ?_)
              refine ⟨_, rfl, hw.cnt (by intro zz; first | exact Nat.le_refl _ | (simp only [Zh, Zd, Zi, cat, List.append_eq, List.append_assoc, List.cons_append, List.nil_append, List.append_nil]; omega) | (simp only [Zh, Zd, Zi, cat, List.append_eq, List.append_assoc, List.cons_append, List.nil_append, List.append_nil, StepL06V.segs]; omega)), ?_⟩
              clear hw
              refine congrArg Value.bool ?_
              first
              | (refine (decide_eq_false (fun h9 => ?_)).symm; have h8 : s_l.length ≤ 60 := h9.1; omega)
              | (obtain rfl : k = s_l.length := (by omega); rw [List.take_length]; refine decide_eq_decide.2 ⟨fun h9 => ⟨by show s_l.length ≤ 60; omega, by show sumOps s_l ≤ 2000; omega⟩, fun h9 => ?_⟩; have h8 : sumOps s_l ≤ 2000 := h9.2; omega)
  · first | replace hc1 := dT hc1 | replace hc1 := dF hc1 | replace hc1 := nT hc1 | replace hc1 := nF hc1 | skip
    try simp only [StepL06V.eta] at hc1
    first
    | (exfalso; omega)
    | (exfalso; simp [eqX] at hc1; done)
    | contradiction
    | skip
      refine Zba rfl rfl rfl ?_; refine Zba rfl rfl rfl ?_; refine Zba rfl rfl rfl ?_; refine Zau rfl rfl rfl rfl rfl ?_; refine Zf ?_; refine Zb ?_; refine Zbe rfl ?_; refine Zbt ?_; refine Zbd ?_; refine Zbd ?_; refine Zca ?_; refine Zb ?_; refine Zk (.cons (k := 3) rfl (.cons (k := 2) rfl (.cons (k := 0) rfl .nil))) ?_; refine Zj ?_; refine Za (l := [0, 1, 2, 3, 4, 5, 6, 7]) rfl ?_; refine Zc rfl rfl rfl rfl ?_; refine Zas rfl rfl rfl rfl F.elem22 rfl ?_; refine Zao rfl rfl rfl rfl rfl rfl ?_; refine Zc rfl rfl rfl rfl ?_
      refine Zbz 27 rfl (fun hc4 => ?_) (fun hc4 => ?_)
      · first | replace hc4 := dT hc4 | replace hc4 := dF hc4 | replace hc4 := nT hc4 | replace hc4 := nF hc4 | skip
        try simp only [StepL06V.eta] at hc4
        first
        | (exfalso; omega)
        | (exfalso; simp [eqX] at hc4; done)
        | contradiction
        | skip
          refine Zc rfl rfl rfl rfl ?_; refine Zao rfl rfl rfl rfl rfl rfl ?_; refine Zau rfl rfl rfl rfl rfl ?_; refine Ze rfl rfl rfl rfl ?_; refine Zf ?_; refine Zb ?_; refine Zk (.cons (k := 2) rfl .nil) ?_; refine Zag ?_
          refine Zab (.inr rfl) (.tmp rfl .nil) (fun w hw => ?_)
          refine ⟨_, rfl, hw.cnt (by intro zz; first | exact Nat.le_refl _ | (simp only [Zh, Zd, Zi, cat, List.append_eq, List.append_assoc, List.cons_append, List.nil_append, List.append_nil]; omega) | (simp only [Zh, Zd, Zi, cat, List.append_eq, List.append_assoc, List.cons_append, List.nil_append, List.append_nil, StepL06V.segs]; omega)), ?_⟩
          clear hw
          refine congrArg Value.bool ?_
          first
          | (refine (decide_eq_false (fun h9 => ?_)).symm; have h8 : s_l.length ≤ 60 := h9.1; omega)
          | (obtain rfl : k = s_l.length := (by omega); rw [List.take_length]; refine decide_eq_decide.2 ⟨fun h9 => ⟨by show s_l.length ≤ 60; omega, by show sumOps s_l ≤ 2000; omega⟩, fun h9 => ?_⟩; have h8 : sumOps s_l ≤ 2000 := h9.2; omega)
      · first | replace hc4 := dT hc4 | replace hc4 := dF hc4 | replace hc4 := nT hc4 | replace hc4 := nF hc4 | skip
        try simp only [StepL06V.eta] at hc4
        first
        | (exfalso; omega)
        | (exfalso; simp [eqX] at hc4; done)
        | contradiction
        | skip
          refine Zba rfl rfl rfl ?_; refine Zba rfl rfl rfl ?_; refine Zau rfl rfl rfl rfl rfl ?_; refine Ze rfl rfl rfl rfl ?_; refine Zf ?_; refine Zb ?_; refine Zk (.cons (k := 2) rfl .nil) ?_; refine Zag ?_
          refine Zab (.inr rfl) (.tmp rfl .nil) (fun w hw => ?_)
          refine ⟨_, rfl, hw.cnt (by intro zz; first | exact Nat.le_refl _ | (simp only [Zh, Zd, Zi, cat, List.append_eq, List.append_assoc, List.cons_append, List.nil_append, List.append_nil]; omega) | (simp only [Zh, Zd, Zi, cat, List.append_eq, List.append_assoc, List.cons_append, List.nil_append, List.append_nil, StepL06V.segs]; omega)), ?_⟩
          clear hw
          refine congrArg Value.bool ?_
          first
          | (refine (decide_eq_false (fun h9 => ?_)).symm; have h8 : s_l.length ≤ 60 := h9.1; omega)
          | (obtain rfl : k = s_l.length := (by omega); rw [List.take_length]; refine decide_eq_decide.2 ⟨fun h9 => ⟨by show s_l.length ≤ 60; omega, by show sumOps s_l ≤ 2000; omega⟩, fun h9 => ?_⟩; have h8 : sumOps s_l ≤ 2000 := h9.2; omega)
end Go.Proofs.YtbeahcfghjiogaaDoor
namespace Go.Proofs.YtbeahcfghjiogaaDoor
open Go.Esp
theorem F.foff55_0 : foff Tryd.prog 55 0 = some 0 := by kernel_rfl
theorem F.foff55_1 : foff Tryd.prog 55 1 = some 1 := by kernel_rfl
theorem F.foff55_3 : foff Tryd.prog 55 3 = some 3 := by kernel_rfl
theorem F.lay55 : lay Tryd.prog 55 = some (true, 4) := by kernel_rfl
theorem F.ok21 : okFn Tryd.prog 21 = true := by kernel_rfl
theorem F.ok22 : okFn Tryd.prog 22 = true := by kernel_rfl
theorem F.ok25 : okFn Tryd.prog 25 = true := by kernel_rfl
theorem F.ok26 : okFn Tryd.prog 26 = true := by kernel_rfl
theorem F.ok27 : okFn Tryd.prog 27 = true := by kernel_rfl
theorem F.zero55 : zeroOf Tryd.prog 55 = some (aggV [.one (.int .i64 0), .one (.int .i64 0), .one (.string ⟨#[]⟩), .one (.int .i64 0)]) := by kernel_rfl
theorem built_ok (M : Mem) (s : Sl StepL06V) (hs : Scr M s) (hfew : FewP s.l) : Esp.Fn Tryd.prog 8 [s.val] M (fun M' v => ∃ (es : List (Option Err)) (x : Sl Value) (y : Sl TrR), v = .tuple #[x.val, y.val] ∧ Built M' es x y) := by
  have hscr := hs.h
  obtain ⟨s_a, s_c, s_l⟩ := s
  have s_s : SlM M s_a (s_l.map StepL06V.segs) 4 := hs.k.h1
  have n_s : (s_l.map StepL06V.segs).length = s_l.length := List.length_map ..
  have m_s : s_l.length ≤ 9223372036854775807 := hs.k.h2
  simp only at hscr
  refine fn_enter Tryd.func8 rfl Tryd.ntmps8 rfl ?_; intro H
  refine Zj ?_; refine Za (l := [0, 1]) rfl ?_; refine Ze rfl rfl rfl rfl ?_; refine Ze rfl rfl rfl rfl ?_; refine Zf ?_; refine Zb ?_; refine Zj ?_; refine Za (l := [0]) rfl ?_; refine Ze rfl rfl rfl rfl ?_; refine Zf ?_; refine Zb ?_; refine Zj ?_; refine Za (l := [0]) rfl ?_; refine Ze rfl rfl rfl rfl ?_; refine Zf ?_; refine Zb ?_; refine Zj ?_; refine Zj ?_; refine Za (l := [0]) rfl ?_; refine Ze rfl rfl rfl rfl ?_; refine Zf ?_; refine Zb ?_; refine Zaa ?_; refine Zk (.cons (k := 6) rfl (.cons (k := 4) rfl (.cons (k := 5) rfl (.cons (k := 3) rfl (.cons (k := 2) rfl (.cons (k := 0) rfl .nil)))))) ?_; refine C_loopO (Hin := []) (.succ (.succ (.succ .zero))) (by repeat first | exact Rem.here _ | exact Rem.two | apply Rem.skip | apply Rem.over) (fun (k : Nat) M1 h1 z => ∃ (es : List (Option Err)) (ws : List Value) (ts : List TrR) (v4 v5 : Value) (hl hm : Hp), M.le M1 ∧ z = [(6, .int .i64 (k : Int)), (4, v4), (5, v5)] ∧ k ≤ s_l.length ∧ h1 = hl ++ hm ∧ OSl 30 1 v4 hl (ws.map (fun u => ([.one u] : Segs))) ∧ OSl 32 4 v5 hm (ts.map TrR.segs) ∧ OEL M1 es ws ∧ TOL M1 es ts ∧ okS es ∧ wtS es ≤ 34 * k + sumOps (s_l.take k) ∧ es.length ≤ k) (fun k => s_l.length - k) (0) (⟨[], [], [], _, _, [], [], Mem.le.refl M, rfl, by omega, rfl, OSl.nil, OSl.nil, OEL.nil, TOL.nil, fun _ h => (by cases h), by simp [wtS], Nat.le_refl _⟩) ?_
  rintro k M1 h1 z hm1 ⟨es, ws, ts, v4, v5, hl, hm, hle1, rfl, hk, rfl, ho4, ho5, he, ht, hok, hwt, hel⟩
  obtain ⟨ad4, cp4, rfl⟩ := ho4.valL
  obtain ⟨ad5, cp5, rfl⟩ := ho5.valL
  have hlw := he.len
  have hlt := ht.len
  have s_1 : SlM M1 s_a (s_l.map StepL06V.segs) 4 := s_s.mono hle1
  have nw : (ws.map (fun u => ([.one u] : Segs))).length = ws.length := List.length_map ..
  have nt : (ts.map TrR.segs).length = ts.length := List.length_map ..
  have hsc9 : ∀ hk2 : k < s_l.length, s_l[k].op.size ≤ 140737488351232 ∧ -9223372036854775808 ≤ s_l[k].code ∧ s_l[k].code ≤ 9223372036854775807 := fun hk2 => hscr _ (List.getElem_mem hk2)
  have hso9 : ∀ hk2 : k < s_l.length, sumOps (s_l.take (k + 1)) = sumOps (s_l.take k) + s_l[k].op.size := fun hk2 => sumOps_succ hk2
  simp only [List.append_assoc]
  refine Zj ?_; refine Zj ?_
  have hf2 : s_l.length ≤ 60 := hfew.1
  refine Za (l := [0, 1, 2, 3]) rfl ?_; refine Zc rfl rfl rfl rfl ?_; refine Zc rfl rfl rfl rfl ?_; refine Zas rfl rfl rfl rfl F.elem22 rfl ?_; refine Zao rfl rfl rfl rfl rfl rfl ?_; refine Zf ?_; refine Zb ?_
  refine Zx rfl (fun hc1 => ?_) (fun hc1 => ?_)
  · first | replace hc1 := dT hc1 | replace hc1 := dF hc1 | replace hc1 := nT hc1 | replace hc1 := nF hc1 | skip
    try simp only [StepL06V.eta] at hc1
    first
    | (exfalso; omega)
    | (exfalso; simp [eqX] at hc1; done)
    | contradiction
    | skip
      refine Zu ?_; refine Zb ?_; refine Zj ?_; refine Zaa ?_; refine Zj ?_; refine Za (l := [0, 1, 2, 3, 4, 5]) rfl ?_; refine Zc rfl rfl rfl rfl ?_; refine Zc rfl rfl rfl rfl ?_; refine Zn rfl rfl rfl rfl F.elem22 (by first | rfl | exact (Int.toNat_of_nonneg (by omega)).symm) (by first | omega | (simp; done) | (simp; omega)) (by first | exact ⟨_, _, rfl⟩ | assumption | exact SlM.plain (by assumption) (by first | (simp; done) | (simp; omega)) | exact RdS.plain (by assumption) (by first | (simp; done) | (simp; omega)) | exact OSl.plain (by assumption) (by first | (simp; done) | (simp; omega))) rfl ?_
      first | refine Zan rfl rfl rfl (by repeat first | exact List.Mem.head _ | refine List.Mem.tail _ ?_ | refine List.mem_append_right _ ?_) F.lay55 rfl rfl rfl ?_ | refine Zs rfl rfl rfl (by first | assumption | exact SlM.mono (by assumption) (by assumption)) (by first | exact Zg (by omega) | exact List.getElem?_eq_getElem (by omega) | exact rfl | exact Zg (by first | (simp; done) | (simp; omega))) F.lay55 rfl rfl rfl ?_ | refine Zr rfl rfl rfl (by assumption) (by first | exact Zg (by omega) | exact List.getElem?_eq_getElem (by omega) | exact rfl | exact Zg (by first | (simp; done) | (simp; omega))) F.lay55 rfl rfl rfl ?_ | refine Zp rfl rfl rfl (by first | assumption | exact Mem.get_of (by assumption) (by repeat first | assumption | refine Mem.le.trans (by assumption) ?_)) F.lay55 rfl rfl rfl ?_ | refine Zo rfl rfl rfl (by assumption) (by repeat first | exact Rem.here _ | exact Rem.two | apply Rem.skip | apply Rem.over) (by first | exact Zg (by omega) | exact List.getElem?_eq_getElem (by omega) | exact rfl | exact Zg (by first | (simp; done) | (simp; omega))) F.lay55 rfl rfl rfl ?_
      refine Zbf 23 rfl (show _ = aggV [.one (.int .i64 s_l[k].kind), .one (.int .i64 s_l[k].code), .one (.string s_l[k].op), .one (.int .i64 s_l[k].n)] from rfl) ?_
      refine Zbw rfl rfl F.zero55 (by constructor) rfl ?_; intro b2
      refine Zbv rfl rfl rfl rfl (by constructor) (by first | ((try simp only [cat, List.cons_append, List.nil_append, List.append_nil]); (repeat (first | exact Zap | refine Zbi ?_ | (refine Zaf ?_ ?_; rfl))); done) | exact StepL06V.flat _ | exact StepL06V.flat ⟨_, _, _, _⟩ | exact TrR.flat _ | (simp [flat, cat, Segs.cells, Seg.cells, Value.oneCell']; done)) (by repeat first | exact Upd.head | apply Upd.tail | apply Upd.over) F.lay55 rfl rfl ?_; refine Zf ?_; refine Zb ?_; refine Zj ?_; refine Za (l := [0, 1, 2, 3]) rfl ?_; refine Zc rfl rfl rfl rfl ?_; refine Zas rfl rfl rfl rfl F.elem25 rfl ?_; refine Zai rfl rfl rfl rfl rfl (by first | exact Zt (by decide) (by omega) | exact Zz (by decide) (by omega) | exact Zae (by decide) (by omega) | exact Zm (by decide) (by omega) | exact Zah _ | exact Zay _ | exact Zak _ | exact rfl) rfl ?_
      refine Ze rfl rfl rfl rfl ?_; refine Zf ?_; refine Zb ?_; refine Zj ?_; refine Za (l := [0, 1]) rfl ?_
      first | refine Zad rfl rfl rfl F.foff55_0 rfl ?_ | refine Zv rfl rfl rfl (by first | exact ⟨_, _, rfl⟩ | assumption | exact SlM.plain (by assumption) (by first | (simp; done) | (simp; omega)) | exact RdS.plain (by assumption) (by first | (simp; done) | (simp; omega)) | exact OSl.plain (by assumption) (by first | (simp; done) | (simp; omega))) F.foff55_0 rfl ?_
      first | refine Zan rfl rfl rfl (by repeat first | exact List.Mem.head _ | refine List.Mem.tail _ ?_ | refine List.mem_append_right _ ?_) F.lay3 rfl rfl rfl ?_ | refine Zs rfl rfl rfl (by first | assumption | exact SlM.mono (by assumption) (by assumption)) (by first | exact Zg (by omega) | exact List.getElem?_eq_getElem (by omega) | exact rfl | exact Zg (by first | (simp; done) | (simp; omega))) F.lay3 rfl rfl rfl ?_ | refine Zr rfl rfl rfl (by assumption) (by first | exact Zg (by omega) | exact List.getElem?_eq_getElem (by omega) | exact rfl | exact Zg (by first | (simp; done) | (simp; omega))) F.lay3 rfl rfl rfl ?_ | refine Zp rfl rfl rfl (by first | assumption | exact Mem.get_of (by assumption) (by repeat first | assumption | refine Mem.le.trans (by assumption) ?_)) F.lay3 rfl rfl rfl ?_ | refine Zo rfl rfl rfl (by assumption) (by repeat first | exact Rem.here _ | exact Rem.two | apply Rem.skip | apply Rem.over) (by first | exact Zg (by omega) | exact List.getElem?_eq_getElem (by omega) | exact rfl | exact Zg (by first | (simp; done) | (simp; omega))) F.lay3 rfl rfl rfl ?_ | refine Zq rfl rfl rfl (by repeat first | exact List.Mem.head _ | refine List.Mem.tail _ ?_ | refine List.mem_append_right _ ?_) F.lay3 (by first | exact Zbj (by first | omega | decide) | exact Zax (by first | omega | decide)) rfl ?_
      refine Zf ?_; refine Zb ?_; refine Zaa ?_; refine Zj ?_; refine Za (l := [0, 1]) rfl ?_; refine Zao rfl rfl rfl rfl rfl rfl ?_; refine Ze rfl rfl rfl rfl ?_; refine Zf ?_; refine Zb ?_
      refine Zx rfl (fun hc3 => ?_) (fun hc3 => ?_)
      · first | replace hc3 := dT hc3 | replace hc3 := dF hc3 | replace hc3 := nT hc3 | replace hc3 := nF hc3 | skip
        try simp only [StepL06V.eta] at hc3
        first
        | (exfalso; omega)
        | (exfalso; simp [eqX] at hc3; done)
        | contradiction
        | skip
          refine Zj ?_; refine Za (l := [0, 1, 2, 3, 4, 5, 6]) rfl ?_; refine Zc rfl rfl rfl rfl ?_
          first | refine Zad rfl rfl rfl F.foff55_1 rfl ?_ | refine Zv rfl rfl rfl (by first | exact ⟨_, _, rfl⟩ | assumption | exact SlM.plain (by assumption) (by first | (simp; done) | (simp; omega)) | exact RdS.plain (by assumption) (by first | (simp; done) | (simp; omega)) | exact OSl.plain (by assumption) (by first | (simp; done) | (simp; omega))) F.foff55_1 rfl ?_
          first | refine Zan rfl rfl rfl (by repeat first | exact List.Mem.head _ | refine List.Mem.tail _ ?_ | refine List.mem_append_right _ ?_) F.lay23 rfl rfl rfl ?_ | refine Zs rfl rfl rfl (by first | assumption | exact SlM.mono (by assumption) (by assumption)) (by first | exact Zg (by omega) | exact List.getElem?_eq_getElem (by omega) | exact rfl | exact Zg (by first | (simp; done) | (simp; omega))) F.lay23 rfl rfl rfl ?_ | refine Zr rfl rfl rfl (by assumption) (by first | exact Zg (by omega) | exact List.getElem?_eq_getElem (by omega) | exact rfl | exact Zg (by first | (simp; done) | (simp; omega))) F.lay23 rfl rfl rfl ?_ | refine Zp rfl rfl rfl (by first | assumption | exact Mem.get_of (by assumption) (by repeat first | assumption | refine Mem.le.trans (by assumption) ?_)) F.lay23 rfl rfl rfl ?_ | refine Zo rfl rfl rfl (by assumption) (by repeat first | exact Rem.here _ | exact Rem.two | apply Rem.skip | apply Rem.over) (by first | exact Zg (by omega) | exact List.getElem?_eq_getElem (by omega) | exact rfl | exact Zg (by first | (simp; done) | (simp; omega))) F.lay23 rfl rfl rfl ?_ | refine Zq rfl rfl rfl (by repeat first | exact List.Mem.head _ | refine List.Mem.tail _ ?_ | refine List.mem_append_right _ ?_) F.lay23 (by first | exact Zbj (by first | omega | decide) | exact Zax (by first | omega | decide)) rfl ?_
          refine X_fs rfl rfl F.ok23 rfl (bNew_ok _ _) rfl ?_
          rintro _ rfl
          refine Zal rfl rfl F.elem25 F.zero30 rfl rfl (.cons rfl (parts_if (OE.form (newE_ok M1 _))) .nil) rfl rfl (by simp only [List.map_cons, List.map_nil] <;> rfl) rfl ?_; intro b42 hob42
          refine Zbp (m := 1000000) rfl rfl rfl rfl rfl F.elem25 F.zero30 (by first | rfl | exact Zbm rfl) rfl (by first | assumption | exact OSl.nil) (by repeat first | exact Rem.here _ | exact Rem.two | apply Rem.skip | apply Rem.over) (Src.own hob42.lens (Zar (Zaf (OE.one (newE_ok M1 _)) Zap)) rfl (by repeat first | exact List.Mem.head _ | refine List.Mem.tail _ ?_ | refine List.mem_append_right _ ?_)) (by first | omega | (simp; done) | (simp; omega)) (by decide) rfl ?_; intro v6 hs5 ho4; obtain ⟨adv6, cpv6, rfl⟩ := ho4.val
          skip
          refine Ze rfl rfl rfl rfl ?_; refine Zf ?_; refine Zb ?_; refine Za (l := [0, 1, 2, 3, 4, 5, 6]) rfl ?_; refine Zc rfl rfl rfl rfl ?_
          first | refine Zad rfl rfl rfl F.foff55_1 rfl ?_ | refine Zv rfl rfl rfl (by first | exact ⟨_, _, rfl⟩ | assumption | exact SlM.plain (by assumption) (by first | (simp; done) | (simp; omega)) | exact RdS.plain (by assumption) (by first | (simp; done) | (simp; omega)) | exact OSl.plain (by assumption) (by first | (simp; done) | (simp; omega))) F.foff55_1 rfl ?_
          first | refine Zan rfl rfl rfl (by repeat first | exact List.Mem.head _ | refine List.Mem.tail _ ?_ | refine List.mem_append_right _ ?_) F.lay23 rfl rfl rfl ?_ | refine Zs rfl rfl rfl (by first | assumption | exact SlM.mono (by assumption) (by assumption)) (by first | exact Zg (by omega) | exact List.getElem?_eq_getElem (by omega) | exact rfl | exact Zg (by first | (simp; done) | (simp; omega))) F.lay23 rfl rfl rfl ?_ | refine Zr rfl rfl rfl (by assumption) (by first | exact Zg (by omega) | exact List.getElem?_eq_getElem (by omega) | exact rfl | exact Zg (by first | (simp; done) | (simp; omega))) F.lay23 rfl rfl rfl ?_ | refine Zp rfl rfl rfl (by first | assumption | exact Mem.get_of (by assumption) (by repeat first | assumption | refine Mem.le.trans (by assumption) ?_)) F.lay23 rfl rfl rfl ?_ | refine Zo rfl rfl rfl (by assumption) (by repeat first | exact Rem.here _ | exact Rem.two | apply Rem.skip | apply Rem.over) (by first | exact Zg (by omega) | exact List.getElem?_eq_getElem (by omega) | exact rfl | exact Zg (by first | (simp; done) | (simp; omega))) F.lay23 rfl rfl rfl ?_ | refine Zq rfl rfl rfl (by repeat first | exact List.Mem.head _ | refine List.Mem.tail _ ?_ | refine List.mem_append_right _ ?_) F.lay23 (by first | exact Zbj (by first | omega | decide) | exact Zax (by first | omega | decide)) rfl ?_
          refine X_fs rfl rfl F.ok25 rfl (rNew_ok _ _) rfl ?_
          rintro _ rfl
          refine Zal rfl rfl F.elem26 F.zero32 rfl rfl (.cons rfl (by constructor) .nil) rfl rfl (by simp only [List.map_cons, List.map_nil] <;> rfl) rfl ?_; intro b7 hob8
          refine Zbp (m := 1000000) rfl rfl rfl rfl rfl F.elem26 F.zero32 (by first | rfl | exact Zbm rfl) rfl (by first | assumption | exact OSl.nil) (by repeat first | exact Rem.here _ | exact Rem.two | apply Rem.skip | apply Rem.over) (Src.own hob8.lens (by first | exact StepL06V.flat1 _ | exact StepL06V.flat1 ⟨_, _, _, _⟩ | exact TrR.flat1 _ | (refine Zar ?_; (repeat (first | exact Zap | refine Zbi ?_ | (refine Zaf ?_ ?_; rfl))); done) | (refine Zar ?_; exact PeerV.flat _) | (simp [rowsCells, Segs.cells, Seg.cells, Value.oneCell']; done)) rfl (by repeat first | exact List.Mem.head _ | refine List.Mem.tail _ ?_ | refine List.mem_append_right _ ?_)) (by first | omega | (simp; done) | (simp; omega)) (by decide) rfl ?_; intro v11 hs10 ho9; obtain ⟨adv11, cpv11, rfl⟩ := ho9.val
          skip
          refine Ze rfl rfl rfl rfl ?_; refine Zf ?_; refine Zbk ?_; refine Zbk ?_; refine Zb ?_; refine Za (l := [0, 1, 2]) rfl ?_; refine Zc rfl rfl rfl rfl ?_; refine Zai rfl rfl rfl rfl rfl (by first | exact Zt (by decide) (by omega) | exact Zz (by decide) (by omega) | exact Zae (by decide) (by omega) | exact Zm (by decide) (by omega) | exact Zah _ | exact Zay _ | exact Zak _ | exact rfl) rfl ?_; refine Ze rfl rfl rfl rfl ?_; refine Zf ?_; refine Zbg (a' := [(6, _), (4, _), (5, _)]) (k + 1) (hs5 ++ hs10) (.cons (k := 6) rfl (.cons (k := 4) rfl (.cons (k := 5) rfl (.cons (k := 3) rfl (.cons (k := 2) rfl (.cons (k := 0) rfl (.nil))))))) (show M.le M1 from hm1) (fun w hw => by first | exact hw | exact hw.cnt (by intro zz; first | exact Nat.le_refl _ | (simp only [Zh, Zd, Zi, cat, List.append_eq, List.append_assoc, List.cons_append, List.nil_append, List.append_nil]; omega) | (simp only [Zh, Zd, Zi, cat, List.append_eq, List.append_assoc, List.cons_append, List.nil_append, List.append_nil, StepL06V.segs]; omega))) ?_ ?_
          · refine ⟨es ++ [newO s_l[k].code], ws ++ [newE s_l[k].code], ts ++ [newT s_l[k].code], _, _, hs5, hs10, hle1, rfl, by omega, rfl, ?_, ?_, he.app (OEL.one (show OE M1 (newO s_l[k].code) (newE s_l[k].code) from newE_ok M1 _)), ht.app (TOL.one (show TO M1 (newO s_l[k].code) (newT s_l[k].code) from newT_ok M1 _)), okS_app hok (okS_one (okO_new (hsc9 (by omega)).2.1 (hsc9 (by omega)).2.2)), ?_, ?_⟩
            · rw [List.map_append]; exact ho4
            · rw [List.map_append]; exact ho9
            · have h9 := hso9 (by omega); have h8 := wtS_app es [newO s_l[k].code]; have h7 := wt_new s_l[k].code; simp only [wtS, wtO] at h8 h7 ⊢; omega
            · simp only [List.length_append, List.length_singleton]; omega
          · omega
      · first | replace hc3 := dT hc3 | replace hc3 := dF hc3 | replace hc3 := nT hc3 | replace hc3 := nF hc3 | skip
        try simp only [StepL06V.eta] at hc3
        first
        | (exfalso; omega)
        | (exfalso; simp [eqX] at hc3; done)
        | contradiction
        | skip
          refine Zj ?_; refine Za (l := [0, 1]) rfl ?_; refine Zao rfl rfl rfl rfl rfl rfl ?_; refine Ze rfl rfl rfl rfl ?_; refine Zf ?_; refine Zb ?_
          refine Zx rfl (fun hc12 => ?_) (fun hc12 => ?_)
          · first | replace hc12 := dT hc12 | replace hc12 := dF hc12 | replace hc12 := nT hc12 | replace hc12 := nF hc12 | skip
            try simp only [StepL06V.eta] at hc12
            first
            | (exfalso; omega)
            | (exfalso; simp [eqX] at hc12; done)
            | contradiction
            | skip
              refine Zj ?_; refine Za (l := [0, 1]) rfl ?_; refine Zc rfl rfl rfl rfl ?_; refine Zao rfl rfl rfl rfl rfl rfl ?_; refine Zf ?_; refine Zb ?_
              refine Zx rfl (fun hc13 => ?_) (fun hc13 => ?_)
              · first | replace hc13 := dT hc13 | replace hc13 := dF hc13 | replace hc13 := nT hc13 | replace hc13 := nF hc13 | skip
                try simp only [StepL06V.eta] at hc13
                first
                | (exfalso; omega)
                | (exfalso; simp [eqX] at hc13; done)
                | contradiction
                | skip
                  refine Zj ?_
                  obtain ⟨j9, hj9⟩ : ∃ j : Nat, (ws.length : Int) - 1 = (j : Int) := ⟨((ws.length : Int) - 1).toNat, by omega⟩
                  rw [hj9]
                  obtain ⟨b4, rfl⟩ := ho4.addr (by omega)
                  obtain ⟨b5, rfl⟩ := ho5.addr (by omega)
                  refine Zav (l := [0, 1, 2, 3, 4, 5, 6, 7, 8, 9, 10]) #[0, 0, 0, 4, 0, 0, 48, 112, 252, 511, 1023] _ rfl (by kernel_rfl) (by kernel_rfl) St.drawn (fun _ h => h) ?_; refine Zc rfl rfl rfl rfl ?_; refine Zc rfl rfl rfl rfl ?_
                  first | refine Zad rfl rfl rfl F.foff55_2 rfl ?_ | refine Zv rfl rfl rfl (by first | exact ⟨_, _, rfl⟩ | assumption | exact SlM.plain (by assumption) (by first | (simp; done) | (simp; omega)) | exact RdS.plain (by assumption) (by first | (simp; done) | (simp; omega)) | exact OSl.plain (by assumption) (by first | (simp; done) | (simp; omega))) F.foff55_2 rfl ?_
                  first | refine Zan rfl rfl rfl (by repeat first | exact List.Mem.head _ | refine List.Mem.tail _ ?_ | refine List.mem_append_right _ ?_) F.lay9 rfl rfl rfl ?_ | refine Zs rfl rfl rfl (by first | assumption | exact SlM.mono (by assumption) (by assumption)) (by first | exact Zg (by omega) | exact List.getElem?_eq_getElem (by omega) | exact rfl | exact Zg (by first | (simp; done) | (simp; omega))) F.lay9 rfl rfl rfl ?_ | refine Zr rfl rfl rfl (by assumption) (by first | exact Zg (by omega) | exact List.getElem?_eq_getElem (by omega) | exact rfl | exact Zg (by first | (simp; done) | (simp; omega))) F.lay9 rfl rfl rfl ?_ | refine Zp rfl rfl rfl (by first | assumption | exact Mem.get_of (by assumption) (by repeat first | assumption | refine Mem.le.trans (by assumption) ?_)) F.lay9 rfl rfl rfl ?_ | refine Zo rfl rfl rfl (by assumption) (by repeat first | exact Rem.here _ | exact Rem.two | apply Rem.skip | apply Rem.over) (by first | exact Zg (by omega) | exact List.getElem?_eq_getElem (by omega) | exact rfl | exact Zg (by first | (simp; done) | (simp; omega))) F.lay9 rfl rfl rfl ?_ | refine Zq rfl rfl rfl (by repeat first | exact List.Mem.head _ | refine List.Mem.tail _ ?_ | refine List.mem_append_right _ ?_) F.lay9 (by first | exact Zbj (by first | omega | decide) | exact Zax (by first | omega | decide)) rfl ?_
                  refine Zc rfl rfl rfl rfl ?_; refine Zc rfl rfl rfl rfl ?_; refine Zn rfl rfl rfl rfl F.elem25 (by first | rfl | exact (Int.toNat_of_nonneg (by omega)).symm) (by first | omega | (simp; done) | (simp; omega)) (by first | exact ⟨_, _, rfl⟩ | assumption | exact SlM.plain (by assumption) (by first | (simp; done) | (simp; omega)) | exact RdS.plain (by assumption) (by first | (simp; done) | (simp; omega)) | exact OSl.plain (by assumption) (by first | (simp; done) | (simp; omega))) rfl ?_
                  first | refine Zan rfl rfl rfl (by repeat first | exact List.Mem.head _ | refine List.Mem.tail _ ?_ | refine List.mem_append_right _ ?_) F.lay30 rfl rfl rfl ?_ | refine Zs rfl rfl rfl (by first | assumption | exact SlM.mono (by assumption) (by assumption)) (by first | exact Zg (by omega) | exact List.getElem?_eq_getElem (by omega) | exact rfl | exact Zg (by first | (simp; done) | (simp; omega))) F.lay30 rfl rfl rfl ?_ | refine Zr rfl rfl rfl (by assumption) (by first | exact Zg (by omega) | exact List.getElem?_eq_getElem (by omega) | exact rfl | exact Zg (by first | (simp; done) | (simp; omega))) F.lay30 rfl rfl rfl ?_ | refine Zp rfl rfl rfl (by first | assumption | exact Mem.get_of (by assumption) (by repeat first | assumption | refine Mem.le.trans (by assumption) ?_)) F.lay30 rfl rfl rfl ?_ | refine Zo rfl rfl rfl (by assumption) (by repeat first | exact Rem.here _ | exact Rem.two | apply Rem.skip | apply Rem.over) (by first | exact Zg (by omega) | exact List.getElem?_eq_getElem (by omega) | exact rfl | exact Zg (by first | (simp; done) | (simp; omega))) F.lay30 rfl rfl rfl ?_ | refine Zq rfl rfl rfl (by repeat first | exact List.Mem.head _ | refine List.Mem.tail _ ?_ | refine List.mem_append_right _ ?_) F.lay30 (by first | exact Zbj (by first | omega | decide) | exact Zax (by first | omega | decide)) rfl ?_
                  refine X_fn rfl rfl F.ok21 rfl (bWrap_o M1 _ _ _ (he.at_ j9 (by omega) (by omega))) rfl ?_
                  rintro v9 M2 hM2 hv9
                  refine Zn rfl rfl rfl rfl F.elem25 (by first | rfl | exact (Int.toNat_of_nonneg (by omega)).symm) (by first | omega | (simp; done) | (simp; omega)) (by first | exact ⟨_, _, rfl⟩ | assumption | exact SlM.plain (by assumption) (by first | (simp; done) | (simp; omega)) | exact RdS.plain (by assumption) (by first | (simp; done) | (simp; omega)) | exact OSl.plain (by assumption) (by first | (simp; done) | (simp; omega))) rfl ?_
                  refine X_storeO (b := b4) (j := j9) rfl rfl rfl rfl (parts_if (OE.form hv9)) (Zaf (OE.one hv9) Zap) F.lay30 rfl rfl ho4 (by repeat first | exact Rem.here _ | exact Rem.two | apply Rem.skip | apply Rem.over) (by omega) ?_; intro hs4 ho42
                  replace ho42 : OSl 30 1 (.slice (some ⟨b4, 0, none⟩) ws.length cp4) hs4 ((ws.set j9 v9).map (fun u => ([.one u] : Segs))) := by rw [List.map_set]; exact ho42.aZ (by simp)
                  refine Zf ?_; refine Zb ?_; refine Zav (l := [0, 1, 2, 3, 4, 5, 6, 7, 8, 9, 10]) #[0, 0, 0, 4, 0, 0, 48, 112, 252, 511, 1023] _ rfl (by kernel_rfl) (by kernel_rfl) St.drawn (fun _ h => h) ?_; refine Zc rfl rfl rfl rfl ?_; refine Zc rfl rfl rfl rfl ?_
                  first | refine Zad rfl rfl rfl F.foff55_2 rfl ?_ | refine Zv rfl rfl rfl (by first | exact ⟨_, _, rfl⟩ | assumption | exact SlM.plain (by assumption) (by first | (simp; done) | (simp; omega)) | exact RdS.plain (by assumption) (by first | (simp; done) | (simp; omega)) | exact OSl.plain (by assumption) (by first | (simp; done) | (simp; omega))) F.foff55_2 rfl ?_
                  first | refine Zan rfl rfl rfl (by repeat first | exact List.Mem.head _ | refine List.Mem.tail _ ?_ | refine List.mem_append_right _ ?_) F.lay9 rfl rfl rfl ?_ | refine Zs rfl rfl rfl (by first | assumption | exact SlM.mono (by assumption) (by assumption)) (by first | exact Zg (by omega) | exact List.getElem?_eq_getElem (by omega) | exact rfl | exact Zg (by first | (simp; done) | (simp; omega))) F.lay9 rfl rfl rfl ?_ | refine Zr rfl rfl rfl (by assumption) (by first | exact Zg (by omega) | exact List.getElem?_eq_getElem (by omega) | exact rfl | exact Zg (by first | (simp; done) | (simp; omega))) F.lay9 rfl rfl rfl ?_ | refine Zp rfl rfl rfl (by first | assumption | exact Mem.get_of (by assumption) (by repeat first | assumption | refine Mem.le.trans (by assumption) ?_)) F.lay9 rfl rfl rfl ?_ | refine Zo rfl rfl rfl (by assumption) (by repeat first | exact Rem.here _ | exact Rem.two | apply Rem.skip | apply Rem.over) (by first | exact Zg (by omega) | exact List.getElem?_eq_getElem (by omega) | exact rfl | exact Zg (by first | (simp; done) | (simp; omega))) F.lay9 rfl rfl rfl ?_ | refine Zq rfl rfl rfl (by repeat first | exact List.Mem.head _ | refine List.Mem.tail _ ?_ | refine List.mem_append_right _ ?_) F.lay9 (by first | exact Zbj (by first | omega | decide) | exact Zax (by first | omega | decide)) rfl ?_
                  refine Zc rfl rfl rfl rfl ?_; refine Zc rfl rfl rfl rfl ?_; refine Zn rfl rfl rfl rfl F.elem26 (by first | rfl | exact (Int.toNat_of_nonneg (by omega)).symm) (by first | omega | (simp; done) | (simp; omega)) (by first | exact ⟨_, _, rfl⟩ | assumption | exact SlM.plain (by assumption) (by first | (simp; done) | (simp; omega)) | exact RdS.plain (by assumption) (by first | (simp; done) | (simp; omega)) | exact OSl.plain (by assumption) (by first | (simp; done) | (simp; omega))) rfl ?_
                  first | refine Zan rfl rfl rfl (by repeat first | exact List.Mem.head _ | refine List.Mem.tail _ ?_ | refine List.mem_append_right _ ?_) F.lay32 rfl rfl rfl ?_ | refine Zs rfl rfl rfl (by first | assumption | exact SlM.mono (by assumption) (by assumption)) (by first | exact Zg (by omega) | exact List.getElem?_eq_getElem (by omega) | exact rfl | exact Zg (by first | (simp; done) | (simp; omega))) F.lay32 rfl rfl rfl ?_ | refine Zr rfl rfl rfl (by assumption) (by first | exact Zg (by omega) | exact List.getElem?_eq_getElem (by omega) | exact rfl | exact Zg (by first | (simp; done) | (simp; omega))) F.lay32 rfl rfl rfl ?_ | refine Zp rfl rfl rfl (by first | assumption | exact Mem.get_of (by assumption) (by repeat first | assumption | refine Mem.le.trans (by assumption) ?_)) F.lay32 rfl rfl rfl ?_ | refine Zo rfl rfl rfl (by assumption) (by repeat first | exact Rem.here _ | exact Rem.two | apply Rem.skip | apply Rem.over) (by first | exact Zg (by omega) | exact List.getElem?_eq_getElem (by omega) | exact rfl | exact Zg (by first | (simp; done) | (simp; omega))) F.lay32 rfl rfl rfl ?_
                  refine X_fn rfl rfl F.ok26 rfl (rWrap_ok M2 _ _ ts[j9] ((ht.at_ j9 (by omega) (by omega)).mono hM2)) rfl ?_
                  rintro _ M3 hM3 ⟨t9, rfl, ht9⟩
                  refine Zn rfl rfl rfl rfl F.elem26 (by first | rfl | exact (Int.toNat_of_nonneg (by omega)).symm) (by first | omega | (simp; done) | (simp; omega)) (by first | exact ⟨_, _, rfl⟩ | assumption | exact SlM.plain (by assumption) (by first | (simp; done) | (simp; omega)) | exact RdS.plain (by assumption) (by first | (simp; done) | (simp; omega)) | exact OSl.plain (by assumption) (by first | (simp; done) | (simp; omega))) rfl ?_
                  refine X_storeO (b := b5) (j := j9) rfl rfl rfl rfl (by constructor) (TrR.flat t9) F.lay32 (TrR.len t9) rfl ho5 (by repeat first | exact Rem.here _ | exact Rem.two | apply Rem.skip | apply Rem.over) (by omega) ?_; intro hs5 ho52
                  replace ho52 : OSl 32 4 (.slice (some ⟨b5, 0, none⟩) ts.length cp5) hs5 ((ts.set j9 t9).map TrR.segs) := by rw [List.map_set]; exact ho52.aZ (by simp)
                  refine Zf ?_; refine Zbk ?_; refine Zbk ?_; refine Zb ?_; refine Za (l := [0, 1, 2]) rfl ?_; refine Zc rfl rfl rfl rfl ?_; refine Zai rfl rfl rfl rfl rfl (by first | exact Zt (by decide) (by omega) | exact Zz (by decide) (by omega) | exact Zae (by decide) (by omega) | exact Zm (by decide) (by omega) | exact Zah _ | exact Zay _ | exact Zak _ | exact rfl) rfl ?_; refine Ze rfl rfl rfl rfl ?_; refine Zf ?_; refine Zbg (a' := [(6, _), (4, _), (5, _)]) (k + 1) (hs4 ++ hs5) (.cons (k := 6) rfl (.cons (k := 4) rfl (.cons (k := 5) rfl (.cons (k := 3) rfl (.cons (k := 2) rfl (.cons (k := 0) rfl (.nil))))))) (show M.le M3 from hm1.trans (hM2.trans hM3)) (fun w hw => by first | exact hw | exact hw.cnt (by intro zz; first | exact Nat.le_refl _ | (simp only [Zh, Zd, Zi, cat, List.append_eq, List.append_assoc, List.cons_append, List.nil_append, List.append_nil]; omega) | (simp only [Zh, Zd, Zi, cat, List.append_eq, List.append_assoc, List.cons_append, List.nil_append, List.append_nil, StepL06V.segs]; omega))) ?_ ?_
                  · refine ⟨es.set j9 (wrapO s_l[k].op es[j9]), ws.set j9 v9, ts.set j9 t9, _, _, hs4, hs5, hle1.trans (hM2.trans hM3), rfl, by omega, rfl, ho42, ho52, ((he.mono hM2).set hv9).mono hM3, ((ht.mono hM2).mono hM3).set ht9, okS_set hok (okO_wrap (hok _ (List.getElem_mem _))), ?_, ?_⟩
                    · have h9 := hso9 (by omega); have h8 := wtS_set (l := es) (k := j9) (o := wrapO s_l[k].op es[j9]) (by omega); have h7 := wt_wrap s_l[k].op es[j9]; omega
                    · rw [List.length_set]; omega
                  · omega
              · first | replace hc13 := dT hc13 | replace hc13 := dF hc13 | replace hc13 := nT hc13 | replace hc13 := nF hc13 | skip
                try simp only [StepL06V.eta] at hc13
                first
                | (exfalso; omega)
                | (exfalso; simp [eqX] at hc13; done)
                | contradiction
                | skip
                  refine Zu ?_; refine Zbk ?_; refine Zbk ?_; refine Zb ?_; refine Za (l := [0, 1, 2]) rfl ?_; refine Zc rfl rfl rfl rfl ?_; refine Zai rfl rfl rfl rfl rfl (by first | exact Zt (by decide) (by omega) | exact Zz (by decide) (by omega) | exact Zae (by decide) (by omega) | exact Zm (by decide) (by omega) | exact Zah _ | exact Zay _ | exact Zak _ | exact rfl) rfl ?_; refine Ze rfl rfl rfl rfl ?_; refine Zf ?_; refine Zbg (a' := [(6, _), (4, _), (5, _)]) (k + 1) (hl ++ hm) (.cons (k := 6) rfl (.cons (k := 4) rfl (.cons (k := 5) rfl (.cons (k := 3) rfl (.cons (k := 2) rfl (.cons (k := 0) rfl (.nil))))))) (show M.le M1 from hm1) (fun w hw => by first | exact hw | exact hw.cnt (by intro zz; first | exact Nat.le_refl _ | (simp only [Zh, Zd, Zi, cat, List.append_eq, List.append_assoc, List.cons_append, List.nil_append, List.append_nil]; omega) | (simp only [Zh, Zd, Zi, cat, List.append_eq, List.append_assoc, List.cons_append, List.nil_append, List.append_nil, StepL06V.segs]; omega))) ?_ ?_
                  · refine ⟨es, ws, ts, _, _, hl, hm, hle1, rfl, by omega, rfl, ho4, ho5, he, ht, hok, ?_, by omega⟩
                    have h9 := hso9 (by omega); omega
                  · omega
          · first | replace hc12 := dT hc12 | replace hc12 := dF hc12 | replace hc12 := nT hc12 | replace hc12 := nF hc12 | skip
            try simp only [StepL06V.eta] at hc12
            first
            | (exfalso; omega)
            | (exfalso; simp [eqX] at hc12; done)
            | contradiction
            | skip
              refine Zj ?_; refine Za (l := [0, 1]) rfl ?_; refine Zao rfl rfl rfl rfl rfl rfl ?_; refine Ze rfl rfl rfl rfl ?_; refine Zf ?_; refine Zb ?_
              refine Zx rfl (fun hc14 => ?_) (fun hc14 => ?_)
              · first | replace hc14 := dT hc14 | replace hc14 := dF hc14 | replace hc14 := nT hc14 | replace hc14 := nF hc14 | skip
                try simp only [StepL06V.eta] at hc14
                first
                | (exfalso; omega)
                | (exfalso; simp [eqX] at hc14; done)
                | contradiction
                | skip
                  refine Zj ?_; refine Za (l := [0, 1, 2, 3, 4, 5, 6, 7, 8, 9]) rfl ?_
                  first | refine Zad rfl rfl rfl F.foff55_3 rfl ?_ | refine Zv rfl rfl rfl (by first | exact ⟨_, _, rfl⟩ | assumption | exact SlM.plain (by assumption) (by first | (simp; done) | (simp; omega)) | exact RdS.plain (by assumption) (by first | (simp; done) | (simp; omega)) | exact OSl.plain (by assumption) (by first | (simp; done) | (simp; omega))) F.foff55_3 rfl ?_
                  first | refine Zan rfl rfl rfl (by repeat first | exact List.Mem.head _ | refine List.Mem.tail _ ?_ | refine List.mem_append_right _ ?_) F.lay3 rfl rfl rfl ?_ | refine Zs rfl rfl rfl (by first | assumption | exact SlM.mono (by assumption) (by assumption)) (by first | exact Zg (by omega) | exact List.getElem?_eq_getElem (by omega) | exact rfl | exact Zg (by first | (simp; done) | (simp; omega))) F.lay3 rfl rfl rfl ?_ | refine Zr rfl rfl rfl (by assumption) (by first | exact Zg (by omega) | exact List.getElem?_eq_getElem (by omega) | exact rfl | exact Zg (by first | (simp; done) | (simp; omega))) F.lay3 rfl rfl rfl ?_ | refine Zp rfl rfl rfl (by first | assumption | exact Mem.get_of (by assumption) (by repeat first | assumption | refine Mem.le.trans (by assumption) ?_)) F.lay3 rfl rfl rfl ?_ | refine Zo rfl rfl rfl (by assumption) (by repeat first | exact Rem.here _ | exact Rem.two | apply Rem.skip | apply Rem.over) (by first | exact Zg (by omega) | exact List.getElem?_eq_getElem (by omega) | exact rfl | exact Zg (by first | (simp; done) | (simp; omega))) F.lay3 rfl rfl rfl ?_ | refine Zq rfl rfl rfl (by repeat first | exact List.Mem.head _ | refine List.Mem.tail _ ?_ | refine List.mem_append_right _ ?_) F.lay3 (by first | exact Zbj (by first | omega | decide) | exact Zax (by first | omega | decide)) rfl ?_
                  refine Zao rfl rfl rfl rfl rfl rfl ?_; refine Zc rfl rfl rfl rfl ?_
                  refine Zbz 79 rfl (fun hc15 => ?_) (fun hc15 => ?_)
                  · first | replace hc15 := dT hc15 | replace hc15 := dF hc15 | replace hc15 := nT hc15 | replace hc15 := nF hc15 | skip
                    try simp only [StepL06V.eta] at hc15
                    first
                    | (exfalso; omega)
                    | (exfalso; simp [eqX] at hc15; done)
                    | contradiction
                    | skip
                      first | refine Zad rfl rfl rfl F.foff55_3 rfl ?_ | refine Zv rfl rfl rfl (by first | exact ⟨_, _, rfl⟩ | assumption | exact SlM.plain (by assumption) (by first | (simp; done) | (simp; omega)) | exact RdS.plain (by assumption) (by first | (simp; done) | (simp; omega)) | exact OSl.plain (by assumption) (by first | (simp; done) | (simp; omega))) F.foff55_3 rfl ?_
                      first | refine Zan rfl rfl rfl (by repeat first | exact List.Mem.head _ | refine List.Mem.tail _ ?_ | refine List.mem_append_right _ ?_) F.lay3 rfl rfl rfl ?_ | refine Zs rfl rfl rfl (by first | assumption | exact SlM.mono (by assumption) (by assumption)) (by first | exact Zg (by omega) | exact List.getElem?_eq_getElem (by omega) | exact rfl | exact Zg (by first | (simp; done) | (simp; omega))) F.lay3 rfl rfl rfl ?_ | refine Zr rfl rfl rfl (by assumption) (by first | exact Zg (by omega) | exact List.getElem?_eq_getElem (by omega) | exact rfl | exact Zg (by first | (simp; done) | (simp; omega))) F.lay3 rfl rfl rfl ?_ | refine Zp rfl rfl rfl (by first | assumption | exact Mem.get_of (by assumption) (by repeat first | assumption | refine Mem.le.trans (by assumption) ?_)) F.lay3 rfl rfl rfl ?_ | refine Zo rfl rfl rfl (by assumption) (by repeat first | exact Rem.here _ | exact Rem.two | apply Rem.skip | apply Rem.over) (by first | exact Zg (by omega) | exact List.getElem?_eq_getElem (by omega) | exact rfl | exact Zg (by first | (simp; done) | (simp; omega))) F.lay3 rfl rfl rfl ?_ | refine Zq rfl rfl rfl (by repeat first | exact List.Mem.head _ | refine List.Mem.tail _ ?_ | refine List.mem_append_right _ ?_) F.lay3 (by first | exact Zbj (by first | omega | decide) | exact Zax (by first | omega | decide)) rfl ?_
                      refine Zc rfl rfl rfl rfl ?_; refine Zas rfl rfl rfl rfl F.elem25 rfl ?_; refine Zao rfl rfl rfl rfl rfl rfl ?_; refine Zau rfl rfl rfl rfl rfl ?_; refine Zf ?_; refine Zb ?_
                      refine Zx rfl (fun hc16 => ?_) (fun hc16 => ?_)
                      · first | replace hc16 := dT hc16 | replace hc16 := dF hc16 | replace hc16 := nT hc16 | replace hc16 := nF hc16 | skip
                        try simp only [StepL06V.eta] at hc16
                        first
                        | (exfalso; omega)
                        | (exfalso; simp [eqX] at hc16; done)
                        | contradiction
                        | skip
                          refine Zj ?_
                          refine C_frz ho4 (by repeat first | exact Rem.here _ | exact Rem.two | apply Rem.skip | apply Rem.over) (fun M2 hM2 k4 => ?_)
                          refine C_frz ho5 (by repeat first | exact Rem.here _ | exact Rem.two | apply Rem.skip | apply Rem.over) (fun M3 hM3 k5 => ?_)
                          have hcap4 : ws.length ≤ cp4 := k4.h3
                          have hcap5 : ts.length ≤ cp5 := k5.h3
                          refine Za (l := [0, 1, 2, 3, 4, 5]) rfl ?_; refine Zc rfl rfl rfl rfl ?_; refine Zas rfl rfl rfl rfl F.elem25 rfl ?_
                          first | refine Zad rfl rfl rfl F.foff55_3 rfl ?_ | refine Zv rfl rfl rfl (by first | exact ⟨_, _, rfl⟩ | assumption | exact SlM.plain (by assumption) (by first | (simp; done) | (simp; omega)) | exact RdS.plain (by assumption) (by first | (simp; done) | (simp; omega)) | exact OSl.plain (by assumption) (by first | (simp; done) | (simp; omega))) F.foff55_3 rfl ?_
                          first | refine Zan rfl rfl rfl (by repeat first | exact List.Mem.head _ | refine List.Mem.tail _ ?_ | refine List.mem_append_right _ ?_) F.lay3 rfl rfl rfl ?_ | refine Zs rfl rfl rfl (by first | assumption | exact SlM.mono (by assumption) (by assumption)) (by first | exact Zg (by omega) | exact List.getElem?_eq_getElem (by omega) | exact rfl | exact Zg (by first | (simp; done) | (simp; omega))) F.lay3 rfl rfl rfl ?_ | refine Zr rfl rfl rfl (by assumption) (by first | exact Zg (by omega) | exact List.getElem?_eq_getElem (by omega) | exact rfl | exact Zg (by first | (simp; done) | (simp; omega))) F.lay3 rfl rfl rfl ?_ | refine Zp rfl rfl rfl (by first | assumption | exact Mem.get_of (by assumption) (by repeat first | assumption | refine Mem.le.trans (by assumption) ?_)) F.lay3 rfl rfl rfl ?_ | refine Zo rfl rfl rfl (by assumption) (by repeat first | exact Rem.here _ | exact Rem.two | apply Rem.skip | apply Rem.over) (by first | exact Zg (by omega) | exact List.getElem?_eq_getElem (by omega) | exact rfl | exact Zg (by first | (simp; done) | (simp; omega))) F.lay3 rfl rfl rfl ?_ | refine Zq rfl rfl rfl (by repeat first | exact List.Mem.head _ | refine List.Mem.tail _ ?_ | refine List.mem_append_right _ ?_) F.lay3 (by first | exact Zbj (by first | omega | decide) | exact Zax (by first | omega | decide)) rfl ?_
                          refine Zai rfl rfl rfl rfl rfl (by first | exact Zt (by decide) (by omega) | exact Zz (by decide) (by omega) | exact Zae (by decide) (by omega) | exact Zm (by decide) (by omega) | exact Zah _ | exact Zay _ | exact Zak _ | exact rfl) rfl ?_
                          obtain ⟨j9, hj9, hjl⟩ : ∃ j : Nat, (ws.length : Int) - s_l[k].n = (j : Int) ∧ j ≤ ws.length := ⟨((ws.length : Int) - s_l[k].n).toNat, by omega, by omega⟩
                          rw [hj9]
                          refine Ze rfl rfl rfl rfl ?_; refine Zf ?_; refine Zb ?_; refine Zj ?_; refine Za (l := [0, 1, 2, 3, 4]) rfl ?_; refine Zc rfl rfl rfl rfl ?_; refine Zc rfl rfl rfl rfl ?_; refine X_slice rfl rfl rfl (.some (k := j9) rfl rfl) .none .none F.elem25 (by simp) (by simp; omega) (by simp; try omega) (by simp) (show _ = Sl.val ⟨shiftA ad4 cp4 j9 1, cp4 - j9, ws.drop j9⟩ by simp [pieceV, Sl.val, shiftA]) rfl ?_; refine X_fn rfl rfl F.ok22 rfl (bJoin_ok M3 ⟨_, _, ws.drop j9⟩ (es.drop j9) ((k4.mono hM3).drop j9 (by omega)) (((he.mono hM2).mono hM3).drop j9) (by simp only [List.length_drop]; omega)) rfl ?_
                          rintro v9 M4 hM4 hv9
                          refine Ze rfl rfl rfl rfl ?_; refine Zf ?_; refine Zb ?_; refine Zj ?_; refine Za (l := [0, 1, 2, 3, 4, 5]) rfl ?_; refine Zc rfl rfl rfl rfl ?_; refine Zc rfl rfl rfl rfl ?_; refine X_slice rfl rfl rfl (.some (k := j9) rfl rfl) .none .none F.elem26 (by simp) (by simp; omega) (by simp; try omega) (by simp) (show _ = Sl.val ⟨shiftA ad5 cp5 j9 4, cp5 - j9, ts.drop j9⟩ by simp [pieceV, Sl.val, shiftA]) rfl ?_; refine X_fn rfl rfl F.ok27 rfl (rJoin_ok M4 ⟨_, _, ts.drop j9⟩ (es.drop j9) ((k5.mono hM4).drop j9 (by omega)) ((((ht.mono hM2).mono hM3).mono hM4).drop j9) (by simp only [List.length_drop]; omega)) rfl ?_
                          rintro _ M5 hM5 ⟨t9, rfl, ht9⟩
                          refine Zbw rfl rfl F.zero32 (by constructor) rfl ?_; intro b17
                          refine Zbv rfl rfl rfl rfl (by constructor) (by first | ((try simp only [cat, List.cons_append, List.nil_append, List.append_nil]); (repeat (first | exact Zap | refine Zbi ?_ | (refine Zaf ?_ ?_; rfl))); done) | exact StepL06V.flat _ | exact StepL06V.flat ⟨_, _, _, _⟩ | exact TrR.flat _ | (simp [flat, cat, Segs.cells, Seg.cells, Value.oneCell']; done)) (by repeat first | exact Upd.head | apply Upd.tail | apply Upd.over) F.lay32 rfl rfl ?_; refine Zf ?_; refine Zb ?_; refine Zj ?_; refine Za (l := [0]) rfl ?_; refine Ze rfl rfl rfl rfl ?_; refine Zf ?_; refine Zb ?_; refine Zj ?_; refine Za (l := [0, 1, 2, 3, 4, 5]) rfl ?_; refine Zc rfl rfl rfl rfl ?_; refine Zc rfl rfl rfl rfl ?_; refine Zc rfl rfl rfl rfl ?_; refine X_slice rfl rfl rfl .none (.some (k := j9) rfl rfl) .none F.elem25 (by simp) (by simp; omega) (by simp; try omega) (by simp) (show _ = Sl.val ⟨ad4, cp4, ws.take j9⟩ from pieceV_head.trans (by show Value.slice _ _ _ = Value.slice _ _ _; rw [List.length_take, Nat.min_eq_left (by omega)]; rfl)) rfl ?_
                          refine X_appendKM (m := 1000) rfl rfl rfl rfl rfl F.elem25 F.zero30 (by first | rfl | exact Zbm rfl) rfl OSl.nil (by repeat first | exact Rem.here _ | exact Rem.two | apply Rem.skip | apply Rem.over) ((((k4.mono hM3).mono (hM4.trans hM5)).take j9 (by omega)).h1) (fun x hx => Zaf (he.ones (List.mem_of_mem_take hx)) Zap) (by simp only [List.length_nil, List.length_take]; omega) (by decide) rfl ?_; intro va103 hsa103 hoa103; obtain ⟨ada103, cpa103, rfl⟩ := hoa103.val
                          refine Ze rfl rfl rfl rfl ?_; refine Zf ?_; refine Zb ?_; refine Zj ?_; refine Za (l := [0, 1, 2, 3, 4]) rfl ?_; refine Zc rfl rfl rfl rfl ?_; refine Zc rfl rfl rfl rfl ?_
                          refine Zal rfl rfl F.elem25 F.zero30 rfl rfl (.cons rfl (parts_if (OE.form hv9)) .nil) rfl rfl (by simp only [List.map_cons, List.map_nil] <;> rfl) rfl ?_; intro b106 hob106
                          refine Zbp (m := 1000) rfl rfl rfl rfl rfl F.elem25 F.zero30 (by first | rfl | exact Zbm rfl) rfl hoa103 (by repeat first | exact Rem.here _ | exact Rem.two | apply Rem.skip | apply Rem.over) (Src.own hob106.lens (Zar (Zaf (OE.one hv9) Zap)) rfl (by repeat first | exact List.Mem.head _ | refine List.Mem.tail _ ?_ | refine List.mem_append_right _ ?_)) (by simp only [List.length_append, List.length_map, List.length_take, List.length_nil, List.length_singleton]; omega) (by decide) rfl ?_; intro v107 hs107 ho107; obtain ⟨ad107, cp107, rfl⟩ := ho107.val
                          skip
                          refine Ze rfl rfl rfl rfl ?_; refine Zf ?_; refine Zb ?_; refine Zj ?_; refine Za (l := [0, 1]) rfl ?_; refine Zc rfl rfl rfl rfl ?_; refine Ze rfl rfl rfl rfl ?_; refine Zf ?_; refine Zb ?_; refine Zj ?_; refine Za (l := [0]) rfl ?_; refine Ze rfl rfl rfl rfl ?_; refine Zf ?_; refine Zb ?_; refine Zj ?_; refine Za (l := [0, 1, 2, 3, 4, 5]) rfl ?_; refine Zc rfl rfl rfl rfl ?_; refine Zc rfl rfl rfl rfl ?_; refine Zc rfl rfl rfl rfl ?_; refine X_slice rfl rfl rfl .none (.some (k := j9) rfl rfl) .none F.elem26 (by simp) (by simp; omega) (by simp; try omega) (by simp) (show _ = Sl.val ⟨ad5, cp5, ts.take j9⟩ from pieceV_head.trans (by show Value.slice _ _ _ = Value.slice _ _ _; rw [List.length_take, Nat.min_eq_left (by omega)]; rfl)) rfl ?_
                          refine X_appendKM (m := 1000) rfl rfl rfl rfl rfl F.elem26 F.zero32 (by first | rfl | exact Zbm rfl) rfl OSl.nil (by repeat first | exact Rem.here _ | exact Rem.two | apply Rem.skip | apply Rem.over) (((k5.mono (hM4.trans hM5)).take j9 (by omega)).h1) (fun x _ => TrR.flat x) (by simp only [List.length_nil, List.length_take]; omega) (by decide) rfl ?_; intro va113 hsa113 hoa113; obtain ⟨ada113, cpa113, rfl⟩ := hoa113.val
                          refine Ze rfl rfl rfl rfl ?_; refine Zf ?_; refine Zb ?_; refine Zj ?_; refine Za (l := [0, 1, 2, 3, 4]) rfl ?_; refine Zc rfl rfl rfl rfl ?_
                          first | refine Zan rfl rfl rfl (by repeat first | exact List.Mem.head _ | refine List.Mem.tail _ ?_ | refine List.mem_append_right _ ?_) F.lay32 rfl rfl rfl ?_ | refine Zs rfl rfl rfl (by first | assumption | exact SlM.mono (by assumption) (by assumption)) (by first | exact Zg (by omega) | exact List.getElem?_eq_getElem (by omega) | exact rfl | exact Zg (by first | (simp; done) | (simp; omega))) F.lay32 rfl rfl rfl ?_ | refine Zr rfl rfl rfl (by assumption) (by first | exact Zg (by omega) | exact List.getElem?_eq_getElem (by omega) | exact rfl | exact Zg (by first | (simp; done) | (simp; omega))) F.lay32 rfl rfl rfl ?_ | refine Zp rfl rfl rfl (by first | assumption | exact Mem.get_of (by assumption) (by repeat first | assumption | refine Mem.le.trans (by assumption) ?_)) F.lay32 rfl rfl rfl ?_ | refine Zo rfl rfl rfl (by assumption) (by repeat first | exact Rem.here _ | exact Rem.two | apply Rem.skip | apply Rem.over) (by first | exact Zg (by omega) | exact List.getElem?_eq_getElem (by omega) | exact rfl | exact Zg (by first | (simp; done) | (simp; omega))) F.lay32 rfl rfl rfl ?_
                          refine Zal rfl rfl F.elem26 F.zero32 rfl rfl (.cons rfl (by constructor) .nil) rfl rfl (by simp only [List.map_cons, List.map_nil] <;> rfl) rfl ?_; intro b18 hob19
                          refine Zbp (m := 1000000) rfl rfl rfl rfl rfl F.elem26 F.zero32 (by first | rfl | exact Zbm rfl) rfl (by first | assumption | exact OSl.nil) (by repeat first | exact Rem.here _ | exact Rem.two | apply Rem.skip | apply Rem.over) (Src.own hob19.lens (by first | exact StepL06V.flat1 _ | exact StepL06V.flat1 ⟨_, _, _, _⟩ | exact TrR.flat1 _ | (refine Zar ?_; (repeat (first | exact Zap | refine Zbi ?_ | (refine Zaf ?_ ?_; rfl))); done) | (refine Zar ?_; exact PeerV.flat _) | (simp [rowsCells, Segs.cells, Seg.cells, Value.oneCell']; done)) rfl (by repeat first | exact List.Mem.head _ | refine List.Mem.tail _ ?_ | refine List.mem_append_right _ ?_)) (by first | omega | (simp; done) | (simp; omega)) (by decide) rfl ?_; intro v22 hs21 ho20; obtain ⟨adv22, cpv22, rfl⟩ := ho20.val
                          skip
                          refine Ze rfl rfl rfl rfl ?_; refine Zf ?_; refine Zb ?_; refine Za (l := [0, 1]) rfl ?_; refine Zc rfl rfl rfl rfl ?_; refine Ze rfl rfl rfl rfl ?_; refine Zf ?_; refine Zbk ?_; refine Zbk ?_; refine Zb ?_; refine Za (l := [0, 1, 2]) rfl ?_; refine Zc rfl rfl rfl rfl ?_; refine Zai rfl rfl rfl rfl rfl (by first | exact Zt (by decide) (by omega) | exact Zz (by decide) (by omega) | exact Zae (by decide) (by omega) | exact Zm (by decide) (by omega) | exact Zah _ | exact Zay _ | exact Zak _ | exact rfl) rfl ?_; refine Ze rfl rfl rfl rfl ?_; refine Zf ?_; refine Zbg (a' := [(6, _), (4, _), (5, _)]) (k + 1) (hs107 ++ hs21) (.cons (k := 6) rfl (.cons (k := 4) rfl (.cons (k := 5) rfl (.cons (k := 3) rfl (.cons (k := 2) rfl (.cons (k := 0) rfl (.nil))))))) (show M.le M5 from hm1.trans (hM2.trans (hM3.trans (hM4.trans hM5)))) (fun w hw => by first | exact hw | exact hw.cnt (by intro zz; first | exact Nat.le_refl _ | (simp only [Zh, Zd, Zi, cat, List.append_eq, List.append_assoc, List.cons_append, List.nil_append, List.append_nil]; omega) | (simp only [Zh, Zd, Zi, cat, List.append_eq, List.append_assoc, List.cons_append, List.nil_append, List.append_nil, StepL06V.segs]; omega))) ?_ ?_
                          · refine ⟨es.take j9 ++ [joinO (es.drop j9)], ws.take j9 ++ [v9], ts.take j9 ++ [t9], _, _, hs107, hs21, hle1.trans (hM2.trans (hM3.trans (hM4.trans hM5))), rfl, by omega, rfl, ?_, ?_, (((he.mono hM2).mono hM3).mono (hM4.trans hM5) |>.take j9).app (OEL.one (hv9.mono hM5)), (((ht.mono hM2).mono hM3).mono (hM4.trans hM5) |>.take j9).app (TOL.one ht9), okS_app (okS_take hok _) (okS_one (okS_join (okS_drop hok _))), ?_, ?_⟩
                            · rw [List.map_append]; exact ho107
                            · rw [List.map_append]; exact ho20
                            · have h9 := hso9 (by omega); have h8 := wt_cut es j9; omega
                            · simp only [List.length_append, List.length_singleton, List.length_take]; omega
                          · omega
                      · first | replace hc16 := dT hc16 | replace hc16 := dF hc16 | replace hc16 := nT hc16 | replace hc16 := nF hc16 | skip
                        try simp only [StepL06V.eta] at hc16
                        first
                        | (exfalso; omega)
                        | (exfalso; simp [eqX] at hc16; done)
                        | contradiction
                        | skip
                          refine Zu ?_; refine Zbk ?_; refine Zbk ?_; refine Zb ?_; refine Za (l := [0, 1, 2]) rfl ?_; refine Zc rfl rfl rfl rfl ?_; refine Zai rfl rfl rfl rfl rfl (by first | exact Zt (by decide) (by omega) | exact Zz (by decide) (by omega) | exact Zae (by decide) (by omega) | exact Zm (by decide) (by omega) | exact Zah _ | exact Zay _ | exact Zak _ | exact rfl) rfl ?_; refine Ze rfl rfl rfl rfl ?_; refine Zf ?_; refine Zbg (a' := [(6, _), (4, _), (5, _)]) (k + 1) (hl ++ hm) (.cons (k := 6) rfl (.cons (k := 4) rfl (.cons (k := 5) rfl (.cons (k := 3) rfl (.cons (k := 2) rfl (.cons (k := 0) rfl (.nil))))))) (show M.le M1 from hm1) (fun w hw => by first | exact hw | exact hw.cnt (by intro zz; first | exact Nat.le_refl _ | (simp only [Zh, Zd, Zi, cat, List.append_eq, List.append_assoc, List.cons_append, List.nil_append, List.append_nil]; omega) | (simp only [Zh, Zd, Zi, cat, List.append_eq, List.append_assoc, List.cons_append, List.nil_append, List.append_nil, StepL06V.segs]; omega))) ?_ ?_
                          · refine ⟨es, ws, ts, _, _, hl, hm, hle1, rfl, by omega, rfl, ho4, ho5, he, ht, hok, ?_, by omega⟩
                            have h9 := hso9 (by omega); omega
                          · omega
                  · first | replace hc15 := dT hc15 | replace hc15 := dF hc15 | replace hc15 := nT hc15 | replace hc15 := nF hc15 | skip
                    try simp only [StepL06V.eta] at hc15
                    first
                    | (exfalso; omega)
                    | (exfalso; simp [eqX] at hc15; done)
                    | contradiction
                    | skip
                      refine Zba rfl rfl rfl ?_; refine Zba rfl rfl rfl ?_; refine Zba rfl rfl rfl ?_; refine Zba rfl rfl rfl ?_; refine Zba rfl rfl rfl ?_; refine Zau rfl rfl rfl rfl rfl ?_; refine Zf ?_; refine Zb ?_; refine Zbe rfl ?_; refine Zu ?_; refine Zbk ?_; refine Zbk ?_; refine Zb ?_; refine Za (l := [0, 1, 2]) rfl ?_; refine Zc rfl rfl rfl rfl ?_; refine Zai rfl rfl rfl rfl rfl (by first | exact Zt (by decide) (by omega) | exact Zz (by decide) (by omega) | exact Zae (by decide) (by omega) | exact Zm (by decide) (by omega) | exact Zah _ | exact Zay _ | exact Zak _ | exact rfl) rfl ?_; refine Ze rfl rfl rfl rfl ?_; refine Zf ?_; refine Zbg (a' := [(6, _), (4, _), (5, _)]) (k + 1) (hl ++ hm) (.cons (k := 6) rfl (.cons (k := 4) rfl (.cons (k := 5) rfl (.cons (k := 3) rfl (.cons (k := 2) rfl (.cons (k := 0) rfl (.nil))))))) (show M.le M1 from hm1) (fun w hw => by first | exact hw | exact hw.cnt (by intro zz; first | exact Nat.le_refl _ | (simp only [Zh, Zd, Zi, cat, List.append_eq, List.append_assoc, List.cons_append, List.nil_append, List.append_nil]; omega) | (simp only [Zh, Zd, Zi, cat, List.append_eq, List.append_assoc, List.cons_append, List.nil_append, List.append_nil, StepL06V.segs]; omega))) ?_ ?_
                      · refine ⟨es, ws, ts, _, _, hl, hm, hle1, rfl, by omega, rfl, ho4, ho5, he, ht, hok, ?_, by omega⟩
                        have h9 := hso9 (by omega); omega
                      · omega
              · first | replace hc14 := dT hc14 | replace hc14 := dF hc14 | replace hc14 := nT hc14 | replace hc14 := nF hc14 | skip
                try simp only [StepL06V.eta] at hc14
                first
                | (exfalso; omega)
                | (exfalso; simp [eqX] at hc14; done)
                | contradiction
                | skip
                  refine Zj ?_; refine Za (l := [0, 1, 2, 3]) rfl ?_; refine Zc rfl rfl rfl rfl ?_
                  refine Zal rfl rfl F.elem25 F.zero30 rfl rfl (.cons rfl (by constructor) .nil) rfl rfl (by simp only [List.map_cons, List.map_nil] <;> rfl) rfl ?_; intro b23 hob24
                  refine Zbp (m := 1000000) rfl rfl rfl rfl rfl F.elem25 F.zero30 (by first | rfl | exact Zbm rfl) rfl (by first | assumption | exact OSl.nil) (by repeat first | exact Rem.here _ | exact Rem.two | apply Rem.skip | apply Rem.over) (Src.own hob24.lens (by first | exact StepL06V.flat1 _ | exact StepL06V.flat1 ⟨_, _, _, _⟩ | exact TrR.flat1 _ | (refine Zar ?_; (repeat (first | exact Zap | refine Zbi ?_ | (refine Zaf ?_ ?_; rfl))); done) | (refine Zar ?_; exact PeerV.flat _) | (simp [rowsCells, Segs.cells, Seg.cells, Value.oneCell']; done)) rfl (by repeat first | exact List.Mem.head _ | refine List.Mem.tail _ ?_ | refine List.mem_append_right _ ?_)) (by first | omega | (simp; done) | (simp; omega)) (by decide) rfl ?_; intro v27 hs26 ho25; obtain ⟨adv27, cpv27, rfl⟩ := ho25.val
                  skip
                  refine Ze rfl rfl rfl rfl ?_; refine Zf ?_; refine Zb ?_; refine Za (l := [0, 1, 2, 3, 4]) rfl ?_; refine Zc rfl rfl rfl rfl ?_; refine Zbn rfl rfl F.bld32 (.nil) rfl rfl ?_
                  refine Zal rfl rfl F.elem26 F.zero32 rfl rfl (.cons rfl (by constructor) .nil) rfl rfl (by simp only [List.map_cons, List.map_nil] <;> rfl) rfl ?_; intro b28 hob29
                  refine Zbp (m := 1000000) rfl rfl rfl rfl rfl F.elem26 F.zero32 (by first | rfl | exact Zbm rfl) rfl (by first | assumption | exact OSl.nil) (by repeat first | exact Rem.here _ | exact Rem.two | apply Rem.skip | apply Rem.over) (Src.own hob29.lens (by first | exact StepL06V.flat1 _ | exact StepL06V.flat1 ⟨_, _, _, _⟩ | exact TrR.flat1 _ | (refine Zar ?_; (repeat (first | exact Zap | refine Zbi ?_ | (refine Zaf ?_ ?_; rfl))); done) | (refine Zar ?_; exact PeerV.flat _) | (simp [rowsCells, Segs.cells, Seg.cells, Value.oneCell']; done)) rfl (by repeat first | exact List.Mem.head _ | refine List.Mem.tail _ ?_ | refine List.mem_append_right _ ?_)) (by first | omega | (simp; done) | (simp; omega)) (by decide) rfl ?_; intro v32 hs31 ho30; obtain ⟨adv32, cpv32, rfl⟩ := ho30.val
                  skip
                  refine Ze rfl rfl rfl rfl ?_; refine Zf ?_; refine Zbk ?_; refine Zbk ?_; refine Zb ?_; refine Za (l := [0, 1, 2]) rfl ?_; refine Zc rfl rfl rfl rfl ?_; refine Zai rfl rfl rfl rfl rfl (by first | exact Zt (by decide) (by omega) | exact Zz (by decide) (by omega) | exact Zae (by decide) (by omega) | exact Zm (by decide) (by omega) | exact Zah _ | exact Zay _ | exact Zak _ | exact rfl) rfl ?_; refine Ze rfl rfl rfl rfl ?_; refine Zf ?_; refine Zbg (a' := [(6, _), (4, _), (5, _)]) (k + 1) (hs26 ++ hs31) (.cons (k := 6) rfl (.cons (k := 4) rfl (.cons (k := 5) rfl (.cons (k := 3) rfl (.cons (k := 2) rfl (.cons (k := 0) rfl (.nil))))))) (show M.le M1 from hm1) (fun w hw => by first | exact hw | exact hw.cnt (by intro zz; first | exact Nat.le_refl _ | (simp only [Zh, Zd, Zi, cat, List.append_eq, List.append_assoc, List.cons_append, List.nil_append, List.append_nil]; omega) | (simp only [Zh, Zd, Zi, cat, List.append_eq, List.append_assoc, List.cons_append, List.nil_append, List.append_nil, StepL06V.segs]; omega))) ?_ ?_
                  · refine ⟨es ++ [none], ws ++ [.nilIface], ts ++ [zT], _, _, hs26, hs31, hle1, rfl, by omega, rfl, ?_, ?_, he.app (OEL.one (show OE M1 (none) (.nilIface) from rfl)), ht.app (TOL.one (show TO M1 (none) (zT) from rfl)), okS_app hok (okS_one (okO_none)), ?_, ?_⟩
                    · rw [List.map_append]; exact ho25
                    · rw [List.map_append]; exact ho30
                    · have h9 := hso9 (by omega); have h8 := wtS_app es [none]; have h7 := wt_new s_l[k].code; simp only [wtS, wtO] at h8 h7 ⊢; omega
                    · simp only [List.length_append, List.length_singleton]; omega
                  · omega
  · first | replace hc1 := dT hc1 | replace hc1 := dF hc1 | replace hc1 := nT hc1 | replace hc1 := nF hc1 | skip
    try simp only [StepL06V.eta] at hc1
    first
    | (exfalso; omega)
    | (exfalso; simp [eqX] at hc1; done)
    | contradiction
    | skip
      refine Zbt ?_; refine Zbd ?_; refine Zbd ?_; refine Zca ?_; refine Zb ?_; refine Zk (.cons (k := 4) rfl (.cons (k := 5) rfl (.cons (k := 3) rfl (.cons (k := 2) rfl .nil)))) ?_; refine Zj ?_; refine Za (l := [0, 1, 2, 3]) rfl ?_; refine Zc rfl rfl rfl rfl ?_; refine Zc rfl rfl rfl rfl ?_; refine Ze rfl rfl rfl rfl ?_; refine Ze rfl rfl rfl rfl ?_; refine Zf ?_; refine Zb ?_; refine Zk (.cons (k := 3) rfl (.cons (k := 2) rfl .nil)) ?_; refine Zag ?_
      refine Zab (.inr rfl) (.tmp rfl (.tmp rfl .nil)) (fun w hw => ?_)
      obtain rfl : k = s_l.length := by omega
      rw [List.take_length] at hwt
      obtain ⟨M2, g1, g2, g3⟩ := ho4.frz (H := hm ++ H) (hw.cnt (by intro zz; first | exact Nat.le_refl _ | (simp only [Zh, Zd, Zi, cat, List.append_eq, List.append_assoc, List.cons_append, List.nil_append, List.append_nil]; omega) | (simp only [Zh, Zd, Zi, cat, List.append_eq, List.append_assoc, List.cons_append, List.nil_append, List.append_nil, StepL06V.segs]; omega)))
      obtain ⟨M3, g4, g5, g6⟩ := ho5.frz (H := H) (g2.cnt (by intro zz; first | exact Nat.le_refl _ | (simp only [Zh, Zd, Zi, cat, List.append_eq, List.append_assoc, List.cons_append, List.nil_append, List.append_nil]; omega) | (simp only [Zh, Zd, Zi, cat, List.append_eq, List.append_assoc, List.cons_append, List.nil_append, List.append_nil, StepL06V.segs]; omega)))
      have hfw := hfew.2
      have hf2 := hfew.1
      simp only at hfw hf2
      exact ⟨_, M3, rfl, hle1.trans (g1.trans g4), g5, es, ⟨_, _, ws⟩, ⟨_, _, ts⟩, rfl, ⟨g3.mono g4, g6, (he.mono g1).mono g4, (ht.mono g1).mono g4, hok, by omega, by omega⟩⟩
end Go.Proofs.YtbeahcfghjiogaaDoor
namespace Go.Proofs.YtbeahcfghjiogaaDoor
open Go.Esp
theorem F.ok13 : okFn Tryd.prog 13 = true := by kernel_rfl
theorem F.ok15 : okFn Tryd.prog 15 = true := by kernel_rfl
theorem F.ok16 : okFn Tryd.prog 16 = true := by kernel_rfl
theorem F.ok18 : okFn Tryd.prog 18 = true := by kernel_rfl
theorem F.ok9 : okFn Tryd.prog 9 = true := by kernel_rfl
theorem nil_oe {ms : Array (String × TypeId)} {M : Mem} : ∀ {o : Option Err} {v : Value}, OE M o v → nilOf (.interface ms) v = some (o.isNone, .nilIface)
  | none, v, h => by
    obtain rfl : v = .nilIface := h
    rfl
  | some e, v, h => by
    obtain ⟨t, u, rfl⟩ := ErrV.iface h
    rfl
structure Wo (M : Mem) : Prop where
  e : EG M
  d : M.dr = 0
theorem Wo.mono {M M' : Mem} (h : Wo M) (hm : M.le M') : Wo M' := ⟨h.e.mono hm, hm.loose h.d⟩
def getB : ByteArray := ⟨#[103, 101, 116]⟩
def exE : Err := .wrap getB (.join [.code 7, .code 10])
theorem exE_ok : ∀ c ∈ exE.codes, okC c ∧ 0 ≤ c ∧ c < 100 := by
  intro c hc
  simp only [exE, Err.codes, codesL, List.append_nil, List.cons_append, List.nil_append, List.mem_cons, List.not_mem_nil, or_false] at hc
  rcases hc with rfl | rfl <;> exact ⟨⟨by decide, by decide, by decide⟩, by decide, by decide⟩
theorem exE_text : exE.text itoaB = ⟨#[103, 101, 116, 58, 32, 101, 114, 114, 111, 114, 32, 55, 59, 32, 101, 114, 114, 111, 114, 32, 49, 48]⟩ := by
  have h7 : itoaB 7 = ⟨#[55]⟩ := by
    unfold itoaB Lib.itoa
    rw [if_neg (by decide), show (7 : Int).toNat = 7 from rfl, Lib.decDigits, dif_pos (by decide)]; rfl
  have h10 : itoaB 10 = ⟨#[49, 48]⟩ := by
    unfold itoaB Lib.itoa
    rw [if_neg (by decide), show (10 : Int).toNat = 10 from rfl, Lib.decDigits, dif_neg (by decide), Lib.decDigits, dif_pos (by decide)]; rfl
  simp only [exE, Err.text, textsL, joinB, h7, h10]
  rfl
theorem blamed_ok (M : Mem) (hW : Wo M) : Esp.Fn Tryd.prog 20 [] M (fun _ v => v = .bool true) := by
  refine fn_enter Tryd.func20 rfl Tryd.ntmps20 rfl ?_; intro H
  refine Zj ?_; refine Za (l := [0]) rfl ?_; refine Ze rfl rfl rfl rfl ?_; refine Zf ?_; refine Zb ?_; refine Zj ?_; refine Za (l := [0, 1, 2, 3, 4, 5]) rfl ?_; refine X_fs rfl rfl F.ok23 rfl (bNew_ok _ _) rfl ?_
  rintro _ rfl
  refine Zbf 2 rfl (show newE 7 = Value.iface 60 (aggV [.one (.int .i64 7)]) from if_neg (by decide)) ?_; refine X_fs rfl rfl F.ok23 rfl (bNew_ok _ _) rfl ?_
  rintro _ rfl
  refine Zbf 3 rfl (show newE 10 = Value.iface 60 (aggV [.one (.int .i64 10)]) from if_neg (by decide)) ?_
  refine Zal rfl rfl F.elem25 F.zero30 rfl rfl (.cons rfl (by constructor) (.cons rfl (by constructor) (.cons rfl (by constructor) .nil))) rfl rfl (by simp only [List.map_cons, List.map_nil] <;> rfl) rfl ?_; intro b1 hob2
  refine Zcd rfl rfl F.ok22 rfl ((fh_thaw (f := (fun u => ([.one u] : Segs))) (l := [Value.nilIface, Value.iface 60 (aggV [.one (.int .i64 7)]), Value.iface 60 (aggV [.one (.int .i64 10)])]) hob2 (fun M9 h9 k9 => ((bJoin_ok M9 ⟨_, _, [Value.nilIface, Value.iface 60 (aggV [.one (.int .i64 7)]), Value.iface 60 (aggV [.one (.int .i64 10)])]⟩ [none, some (.code 7), some (.code 10)] k9 ⟨rfl, fun k h1 h2 => by rcases k with _ | _ | _ | k <;> first | rfl | (simp at h1; done) | (simp at h1; omega)⟩ (show 3 ≤ 1000 by decide)).fo []).fh))) (by repeat first | exact Rem.here _ | exact Rem.two | apply Rem.skip | apply Rem.over) (fun _ _ _ hm hw => (hw.lower (by first | exact hm | exact Mem.le.trans (by assumption) hm | exact Mem.le.trans (by first | exact Mem.le.refl _ | assumption | (repeat first | assumption | refine Mem.le.trans (by assumption) ?_)) hm)).cnt (by intro zz; first | exact Nat.le_refl _ | (simp only [Zh, Zd, Zi, cat, List.append_eq, List.append_assoc, List.cons_append, List.nil_append, List.append_nil]; omega) | (simp only [Zh, Zd, Zi, cat, List.append_eq, List.append_assoc, List.cons_append, List.nil_append, List.append_nil, StepL06V.segs]; omega))) (Zbh rfl) ?_
  rintro v5 M2 _ hm2 ⟨rfl, hv5⟩
  refine X_fn rfl rfl F.ok21 rfl (bWrap_o M2 getB _ v5 hv5) rfl ?_
  rintro v6 M3 hm3 hv6
  replace hv6 : OE M3 (some exE) v6 := hv6
  have hW3 := (hW.mono hm2).mono hm3
  refine Ze rfl rfl rfl rfl ?_; refine Zf ?_; refine Zb ?_; refine Zk (.cons (k := 1) rfl (.cons (k := 0) rfl .nil)) ?_; refine Zj ?_; refine Za (l := [0, 1, 2, 3, 4, 5, 6, 7, 8, 9, 10, 11, 12, 13, 14, 15, 16, 17, 18, 19, 20, 21, 22, 23, 24, 25, 26, 27, 28, 29, 30, 31]) rfl ?_; refine Zc rfl rfl rfl rfl ?_; refine X_fs rfl rfl F.ok18 rfl (bText_o itoaB itoa_short M3 hW3.d (some exE) v6 hv6 (fun c hc => ⟨(exE_ok c hc).1, Itoa_at M3 c (exE_ok c hc).2⟩) (by decide)) rfl ?_
  rintro _ rfl
  refine X_str rfl rfl rfl rfl rfl rfl ?_; refine Zbf 9 rfl (congrArg Value.bool (decide_eq_true exE_text)) ?_; refine Zc rfl rfl rfl rfl ?_; refine Zc rfl rfl rfl rfl ?_; refine X_fs rfl rfl F.ok9 rfl (bCode_o M3 hW3.e (some exE) v6 hv6) rfl ?_
  rintro _ rfl
  rw [show codeO (some exE) = 7 from rfl]
  refine Zao rfl rfl rfl rfl rfl rfl ?_; refine Zbf 13 rfl (show Value.bool (decide ((7 : Int) = 7)) = .bool true from rfl) ?_; refine Zau rfl rfl rfl rfl rfl ?_; refine Zc rfl rfl rfl rfl ?_; refine Zc rfl rfl rfl rfl ?_; refine X_fs rfl rfl F.ok13 rfl (bAgain_o _ (some exE) _ hv6) rfl ?_
  rintro _ rfl
  refine Zbf 17 rfl (show Value.bool (againO (some exE)) = .bool true from rfl) ?_; refine Zau rfl rfl rfl rfl rfl ?_; refine Zc rfl rfl rfl rfl ?_; refine X_fs rfl rfl F.ok23 rfl (bNew_ok _ _) rfl ?_
  rintro _ rfl
  refine Zbf 20 rfl (show newE 7 = Value.iface 60 (aggV [.one (.int .i64 7)]) from if_neg (by decide)) ?_; refine X_fs rfl rfl F.ok13 rfl (bAgain_o _ (some (.code 7)) _ rfl) rfl ?_
  rintro _ rfl
  refine Zbf 21 rfl (show Value.bool (againO (some (.code 7))) = .bool false from rfl) ?_; refine X_not rfl rfl rfl rfl ?_; refine Zbf 22 rfl (show Value.bool (!false) = .bool true from rfl) ?_; refine Zau rfl rfl rfl rfl rfl ?_; refine Zc rfl rfl rfl rfl ?_; refine Zc rfl rfl rfl rfl ?_; refine X_fn rfl rfl F.ok16 rfl (bTrail_o M3 (some exE) v6 hv6 (by decide)) rfl ?_
  rintro _ M4 hm4 ⟨⟨a9, c9, l9⟩, rfl, hs9, hk9⟩
  simp only at hs9
  refine Zal rfl rfl F.elem40 F.zero9 rfl rfl (.cons rfl (by constructor) .nil) rfl rfl (by simp only [List.map_cons, List.map_nil] <;> rfl) rfl ?_; intro b3 hob4
  refine Zcd rfl rfl F.ok15 rfl ((fh_thaw (f := oneS) (l := [getB]) hob4 (fun M9 h9 k9 => ((fnOfFs (Same_ok M9 ⟨a9, c9, l9⟩ ⟨_, _, [getB]⟩ (hk9.mono h9) k9)).fo []).fh))) (by repeat first | exact Rem.here _ | exact Rem.two | apply Rem.skip | apply Rem.over) (fun _ _ _ hm hw => (hw.lower (by first | exact hm | exact Mem.le.trans (by assumption) hm | exact Mem.le.trans (by first | exact Mem.le.refl _ | assumption | (repeat first | assumption | refine Mem.le.trans (by assumption) ?_)) hm)).cnt (by intro zz; first | exact Nat.le_refl _ | (simp only [Zh, Zd, Zi, cat, List.append_eq, List.append_assoc, List.cons_append, List.nil_append, List.append_nil]; omega) | (simp only [Zh, Zd, Zi, cat, List.append_eq, List.append_assoc, List.cons_append, List.nil_append, List.append_nil, StepL06V.segs]; omega))) (Zbh rfl) ?_
  rintro _ M5 _ hm5 ⟨rfl, rfl⟩
  refine Zbf 28 rfl (congrArg Value.bool (decide_eq_true hs9)) ?_; refine Zau rfl rfl rfl rfl rfl ?_; refine Zc rfl rfl rfl rfl ?_; refine X_fs rfl rfl F.ok11 rfl (bHas_o _ _ none _ rfl) rfl ?_
  rintro _ rfl
  refine Zbf 31 rfl (show Value.bool (hasO none 0) = .bool true from rfl) ?_; refine Zau rfl rfl rfl rfl rfl ?_; refine Zc rfl rfl rfl rfl ?_; refine Zc rfl rfl rfl rfl ?_; refine X_fs rfl rfl F.ok11 rfl (bHas_o _ _ (some exE) _ ((hv6.mono hm4).mono hm5)) rfl ?_
  rintro _ rfl
  refine Zbf 35 rfl (show Value.bool (hasO (some exE) 1) = .bool false from rfl) ?_; refine X_not rfl rfl rfl rfl ?_; refine Zbf 36 rfl (show Value.bool (!false) = .bool true from rfl) ?_; refine Zau rfl rfl rfl rfl rfl ?_; refine Ze rfl rfl rfl rfl ?_; refine Zf ?_; refine Zb ?_; refine Zk (.cons (k := 0) rfl .nil) ?_; refine Zag ?_
  refine Zab (.inr rfl) (.tmp rfl .nil) (fun w hw => ?_)
  exact ⟨_, _, rfl, hm2.trans (hm3.trans (hm4.trans (by assumption))), hw.cnt (by intro zz; first | exact Nat.le_refl _ | (simp only [Zh, Zd, Zi, cat, List.append_eq, List.append_assoc, List.cons_append, List.nil_append, List.append_nil]; omega) | (simp only [Zh, Zd, Zi, cat, List.append_eq, List.append_assoc, List.cons_append, List.nil_append, List.append_nil, StepL06V.segs]; omega)), rfl⟩
end Go.Proofs.YtbeahcfghjiogaaDoor
namespace Go.Proofs.YtbeahcfghjiogaaDoor
open Go.Esp
theorem F.ok20 : okFn Tryd.prog 20 = true := by kernel_rfl
theorem F.ok7 : okFn Tryd.prog 7 = true := by kernel_rfl
theorem F.ok8 : okFn Tryd.prog 8 = true := by kernel_rfl
def anyH (es : List (Option Err)) (c : Int) (k : Nat) : Bool := (es.drop k).any fun o => hasO o c
def anyA (es : List (Option Err)) (k : Nat) : Bool := (es.drop k).any againO
def NeS (es : List (Option Err)) : Prop := ∀ k (h : k < es.length), ∀ e, es[k] = some e → e.codes ≠ []
theorem NeS.of {M : Mem} {es : List (Option Err)} {ws : List Value} (h : OEL M es ws) : NeS es := fun k hk e he => by
  have h9 := h.at_ k hk (by have := h.len; omega)
  rw [he] at h9
  exact ErrV.codes_ne h9
end Go.Proofs.YtbeahcfghjiogaaDoor
namespace Go.Proofs.YtbeahcfghjiogaaDoor
open Go.Esp
theorem Tryd.et : Tryd.prog.globalNamed "errors.errorType" = some 0 := by kernel_rfl
theorem Tryd.rt : (Tryd.prog.cutTypes.find? (·.1 == "internal/reflectlite.rtype")).map (·.2) = some 87 := by kernel_rfl
theorem Tryd.typesN : Tryd.prog.types.size = 156 := by kernel_rfl
theorem Tryd.oneRow : ((List.range 156).filter fun t => Tryd.prog.rowNamed t [101, 114, 114, 111, 114]) = [30] := by kernel_rfl
theorem EG_of {W : World} (h : laidMetH Tryd.prog [("errors.errorType", Rows.laid_errors_errorType)] W) : EG (memOf W) := by
  have h' : laidMet Tryd.prog [] W ∧ handlesMet Tryd.prog [("errors.errorType", Rows.laid_errors_errorType)] W := h
  obtain ⟨name, u, ty, e1, e2, e3, e4, e5⟩ := h'.2 _ (List.mem_singleton.2 rfl)
  have en : name = [101, 114, 114, 111, 114] := (Option.some.inj e1).symm
  subst en
  obtain rfl := Option.some.inj (Tryd.rt.symm.trans e2)
  have hm : ty ∈ (List.range 156).filter fun t => Tryd.prog.rowNamed t [101, 114, 114, 111, 114] := List.mem_filter.2 ⟨List.mem_range.2 (by rw [← Tryd.typesN]; exact e3), e4⟩
  rw [Tryd.oneRow] at hm
  obtain rfl := List.mem_singleton.1 hm
  have hh : typeHandle Tryd.prog 30 = .pointer (some ⟨5, 30, none⟩) := by kernel_rfl
  rw [hh] at e5
  simp only [World.var?, Tryd.et, Option.bind_some] at e5
  split at e5
  · rename_i cs T fz hc
    obtain rfl := Option.some.inj e5
    exact ⟨_, T, fz, hc, rfl⟩
  · cases e5
noncomputable def laidWorld (os : Os) : World :=
  let w0 := World.holding Tryd.prog os ⟨#[], #[], []⟩
  { w0 with heap := w0.heap.modify 0 fun
      | .cells _ t frozen => .cells #[.iface 87 (.agg #[.pointer (some ⟨5, 30, none⟩)])] t frozen
      | o => o }
theorem laidWorld_met (os : Os) (args : Array Value) : laidMetH Tryd.prog [("errors.errorType", Rows.laid_errors_errorType)] ((laidWorld os).forCall (fun _ _ => 0) ⟨#[], args, []⟩).memory :=
  laidMetH_of_parts (laidMet_nil _ _) (by kernel_rfl)
theorem int_range {z : Int} (h : (Lit.int .i64 z).wf = true) : -9223372036854775808 ≤ z ∧ z ≤ 9223372036854775807 := by
  simp only [Lit.wf, Bool.and_eq_true, decide_eq_true_eq] at h
  exact h
theorem steps_of {M : Mem} {n : Nat} {R : Segs} (h : Ty Tryd.prog M n 22 R) : ∃ x : (Sl StepL06V), R = [.one x.val] ∧ Scr M x := by
  have e : Tryd.prog.cellsOf 55 = 4 := by kernel_rfl
  obtain ⟨ad, rows, c, m, rfl, h2, h3, h5, h4⟩ := ty_sliceC Tryd.underlying22 (by rw [e]; decide) h
  obtain ⟨l, rfl, hl⟩ := rows_mapP (f := StepL06V.segs) (p := fun y => y.op.size ≤ 140737488351232 ∧ -9223372036854775808 ≤ y.code ∧ y.code ≤ 9223372036854775807) (fun r hr => by
      obtain ⟨k, Rs, rfl, hlen, hf⟩ := ty_struct Tryd.underlying55 (h4 r hr)
      match Rs, hlen with
      | [r0, r1, r2, r3], _ =>
        obtain ⟨x0, rfl, _⟩ := ty_int Tryd.underlying3 (hf 0 _ r0 rfl rfl)
        obtain ⟨x1, rfl, w1⟩ := ty_int Tryd.underlying23 (hf 1 _ r1 rfl rfl)
        obtain ⟨x2, rfl, w2⟩ := ty_str Tryd.underlying9 (hf 2 _ r2 rfl rfl)
        obtain ⟨x3, rfl, _⟩ := ty_int Tryd.underlying3 (hf 3 _ r3 rfl rfl)
        exact ⟨⟨x0, x1, x2, x3⟩, rfl, w2, int_range w1⟩)
  rw [e] at h2
  exact ⟨⟨ad, c, l⟩, by simp [Sl.val], ⟨⟨h2, by simpa using h3, by simpa using h5⟩, hl⟩⟩
end Go.Proofs.YtbeahcfghjiogaaDoor
namespace Go.Proofs
open Go.Shelf
def Tryd.itoaM_ren : Go.Shelf.Ren := ⟨fun | 171 => 57 | 243 => 58 | 246 => 59 | 283 => 60 | 284 => 61 | 285 => 62 | 286 => 63 | 129 => 65 | 317 => 64 | 318 => 66 | 319 => 67 | 320 => 68 | 337 => 69 | 338 => 70 | n => n, fun | 3 => 3 | 9 => 9 | 2 => 2 | 4 => 4 | 171 => 116 | 0 => 0 | 53 => 117 | 37 => 120 | 5 => 5 | 173 => 121 | 212 => 125 | 51 => 107 | 20 => 20 | 213 => 126 | 46 => 128 | 232 => 131 | 233 => 132 | n => n, fun | 17 => 1 | 18 => 2 | 19 => 3 | n => n⟩
theorem Tryd.itoaM : Go.Proofs.LaysM.n171 Tryd.prog Tryd.itoaM_ren := {
  mixed := by kernel_rfl
  f129 := Tryd.func65.trans (congrArg some (by kernel_rfl))
  f171 := Tryd.func57.trans (congrArg some (by kernel_rfl))
  f243 := Tryd.func58.trans (congrArg some (by kernel_rfl))
  f246 := Tryd.func59.trans (congrArg some (by kernel_rfl))
  f283 := Tryd.func60.trans (congrArg some (by kernel_rfl))
  f284 := Tryd.func61.trans (congrArg some (by kernel_rfl))
  f285 := Tryd.func62.trans (congrArg some (by kernel_rfl))
  f286 := Tryd.func63.trans (congrArg some (by kernel_rfl))
  f317 := Tryd.func64.trans (congrArg some (by kernel_rfl))
  f318 := Tryd.func66.trans (congrArg some (by kernel_rfl))
  f319 := Tryd.func67.trans (congrArg some (by kernel_rfl))
  f320 := Tryd.func68.trans (congrArg some (by kernel_rfl))
  f337 := Tryd.func69.trans (congrArg some (by kernel_rfl))
  f338 := Tryd.func70.trans (congrArg some (by kernel_rfl))
  t0 := Tryd.underlying0
  a0 := Tryd.isAgg0
  z0 := Tryd.sizeOf0
  v0 := Tryd.zeroValue0
  t2 := Tryd.underlying2
  a2 := Tryd.isAgg2
  z2 := Tryd.sizeOf2
  v2 := Tryd.zeroValue2
  t3 := Tryd.underlying3
  a3 := Tryd.isAgg3
  z3 := Tryd.sizeOf3
  v3 := Tryd.zeroValue3
  t4 := Tryd.underlying4
  a4 := Tryd.isAgg4
  z4 := Tryd.sizeOf4
  v4 := Tryd.zeroValue4
  t5 := Tryd.underlying5
  a5 := Tryd.isAgg5
  z5 := Tryd.sizeOf5
  v5 := Tryd.zeroValue5
  t9 := Tryd.underlying9
  a9 := Tryd.isAgg9
  z9 := Tryd.sizeOf9
  v9 := Tryd.zeroValue9
  t20 := Tryd.underlying20
  a20 := Tryd.isAgg20
  z20 := Tryd.sizeOf20
  v20 := Tryd.zeroValue20
  t37 := Tryd.underlying120
  a37 := Tryd.isAgg120
  z37 := Tryd.sizeOf120
  v37 := Tryd.zeroValue120
  t46 := Tryd.underlying128
  a46 := Tryd.isAgg128
  z46 := Tryd.sizeOf128
  v46 := Tryd.zeroValue128
  t51 := Tryd.underlying107
  a51 := Tryd.isAgg107
  z51 := Tryd.sizeOf107
  v51 := Tryd.zeroValue107
  t53 := Tryd.underlying117
  a53 := Tryd.isAgg117
  z53 := Tryd.sizeOf117
  v53 := Tryd.zeroValue117
  t171 := Tryd.underlying116
  a171 := Tryd.isAgg116
  z171 := Tryd.sizeOf116
  v171 := Tryd.zeroValue116
  t173 := Tryd.underlying121
  a173 := Tryd.isAgg121
  z173 := Tryd.sizeOf121
  v173 := Tryd.zeroValue121
  t212 := Tryd.underlying125
  a212 := Tryd.isAgg125
  z212 := Tryd.sizeOf125
  v212 := Tryd.zeroValue125
  t213 := Tryd.underlying126
  a213 := Tryd.isAgg126
  z213 := Tryd.sizeOf126
  t232 := Tryd.underlying131
  a232 := Tryd.isAgg131
  z232 := Tryd.sizeOf131
  v232 := Tryd.zeroValue131
  t233 := Tryd.underlying132
  a233 := Tryd.isAgg132
  z233 := Tryd.sizeOf132
  v233 := Tryd.zeroValue132
  g17 := by kernel_rfl
  g18 := by kernel_rfl
  g19 := by kernel_rfl
  i0 := by kernel_rfl
  i2 := by kernel_rfl
  i3 := by kernel_rfl
  i4 := by kernel_rfl
  i5 := by kernel_rfl
  i9 := by kernel_rfl
  i20 := by kernel_rfl
  i37 := by kernel_rfl
  i46 := by kernel_rfl
  i51 := by kernel_rfl
  i53 := by kernel_rfl
  i171 := by kernel_rfl
  i173 := by kernel_rfl
  i212 := by kernel_rfl
  i232 := by kernel_rfl
  i233 := by kernel_rfl
  m17 := by kernel_rfl
  m18 := by kernel_rfl
  m19 := by kernel_rfl }
end Go.Proofs
namespace Go.Esp
open Go.Proofs Go.Shelf Go.RowKit Go.Lib
def blkB (L : List Nat) (T : TypeId) : Obj := rowO (cat (L.map u8R)) T
theorem cellsB (L : List Nat) : Segs.cells (cat (L.map u8R)) = L.map fun (n : Nat) => Value.int .u8 (n : Int) := by
  rw [rowsCells_cat]
  induction L with
  | nil => rfl
  | cons a r ih => show Value.int .u8 (a : Int) :: rowsCells (r.map u8R) = _; rw [ih]; rfl
section
variable {P : Program} {n : Sh} {ops : Array Oper} {Q : Exit → Act → World → Prop} {rest : List Nat} {M M' : Mem} {H H' H0 : Hp} {e : Env} {J S : World → Prop} {A : As} {i : Nat}
  {dst : Option Tmp} {d : Tmp} {op : Op} {ty : TypeId} {pos : String} {af : Array Edge} {gd : Option (Nat × Bool)}
theorem Zbu {t : TypeId} {x y : Operand} {b j v : Nat} {L : List Nat} {T : TypeId} (hi : ops[i]? = some ⟨none, .store t x y, ty, pos, af, gd⟩) (hg : want ops e gd = some true)
    (hx : ev e x = some (.pointer (some ⟨b, j, none⟩))) (hy : ev e y = some (.int .u8 (v : Int))) (hl : lay P t = some (false, 1)) (hu : Upd b (blkB L T) (blkB (L.set j v) T) H H') (hj : j < L.length)
    (hk : XD P n ops Q rest (St M H') ⟨M, H'⟩ e) (hnw : n.wrs.contains i = false := by rfl) : XD P n ops Q (i :: rest) J ⟨M, H⟩ e :=
  X_store_cell (r := cat (L.map u8R)) (u := cat ((L.set j v).map u8R)) hi hg hx hy rfl rfl hu hl (by rw [cellsB]; simpa using hj) (by rw [cellsB, cellsB, List.map_set]) hk hnw
theorem Zbc {t k : Nat} {x ix : Operand} {q : IntKind} {z : Int} {s : ByteArray} (hi : ops[i]? = some ⟨some d, .index t x ix, ty, pos, af, gd⟩) (hg : want ops e gd = some true)
    (hx : ev e x = some (.string s)) (hs : s = Lib.smalls) (hix : ev e ix = some (.int q z)) (ht : P.underlying t = some .string) (hz : z = (k : Int)) (hk : k < 200) (hd : Nat.ble (d + 1) n.sz = true)
    (hK : XD P n ops Q rest J A ((d, .int .u8 (((natsOf Lib.smalls).getD k 0 : Nat) : Int)) :: e)) : XD P n ops Q (i :: rest) J A e := by
  have h1 : k < s.size := by rw [hs, Lib.smalls_size]; exact hk
  have h2 : XD P n ops Q rest J A ((d, .int .u8 (((natsOf s).getD k 0 : Nat) : Int)) :: e) := by rw [hs]; exact hK
  exact X_index_str hi hg hx hix ht hz h1 (Eq.refl _) hd h2
theorem X_load_memC {t : TypeId} {x : Operand} {b j : Nat} {r : Segs} {T : TypeId} {v : Value} {MJ : Mem} {HJ : Hp} (hi : ops[i]? = some ⟨some d, .load t x, ty, pos, af, gd⟩) (hg : want ops e gd = some true)
    (hx : ev e x = some (.pointer (some ⟨b, j, none⟩))) (hb : MJ b = some (rowO r T)) (hl : lay P t = some (false, 1)) (hv : (Segs.cells r)[j]? = some v) (hd : Nat.ble (d + 1) n.sz = true) (hk : XD P n ops Q rest (St MJ HJ) A ((d, v) :: e)) : XD P n ops Q (i :: rest) (St MJ HJ) A e :=
  Zbx hi rfl hg (fun a' w ha hw => Zat (by
    simp only [execOp]
    rw [ha.ev hx]
    refine Zbo (run_loadAt' (r := [.one v]) (hw.mem _ _ hb) hl ?_ rfl rfl)
    exact drop_take_one (by simpa using hv))) (fun a ha => ha.put hd _) hk
theorem srcB {b o k c : Nat} {L : List Nat} {T : TypeId} (hm : (b, blkB L T) ∈ H) (hk : o + k ≤ L.length) : Src M H 1 (.slice (some ⟨b, o, none⟩) k c) (((L.drop o).take k).map u8R) := by
  have hlen : (((L.drop o).take k).map u8R).length = k := by simp; omega
  refine ⟨fun r hr => ?_, fun u hu => ?_, ⟨b, o, none⟩, c, by rw [hlen], fun w hw => ?_⟩
  · obtain ⟨x, _, rfl⟩ := List.mem_map.1 hr; rfl
  · rw [← rowsCells_cat, cellsB] at hu
    obtain ⟨x, _, rfl⟩ := List.mem_map.1 hu; rfl
  · have h1 := hw.own _ _ hm
    refine cellsAt (n := k) h1 ?_
    rw [List.toList_toArray, cellsB, ← rowsCells_cat, cellsB, List.map_take, List.map_drop]
end
theorem cellsU (tb : List Nat) : Segs.cells (cat (tb.map fun (n : Nat) => ([.one (.int .u64 (n : Int))] : Segs))) = tb.map fun (n : Nat) => Value.int .u64 (n : Int) := by
  rw [rowsCells_cat]
  induction tb with
  | nil => rfl
  | cons a r ih => show Value.int .u64 (a : Int) :: rowsCells (r.map _) = _; rw [ih]; rfl
theorem blk0 (T : TypeId) : rowO [.arr 24 (Vector.replicate 24 (.int .u8 0))] T = blkB (List.replicate 24 0) T := rfl
theorem bitLenAux_le : ∀ f x : Nat, Lib.bitLenAux f x ≤ f
  | 0, _ => Nat.le_refl _
  | f + 1, x => by
    have := bitLenAux_le f (x / 2)
    unfold Lib.bitLenAux
    split <;> omega
theorem bitLen_le (x : Nat) : Lib.bitLen x ≤ 64 := bitLenAux_le 64 x
theorem l10_le {x : Nat} (h : x ≤ 64) : Lib.l10 x ≤ 19 := by unfold Lib.l10; omega
def SMN (k : Nat) : Nat := (natsOf Lib.smalls).getD k 0
def put2 (L : List Nat) (n x : Nat) : List Nat := (L.set n (SMN (x + 1))).set (n - 1) (SMN x)
def step8 (s : List Nat × Nat × Nat) : List Nat × Nat × Nat :=
  let q := s.2.2 % 100000000
  (put2 (put2 (put2 (put2 s.1 s.2.1 (q % 10000 % 100 * 2)) (s.2.1 - 2) (q % 10000 / 100 * 2)) (s.2.1 - 4) (q / 10000 % 100 * 2)) (s.2.1 - 6) (q / 10000 / 100 * 2), s.2.1 - 8, s.2.2 / 100000000)
def itr8 : Nat → List Nat × Nat × Nat → List Nat × Nat × Nat
  | 0, s => s
  | k + 1, s => step8 (itr8 k s)
def part4 (s : List Nat × Nat × Nat) : List Nat × Nat × Nat :=
  if 4 ≤ s.2.1 then (put2 (put2 s.1 s.2.1 (s.2.2 % 10000 % 100 * 2)) (s.2.1 - 2) (s.2.2 % 10000 / 100 * 2), s.2.1 - 4, s.2.2 / 10000) else s
def part2 (s : List Nat × Nat × Nat) : List Nat × Nat × Nat := if 2 ≤ s.2.1 then (put2 s.1 s.2.1 (s.2.2 % 100 * 2), s.2.1 - 2, s.2.2 / 100) else s
def part1 (s : List Nat × Nat × Nat) : List Nat := if 0 < s.2.1 then s.1.set 1 ((48 + s.2.2) % 4294967296 % 256) else s.1
def fmt10 (L : List Nat) (n u : Nat) : List Nat :=
  let s := itr8 (n / 8) (L, n, u)
  part1 (part2 (part4 (s.1, s.2.1, s.2.2 % 4294967296)))
theorem Zaz (L : List Nat) (n x : Nat) : (put2 L n x).length = L.length := by simp [put2]
theorem step8_len (s : List Nat × Nat × Nat) : (step8 s).1.length = s.1.length := by simp [step8, Zaz]
theorem itr8_len (k : Nat) (s : List Nat × Nat × Nat) : (itr8 k s).1.length = s.1.length := by
  induction k with
  | zero => rfl
  | succ k ih => rw [itr8, step8_len, ih]
theorem part4_len (s : List Nat × Nat × Nat) : (part4 s).1.length = s.1.length := by
  unfold part4; split
  · simp only [Zaz]
  · rfl
theorem part2_len (s : List Nat × Nat × Nat) : (part2 s).1.length = s.1.length := by
  unfold part2; split
  · simp only [Zaz]
  · rfl
theorem part1_len (s : List Nat × Nat × Nat) : (part1 s).length = s.1.length := by
  unfold part1; split
  · rw [List.length_set]
  · rfl
theorem fmt10_len (L : List Nat) (n u : Nat) : (fmt10 L n u).length = L.length := by
  unfold fmt10
  rw [part1_len, part2_len, part4_len]
  exact itr8_len _ _
structure TabU (M : Mem) (tb : List Nat) (T : TypeId) : Prop where
  there : M 1 = some (rowO (cat (tb.map fun (n : Nat) => ([.one (.int .u64 (n : Int))] : Segs))) T)
  len : tb.length = 20
theorem TabU.mono {M M' : Mem} {tb : List Nat} {T : TypeId} (h : TabU M tb T) (hm : M.le M') : TabU M' tb T := ⟨hm.1 _ _ h.there, h.len⟩
def ndT (tb : List Nat) (u : Nat) : Nat := Lib.l10 (Lib.bitLen u) + (if tb.getD (Lib.l10 (Lib.bitLen u)) 0 ≤ u then 1 else 0)
theorem ndT_le (tb : List Nat) (u : Nat) : ndT tb u ≤ 20 := by
  have := l10_le (bitLen_le u)
  unfold ndT
  split <;> omega
def tellT (tb : List Nat) (n : Int) : ByteArray :=
  if 0 ≤ n ∧ n < 100 then itoaB n
  else
    let k := ndT tb n.natAbs
    let L := fmt10 (List.replicate 24 0) k n.natAbs
    if n < 0 then strOfNums (((L.set 0 45).take (1 + k)).map fun n : Nat => (n : Int)) else strOfNums (((L.drop 1).take k).map fun n : Nat => (n : Int))
theorem Len_ok (M : Mem) (u : Nat) (hu : u ≤ 18446744073709551615) : Fs Tryd.prog (Tryd.itoaM_ren.f 129) [.int .u64 (u : Int)] M (fun v => v = .int .i64 ((Lib.bitLen u : Nat) : Int)) := fun H w hw =>
  (Any.bits_Len64 { Tryd.itoaM with } (u : Int) w (by omega) (by omega)).mono fun e w' ⟨he, hw'⟩ => ⟨_, he, hw'.symm ▸ hw, by rw [Int.toNat_natCast]⟩
theorem L10_ok (M : Mem) (x : Nat) (hx : x ≤ 64) : Fs Tryd.prog (Tryd.itoaM_ren.f 317) [.int .i64 (x : Int)] M (fun v => v = .int .i64 ((Lib.l10 x : Nat) : Int)) := fun H w hw =>
  (Any.internal_strconv_log10Pow2 { Tryd.itoaM with } x hx w).mono fun e w' ⟨he, hw'⟩ => ⟨_, he, hw'.symm ▸ hw, rfl⟩
theorem B2_ok (M : Mem) (b : Bool) : Fs Tryd.prog (Tryd.itoaM_ren.f 318) [.bool b] M (fun v => v = .int .i64 (if b then 1 else 0)) := fun H w hw =>
  (Any.internal_strconv_bool2_int { Tryd.itoaM with } b w).mono fun e w' ⟨he, hw'⟩ => ⟨_, he, hw'.symm ▸ hw, rfl⟩
theorem Small_ok (M : Mem) (i : Nat) (hi : i < 100) : Fs Tryd.prog (Tryd.itoaM_ren.f 283) [.int .i64 (i : Int)] M (fun v => v = .string (itoaB (i : Int))) := fun H w hw =>
  (Any.internal_strconv_small { Tryd.itoaM with } i hi w).mono fun e w' ⟨he, hw'⟩ => ⟨_, he, hw'.symm ▸ hw, by unfold itoaB Lib.itoa; rw [if_neg (by omega), Int.toNat_natCast]⟩
theorem strNums_size (l : List Int) : (strOfNums l).size = l.length := by
  show (strOfNums l).data.size = _
  rw [← Array.length_toList, strOfNums_data, List.length_map]
theorem tell_short (tb : List Nat) : ShortF (tellT tb) := fun c hc => by
  have := ndT_le tb c.natAbs
  unfold tellT
  split
  · exact Nat.le_trans (itoa_size hc) (by decide)
  · simp only
    split <;> rw [strNums_size] <;> simp <;> omega
theorem tell_small (tb : List Nat) {c : Int} (h : 0 ≤ c ∧ c < 100) : tellT tb c = itoaB c := by unfold tellT; rw [if_pos h]
theorem tell_neg (tb : List Nat) {a : Nat} (h : 1 ≤ a) : tellT tb (-(a : Int)) = strOfNums ((((fmt10 (List.replicate 24 0) (ndT tb a) a).set 0 45).take (1 + ndT tb a)).map fun n : Nat => (n : Int)) := by
  unfold tellT
  rw [if_neg (by omega)]
  simp only [show (-(a : Int)).natAbs = a by omega]
  rw [if_pos (by omega)]
theorem tell_pos (tb : List Nat) {a : Nat} (h : 100 ≤ a) : tellT tb (a : Int) = strOfNums ((((fmt10 (List.replicate 24 0) (ndT tb a) a).drop 1).take (ndT tb a)).map fun n : Nat => (n : Int)) := by
  unfold tellT
  rw [if_neg (by omega)]
  simp only [show (a : Int).natAbs = a by omega]
  rw [if_neg (by omega)]
end Go.Esp
namespace Go.Proofs.YtbeahcfghjiogaaDoor
open Go.Esp
theorem F.elem120 : slOf Tryd.prog 120 = some (5, 1, 1) := by kernel_rfl
theorem F.lay5 : lay Tryd.prog 5 = some (false, 1) := by kernel_rfl
theorem fmt_ok (M : Mem) (b n u : Nat) (L : List Nat) (hL : L.length = 24) (hn : n ≤ 20) (hu : u ≤ 18446744073709551615) : Fh Tryd.prog 62 [.slice (some ⟨b, 1, none⟩) n 23, .int .u64 (u : Int)] M [(b, blkB L 116)] (fun M' v Hout => M' = M ∧ v = .tuple #[] ∧ Hout = [(b, blkB (fmt10 L n u) 116)]) := by
  refine fh_enterF (fun H => (b, blkB L 116) :: H) (fun _ => rfl) Tryd.func62 rfl Tryd.ntmps62 rfl ?_; intro H
  refine Zj ?_; refine Za (l := [0, 1, 2]) rfl ?_; refine Zc rfl rfl rfl rfl ?_; refine Zas rfl rfl rfl rfl F.elem120 rfl ?_; refine Ze rfl rfl rfl rfl ?_; refine Zf ?_; refine Zb ?_; refine Zk (.cons (k := 4) rfl (.cons (k := 0) rfl (.cons (k := 1) rfl .nil))) ?_; refine Zj ?_; refine Zaa ?_; refine Zk (.cons (k := 1) rfl (.cons (k := 4) rfl (.cons (k := 0) rfl .nil))) ?_; refine C_loopO (Hin := [(b, blkB L 116)]) (.succ (.succ .zero)) (by repeat first | exact Rem.here _ | exact Rem.two | apply Rem.skip | apply Rem.over) (fun (k : Nat) M1 h1 z => ∃ (L1 : List Nat) (n1 u1 : Nat), M1 = M ∧ z = [(1, .int .u64 (u1 : Int)), (4, .int .i64 (n1 : Int))] ∧ h1 = [(b, blkB L1 116)] ∧ itr8 k (L, n, u) = (L1, n1, u1) ∧ n1 + 8 * k = n ∧ L1.length = 24 ∧ u1 ≤ u) (fun k => n - 8 * k) (0) (⟨L, n, u, rfl, rfl, rfl, rfl, by omega, hL, Nat.le_refl _⟩) ?_
  rintro k M1 h1 z hm1 ⟨L1, n1, u1, hM1, rfl, rfl, hit, hnk, hl1, hu1⟩
  obtain rfl := hM1.symm
  refine Zj ?_; refine Zj ?_; refine Za (l := [0, 1]) rfl ?_; refine Zc rfl rfl rfl rfl ?_; refine Zao rfl rfl rfl rfl rfl rfl ?_; refine Zf ?_; refine Zb ?_
  refine Zx rfl (fun hc1 => ?_) (fun hc1 => ?_)
  · first | replace hc1 := dT hc1 | replace hc1 := dF hc1 | replace hc1 := nT hc1 | replace hc1 := nF hc1 | skip
    first
    | (exfalso; omega)
    | (exfalso; simp [eqX] at hc1; done)
    | contradiction
    | skip
      refine Zu ?_; refine Zb ?_; refine Zaa ?_; refine Zj ?_; refine Za (l := [0, 1, 2, 3]) rfl ?_; refine Zc rfl rfl rfl rfl ?_; refine X_rem (r := ((u1 % 100000000 : Nat) : Int)) rfl rfl rfl rfl (by decide) (by rw [Int.tmod_eq_emod_of_nonneg (by omega)]; omega) rfl ?_; refine Zcb (r := ((u1 % 100000000 : Nat) : Int)) rfl rfl rfl Tryd.underlying117 Tryd.underlying107 (by rw [Zm rfl (by omega)]) rfl ?_; refine Ze rfl rfl rfl rfl ?_; refine Zf ?_; refine Zb ?_; refine Zj ?_; refine Za (l := [0, 1, 2]) rfl ?_; refine Zc rfl rfl rfl rfl ?_; refine X_quo (r := ((u1 / 100000000 : Nat) : Int)) rfl rfl rfl rfl (by decide) (by rw [Int.tdiv_eq_ediv_of_nonneg (by omega), Zz rfl (by omega)]; omega) rfl ?_; refine Ze rfl rfl rfl rfl ?_; refine Zf ?_; refine Zb ?_; refine Zj ?_; refine Za (l := [0, 1, 2, 3, 4, 5]) rfl ?_
      refine Zc rfl rfl rfl rfl ?_; refine X_quo (r := ((u1 % 100000000 / 10000 : Nat) : Int)) rfl rfl rfl rfl (by decide) (by rw [Int.tdiv_eq_ediv_of_nonneg (by omega), Zm rfl (by omega)]; omega) rfl ?_; refine Zc rfl rfl rfl rfl ?_; refine X_rem (r := ((u1 % 100000000 % 10000 : Nat) : Int)) rfl rfl rfl rfl (by decide) (by rw [Int.tmod_eq_emod_of_nonneg (by omega)]; omega) rfl ?_; refine Ze rfl rfl rfl rfl ?_; refine Ze rfl rfl rfl rfl ?_; refine Zf ?_; refine Zb ?_; refine Zj ?_; refine Za (l := [0, 1, 2, 3, 4, 5, 6, 7]) rfl ?_; refine Zc rfl rfl rfl rfl ?_; refine X_quo (r := ((u1 % 100000000 % 10000 / 100 : Nat) : Int)) rfl rfl rfl rfl (by decide) (by rw [Int.tdiv_eq_ediv_of_nonneg (by omega), Zm rfl (by omega)]; omega) rfl ?_; refine Zai (r := ((u1 % 100000000 % 10000 / 100 * 2 : Nat) : Int)) rfl rfl rfl rfl rfl (by rw [Zm rfl (by omega)]; omega) rfl ?_
      refine Zc rfl rfl rfl rfl ?_; refine X_rem (r := ((u1 % 100000000 % 10000 % 100 : Nat) : Int)) rfl rfl rfl rfl (by decide) (by rw [Int.tmod_eq_emod_of_nonneg (by omega)]; omega) rfl ?_; refine Zai (r := ((u1 % 100000000 % 10000 % 100 * 2 : Nat) : Int)) rfl rfl rfl rfl rfl (by rw [Zm rfl (by omega)]; omega) rfl ?_; refine Ze rfl rfl rfl rfl ?_; refine Ze rfl rfl rfl rfl ?_; refine Zf ?_; refine Zb ?_; refine Zj ?_; refine Za (l := [0, 1, 2, 3, 4, 5, 6, 7]) rfl ?_; refine Zc rfl rfl rfl rfl ?_; refine X_quo (r := ((u1 % 100000000 / 10000 / 100 : Nat) : Int)) rfl rfl rfl rfl (by decide) (by rw [Int.tdiv_eq_ediv_of_nonneg (by omega), Zm rfl (by omega)]; omega) rfl ?_; refine Zai (r := ((u1 % 100000000 / 10000 / 100 * 2 : Nat) : Int)) rfl rfl rfl rfl rfl (by rw [Zm rfl (by omega)]; omega) rfl ?_; refine Zc rfl rfl rfl rfl ?_
      refine X_rem (r := ((u1 % 100000000 / 10000 % 100 : Nat) : Int)) rfl rfl rfl rfl (by decide) (by rw [Int.tmod_eq_emod_of_nonneg (by omega)]; omega) rfl ?_; refine Zai (r := ((u1 % 100000000 / 10000 % 100 * 2 : Nat) : Int)) rfl rfl rfl rfl rfl (by rw [Zm rfl (by omega)]; omega) rfl ?_; refine Ze rfl rfl rfl rfl ?_; refine Ze rfl rfl rfl rfl ?_; refine Zf ?_; refine Zb ?_; refine Zj ?_; refine Zav (l := [0, 1, 2, 3, 4, 5, 6, 7, 8, 9, 10, 11, 12, 13, 14]) #[0, 0, 2, 0, 0, 16, 0, 64, 192, 0, 512, 455, 2503, 8191, 16383] _ rfl (by kernel_rfl) (by kernel_rfl) St.drawn (fun _ h => h) ?_; refine Zc rfl rfl rfl rfl ?_; refine Zc rfl rfl rfl rfl ?_; refine Zai (r := ((n1 - 1 : Nat) : Int)) rfl rfl rfl rfl rfl (by rw [Zt rfl (by omega)]; omega) rfl ?_; refine Zc rfl rfl rfl rfl ?_; refine Zc rfl rfl rfl rfl ?_; refine Zai (r := ((n1 - 2 : Nat) : Int)) rfl rfl rfl rfl rfl (by rw [Zt rfl (by omega)]; omega) rfl ?_
      refine Zc rfl rfl rfl rfl ?_; refine Zai (r := ((u1 % 100000000 % 10000 % 100 * 2 + 1 : Nat) : Int)) rfl rfl rfl rfl rfl (by rw [Zm rfl (by omega)]; omega) rfl ?_; refine Zbc (k := u1 % 100000000 % 10000 % 100 * 2 + 1) rfl rfl rfl (by kernel_rfl) rfl Tryd.underlying9 rfl (by omega) rfl ?_; refine Zc rfl rfl rfl rfl ?_; refine Zbc (k := u1 % 100000000 % 10000 % 100 * 2) rfl rfl rfl (by kernel_rfl) rfl Tryd.underlying9 rfl (by omega) rfl ?_; refine Zn rfl rfl rfl rfl F.elem120 rfl (by omega) ⟨_, _, rfl⟩ rfl ?_; refine Zbf 53 rfl (show _ = Value.pointer (some ⟨b, n1, none⟩) from by rw [Zaj, show 1 + ((n1 - 1) * 1 + 0) = n1 by omega]) ?_; refine Zbu rfl rfl rfl rfl F.lay5 (by repeat first | exact Upd.head | apply Upd.tail | apply Upd.over) (by (try simp only [List.length_set, Zaz]); omega) ?_; refine Zn rfl rfl rfl rfl F.elem120 rfl (by omega) ⟨_, _, rfl⟩ rfl ?_
      refine Zbf 54 rfl (show _ = Value.pointer (some ⟨b, n1 - 1, none⟩) from by rw [Zaj, show 1 + ((n1 - 2) * 1 + 0) = n1 - 1 by omega]) ?_; refine Zbu rfl rfl rfl rfl F.lay5 (by repeat first | exact Upd.head | apply Upd.tail | apply Upd.over) (by (try simp only [List.length_set, Zaz]); omega) ?_; refine Zf ?_; refine Zb ?_; refine Zj ?_; refine Zav (l := [0, 1, 2, 3, 4, 5, 6, 7, 8, 9, 10, 11, 12, 13, 14]) #[0, 0, 2, 0, 0, 16, 0, 64, 192, 0, 512, 455, 2503, 8191, 16383] _ rfl (by kernel_rfl) (by kernel_rfl) St.drawn (fun _ h => h) ?_; refine Zc rfl rfl rfl rfl ?_; refine Zc rfl rfl rfl rfl ?_; refine Zai (r := ((n1 - 3 : Nat) : Int)) rfl rfl rfl rfl rfl (by rw [Zt rfl (by omega)]; omega) rfl ?_; refine Zc rfl rfl rfl rfl ?_; refine Zc rfl rfl rfl rfl ?_; refine Zai (r := ((n1 - 4 : Nat) : Int)) rfl rfl rfl rfl rfl (by rw [Zt rfl (by omega)]; omega) rfl ?_
      refine Zc rfl rfl rfl rfl ?_; refine Zai (r := ((u1 % 100000000 % 10000 / 100 * 2 + 1 : Nat) : Int)) rfl rfl rfl rfl rfl (by rw [Zm rfl (by omega)]; omega) rfl ?_; refine Zbc (k := u1 % 100000000 % 10000 / 100 * 2 + 1) rfl rfl rfl (by kernel_rfl) rfl Tryd.underlying9 rfl (by omega) rfl ?_; refine Zc rfl rfl rfl rfl ?_; refine Zbc (k := u1 % 100000000 % 10000 / 100 * 2) rfl rfl rfl (by kernel_rfl) rfl Tryd.underlying9 rfl (by omega) rfl ?_; refine Zn rfl rfl rfl rfl F.elem120 rfl (by omega) ⟨_, _, rfl⟩ rfl ?_; refine Zbf 66 rfl (show _ = Value.pointer (some ⟨b, n1 - 2, none⟩) from by rw [Zaj, show 1 + ((n1 - 3) * 1 + 0) = n1 - 2 by omega]) ?_; refine Zbu rfl rfl rfl rfl F.lay5 (by repeat first | exact Upd.head | apply Upd.tail | apply Upd.over) (by (try simp only [List.length_set, Zaz]); omega) ?_; refine Zn rfl rfl rfl rfl F.elem120 rfl (by omega) ⟨_, _, rfl⟩ rfl ?_
      refine Zbf 67 rfl (show _ = Value.pointer (some ⟨b, n1 - 2 - 1, none⟩) from by rw [Zaj, show 1 + ((n1 - 4) * 1 + 0) = n1 - 2 - 1 by omega]) ?_; refine Zbu rfl rfl rfl rfl F.lay5 (by repeat first | exact Upd.head | apply Upd.tail | apply Upd.over) (by (try simp only [List.length_set, Zaz]); omega) ?_; refine Zf ?_; refine Zb ?_; refine Zj ?_; refine Zav (l := [0, 1, 2, 3, 4, 5, 6, 7, 8, 9, 10, 11, 12, 13, 14]) #[0, 0, 2, 0, 0, 16, 0, 64, 192, 0, 512, 455, 2503, 8191, 16383] _ rfl (by kernel_rfl) (by kernel_rfl) St.drawn (fun _ h => h) ?_; refine Zc rfl rfl rfl rfl ?_; refine Zc rfl rfl rfl rfl ?_; refine Zai (r := ((n1 - 5 : Nat) : Int)) rfl rfl rfl rfl rfl (by rw [Zt rfl (by omega)]; omega) rfl ?_; refine Zc rfl rfl rfl rfl ?_; refine Zc rfl rfl rfl rfl ?_; refine Zai (r := ((n1 - 6 : Nat) : Int)) rfl rfl rfl rfl rfl (by rw [Zt rfl (by omega)]; omega) rfl ?_
      refine Zc rfl rfl rfl rfl ?_; refine Zai (r := ((u1 % 100000000 / 10000 % 100 * 2 + 1 : Nat) : Int)) rfl rfl rfl rfl rfl (by rw [Zm rfl (by omega)]; omega) rfl ?_; refine Zbc (k := u1 % 100000000 / 10000 % 100 * 2 + 1) rfl rfl rfl (by kernel_rfl) rfl Tryd.underlying9 rfl (by omega) rfl ?_; refine Zc rfl rfl rfl rfl ?_; refine Zbc (k := u1 % 100000000 / 10000 % 100 * 2) rfl rfl rfl (by kernel_rfl) rfl Tryd.underlying9 rfl (by omega) rfl ?_; refine Zn rfl rfl rfl rfl F.elem120 rfl (by omega) ⟨_, _, rfl⟩ rfl ?_; refine Zbf 79 rfl (show _ = Value.pointer (some ⟨b, n1 - 4, none⟩) from by rw [Zaj, show 1 + ((n1 - 5) * 1 + 0) = n1 - 4 by omega]) ?_; refine Zbu rfl rfl rfl rfl F.lay5 (by repeat first | exact Upd.head | apply Upd.tail | apply Upd.over) (by (try simp only [List.length_set, Zaz]); omega) ?_; refine Zn rfl rfl rfl rfl F.elem120 rfl (by omega) ⟨_, _, rfl⟩ rfl ?_
      refine Zbf 80 rfl (show _ = Value.pointer (some ⟨b, n1 - 4 - 1, none⟩) from by rw [Zaj, show 1 + ((n1 - 6) * 1 + 0) = n1 - 4 - 1 by omega]) ?_; refine Zbu rfl rfl rfl rfl F.lay5 (by repeat first | exact Upd.head | apply Upd.tail | apply Upd.over) (by (try simp only [List.length_set, Zaz]); omega) ?_; refine Zf ?_; refine Zb ?_; refine Zj ?_; refine Zav (l := [0, 1, 2, 3, 4, 5, 6, 7, 8, 9, 10, 11, 12, 13, 14]) #[0, 0, 2, 0, 0, 16, 0, 64, 192, 0, 512, 455, 2503, 8191, 16383] _ rfl (by kernel_rfl) (by kernel_rfl) St.drawn (fun _ h => h) ?_; refine Zc rfl rfl rfl rfl ?_; refine Zc rfl rfl rfl rfl ?_; refine Zai (r := ((n1 - 7 : Nat) : Int)) rfl rfl rfl rfl rfl (by rw [Zt rfl (by omega)]; omega) rfl ?_; refine Zc rfl rfl rfl rfl ?_; refine Zc rfl rfl rfl rfl ?_; refine Zai (r := ((n1 - 8 : Nat) : Int)) rfl rfl rfl rfl rfl (by rw [Zt rfl (by omega)]; omega) rfl ?_
      refine Zc rfl rfl rfl rfl ?_; refine Zai (r := ((u1 % 100000000 / 10000 / 100 * 2 + 1 : Nat) : Int)) rfl rfl rfl rfl rfl (by rw [Zm rfl (by omega)]; omega) rfl ?_; refine Zbc (k := u1 % 100000000 / 10000 / 100 * 2 + 1) rfl rfl rfl (by kernel_rfl) rfl Tryd.underlying9 rfl (by omega) rfl ?_; refine Zc rfl rfl rfl rfl ?_; refine Zbc (k := u1 % 100000000 / 10000 / 100 * 2) rfl rfl rfl (by kernel_rfl) rfl Tryd.underlying9 rfl (by omega) rfl ?_; refine Zn rfl rfl rfl rfl F.elem120 rfl (by omega) ⟨_, _, rfl⟩ rfl ?_; refine Zbf 92 rfl (show _ = Value.pointer (some ⟨b, n1 - 6, none⟩) from by rw [Zaj, show 1 + ((n1 - 7) * 1 + 0) = n1 - 6 by omega]) ?_; refine Zbu rfl rfl rfl rfl F.lay5 (by repeat first | exact Upd.head | apply Upd.tail | apply Upd.over) (by (try simp only [List.length_set, Zaz]); omega) ?_; refine Zn rfl rfl rfl rfl F.elem120 rfl (by omega) ⟨_, _, rfl⟩ rfl ?_
      refine Zbf 93 rfl (show _ = Value.pointer (some ⟨b, n1 - 6 - 1, none⟩) from by rw [Zaj, show 1 + ((n1 - 8) * 1 + 0) = n1 - 6 - 1 by omega]) ?_; refine Zbu rfl rfl rfl rfl F.lay5 (by repeat first | exact Upd.head | apply Upd.tail | apply Upd.over) (by (try simp only [List.length_set, Zaz]); omega) ?_; refine Zf ?_; refine Zb ?_; refine Za (l := [0, 1, 2]) rfl ?_; refine Zc rfl rfl rfl rfl ?_; refine Zai (r := ((n1 - 8 : Nat) : Int)) rfl rfl rfl rfl rfl (by rw [Zt rfl (by omega)]; omega) rfl ?_; refine Ze rfl rfl rfl rfl ?_; refine Zf ?_; refine Zbk ?_; refine Zbg (a' := [(1, _), (4, _)]) (k + 1) ([(b, blkB (put2 (put2 (put2 (put2 L1 n1 (u1 % 100000000 % 10000 % 100 * 2)) (n1 - 2) (u1 % 100000000 % 10000 / 100 * 2)) (n1 - 4) (u1 % 100000000 / 10000 % 100 * 2)) (n1 - 6) (u1 % 100000000 / 10000 / 100 * 2)) 116)]) (.cons (k := 1) rfl (.cons (k := 4) rfl (.cons (k := 0) rfl (.nil)))) (Mem.le.refl M) (fun w hw => by first | exact hw | exact hw.cnt (by intro zz; first | exact Nat.le_refl _ | (simp only [Zh, Zd, Zi, cat, List.append_eq, List.append_assoc, List.cons_append, List.nil_append, List.append_nil]; omega) | (simp only [Zh, Zd, Zi, cat, List.append_eq, List.append_assoc, List.cons_append, List.nil_append, List.append_nil, StepL06V.segs]; omega))) ?_ ?_
      · refine ⟨put2 (put2 (put2 (put2 L1 n1 (u1 % 100000000 % 10000 % 100 * 2)) (n1 - 2) (u1 % 100000000 % 10000 / 100 * 2)) (n1 - 4) (u1 % 100000000 / 10000 % 100 * 2)) (n1 - 6) (u1 % 100000000 / 10000 / 100 * 2), n1 - 8, u1 / 100000000, rfl, rfl, rfl, ?_, by omega, by simp only [Zaz]; exact hl1, Nat.le_trans (Nat.div_le_self _ _) hu1⟩
        rw [itr8, hit]
        rfl
      · omega
  · first | replace hc1 := dT hc1 | replace hc1 := dF hc1 | replace hc1 := nT hc1 | replace hc1 := nF hc1 | skip
    first
    | (exfalso; omega)
    | (exfalso; simp [eqX] at hc1; done)
    | contradiction
    | skip
      refine Zbt ?_; refine Zbd ?_; refine Zbd ?_; refine Zca ?_; refine Zb ?_; refine Zk (.cons (k := 1) rfl (.cons (k := 4) rfl (.cons (k := 0) rfl .nil))) ?_; refine Zj ?_; refine Za (l := [0, 1, 2]) rfl ?_; refine Zc rfl rfl rfl rfl ?_; refine Zcb (r := ((u1 % 4294967296 : Nat) : Int)) rfl rfl rfl Tryd.underlying117 Tryd.underlying107 (by rw [Zak]; unfold w32; omega) rfl ?_; refine Ze rfl rfl rfl rfl ?_; refine Zf ?_; refine Zb ?_; refine Zk (.cons (k := 12) rfl (.cons (k := 4) rfl (.cons (k := 0) rfl .nil))) ?_; refine Zj ?_; refine Zj ?_; refine Za (l := [0, 1]) rfl ?_; refine Zc rfl rfl rfl rfl ?_; refine Zao rfl rfl rfl rfl rfl rfl ?_; refine Zf ?_; refine Zb ?_; refine Zk (.cons (k := 99) rfl (.cons (k := 12) rfl (.cons (k := 4) rfl (.cons (k := 0) rfl .nil)))) ?_
      refine Zx rfl (fun hc2 => ?_) (fun hc2 => ?_)
      · first | replace hc2 := dT hc2 | replace hc2 := dF hc2 | replace hc2 := nT hc2 | replace hc2 := nF hc2 | skip
        first
        | (exfalso; omega)
        | (exfalso; simp [eqX] at hc2; done)
        | contradiction
        | skip
          refine Zj ?_; refine Za (l := [0, 1, 2]) rfl ?_; refine Zc rfl rfl rfl rfl ?_; refine X_rem (r := ((u1 % 4294967296 % 10000 : Nat) : Int)) rfl rfl rfl rfl (by decide) (by rw [Int.tmod_eq_emod_of_nonneg (by omega)]; omega) rfl ?_; refine Ze rfl rfl rfl rfl ?_; refine Zf ?_; refine Zb ?_; refine Zk (.cons (k := 13) rfl (.cons (k := 12) rfl (.cons (k := 4) rfl (.cons (k := 0) rfl .nil)))) ?_; refine Zj ?_; refine Za (l := [0, 1, 2]) rfl ?_; refine Zc rfl rfl rfl rfl ?_; refine X_quo (r := ((u1 % 4294967296 / 10000 : Nat) : Int)) rfl rfl rfl rfl (by decide) (by rw [Int.tdiv_eq_ediv_of_nonneg (by omega), Zm rfl (by omega)]; omega) rfl ?_; refine Ze rfl rfl rfl rfl ?_; refine Zf ?_; refine Zb ?_; refine Zk (.cons (k := 12) rfl (.cons (k := 13) rfl (.cons (k := 4) rfl (.cons (k := 0) rfl .nil)))) ?_; refine Zj ?_
          refine Za (l := [0, 1, 2, 3, 4, 5, 6, 7]) rfl ?_; refine Zc rfl rfl rfl rfl ?_; refine X_quo (r := ((u1 % 4294967296 % 10000 / 100 : Nat) : Int)) rfl rfl rfl rfl (by decide) (by rw [Int.tdiv_eq_ediv_of_nonneg (by omega), Zm rfl (by omega)]; omega) rfl ?_; refine Zai (r := ((u1 % 4294967296 % 10000 / 100 * 2 : Nat) : Int)) rfl rfl rfl rfl rfl (by rw [Zm rfl (by omega)]; omega) rfl ?_; refine Zc rfl rfl rfl rfl ?_; refine X_rem (r := ((u1 % 4294967296 % 10000 % 100 : Nat) : Int)) rfl rfl rfl rfl (by decide) (by rw [Int.tmod_eq_emod_of_nonneg (by omega)]; omega) rfl ?_; refine Zai (r := ((u1 % 4294967296 % 10000 % 100 * 2 : Nat) : Int)) rfl rfl rfl rfl rfl (by rw [Zm rfl (by omega)]; omega) rfl ?_; refine Ze rfl rfl rfl rfl ?_; refine Ze rfl rfl rfl rfl ?_; refine Zf ?_; refine Zb ?_; refine Zk (.cons (k := 15) rfl (.cons (k := 14) rfl (.cons (k := 12) rfl (.cons (k := 4) rfl (.cons (k := 0) rfl .nil))))) ?_
          refine Zj ?_; refine Zav (l := [0, 1, 2, 3, 4, 5, 6, 7, 8, 9, 10, 11, 12, 13, 14]) #[0, 0, 2, 0, 0, 16, 0, 64, 192, 0, 512, 455, 2503, 8191, 16383] _ rfl (by kernel_rfl) (by kernel_rfl) St.drawn (fun _ h => h) ?_; refine Zc rfl rfl rfl rfl ?_; refine Zc rfl rfl rfl rfl ?_; refine Zai (r := ((n1 - 1 : Nat) : Int)) rfl rfl rfl rfl rfl (by rw [Zt rfl (by omega)]; omega) rfl ?_; refine Zc rfl rfl rfl rfl ?_; refine Zc rfl rfl rfl rfl ?_; refine Zai (r := ((n1 - 2 : Nat) : Int)) rfl rfl rfl rfl rfl (by rw [Zt rfl (by omega)]; omega) rfl ?_; refine Zc rfl rfl rfl rfl ?_; refine Zai (r := ((u1 % 4294967296 % 10000 % 100 * 2 + 1 : Nat) : Int)) rfl rfl rfl rfl rfl (by rw [Zm rfl (by omega)]; omega) rfl ?_; refine Zbc (k := u1 % 4294967296 % 10000 % 100 * 2 + 1) rfl rfl rfl (by kernel_rfl) rfl Tryd.underlying9 rfl (by omega) rfl ?_
          refine Zc rfl rfl rfl rfl ?_; refine Zbc (k := u1 % 4294967296 % 10000 % 100 * 2) rfl rfl rfl (by kernel_rfl) rfl Tryd.underlying9 rfl (by omega) rfl ?_; refine Zn rfl rfl rfl rfl F.elem120 rfl (by omega) ⟨_, _, rfl⟩ rfl ?_; refine Zbf 121 rfl (show _ = Value.pointer (some ⟨b, n1, none⟩) from by rw [Zaj, show 1 + ((n1 - 1) * 1 + 0) = n1 by omega]) ?_; refine Zbu rfl rfl rfl rfl F.lay5 (by repeat first | exact Upd.head | apply Upd.tail | apply Upd.over) (by (try simp only [List.length_set, Zaz]); omega) ?_; refine Zn rfl rfl rfl rfl F.elem120 rfl (by omega) ⟨_, _, rfl⟩ rfl ?_; refine Zbf 122 rfl (show _ = Value.pointer (some ⟨b, n1 - 1, none⟩) from by rw [Zaj, show 1 + ((n1 - 2) * 1 + 0) = n1 - 1 by omega]) ?_; refine Zbu rfl rfl rfl rfl F.lay5 (by repeat first | exact Upd.head | apply Upd.tail | apply Upd.over) (by (try simp only [List.length_set, Zaz]); omega) ?_
          refine Zf ?_; refine Zb ?_; refine Zk (.cons (k := 14) rfl (.cons (k := 12) rfl (.cons (k := 4) rfl (.cons (k := 0) rfl .nil)))) ?_; refine Zj ?_; refine Zav (l := [0, 1, 2, 3, 4, 5, 6, 7, 8, 9, 10, 11, 12, 13, 14]) #[0, 0, 2, 0, 0, 16, 0, 64, 192, 0, 512, 455, 2503, 8191, 16383] _ rfl (by kernel_rfl) (by kernel_rfl) St.drawn (fun _ h => h) ?_; refine Zc rfl rfl rfl rfl ?_; refine Zc rfl rfl rfl rfl ?_; refine Zai (r := ((n1 - 3 : Nat) : Int)) rfl rfl rfl rfl rfl (by rw [Zt rfl (by omega)]; omega) rfl ?_; refine Zc rfl rfl rfl rfl ?_; refine Zc rfl rfl rfl rfl ?_; refine Zai (r := ((n1 - 4 : Nat) : Int)) rfl rfl rfl rfl rfl (by rw [Zt rfl (by omega)]; omega) rfl ?_; refine Zc rfl rfl rfl rfl ?_; refine Zai (r := ((u1 % 4294967296 % 10000 / 100 * 2 + 1 : Nat) : Int)) rfl rfl rfl rfl rfl (by rw [Zm rfl (by omega)]; omega) rfl ?_
          refine Zbc (k := u1 % 4294967296 % 10000 / 100 * 2 + 1) rfl rfl rfl (by kernel_rfl) rfl Tryd.underlying9 rfl (by omega) rfl ?_; refine Zc rfl rfl rfl rfl ?_; refine Zbc (k := u1 % 4294967296 % 10000 / 100 * 2) rfl rfl rfl (by kernel_rfl) rfl Tryd.underlying9 rfl (by omega) rfl ?_; refine Zn rfl rfl rfl rfl F.elem120 rfl (by omega) ⟨_, _, rfl⟩ rfl ?_; refine Zbf 134 rfl (show _ = Value.pointer (some ⟨b, n1 - 2, none⟩) from by rw [Zaj, show 1 + ((n1 - 3) * 1 + 0) = n1 - 2 by omega]) ?_; refine Zbu rfl rfl rfl rfl F.lay5 (by repeat first | exact Upd.head | apply Upd.tail | apply Upd.over) (by (try simp only [List.length_set, Zaz]); omega) ?_; refine Zn rfl rfl rfl rfl F.elem120 rfl (by omega) ⟨_, _, rfl⟩ rfl ?_; refine Zbf 135 rfl (show _ = Value.pointer (some ⟨b, n1 - 2 - 1, none⟩) from by rw [Zaj, show 1 + ((n1 - 4) * 1 + 0) = n1 - 2 - 1 by omega]) ?_
          refine Zbu rfl rfl rfl rfl F.lay5 (by repeat first | exact Upd.head | apply Upd.tail | apply Upd.over) (by (try simp only [List.length_set, Zaz]); omega) ?_; refine Zf ?_; refine Zb ?_; refine Zk (.cons (k := 12) rfl (.cons (k := 4) rfl (.cons (k := 0) rfl .nil))) ?_; refine Za (l := [0, 1, 2]) rfl ?_; refine Zc rfl rfl rfl rfl ?_; refine Zai (r := ((n1 - 4 : Nat) : Int)) rfl rfl rfl rfl rfl (by rw [Zt rfl (by omega)]; omega) rfl ?_; refine Ze rfl rfl rfl rfl ?_; refine Zf ?_; refine Zb ?_; refine Zk (.cons (k := 4) rfl (.cons (k := 12) rfl (.cons (k := 0) rfl .nil))) ?_; refine Zj ?_; refine Zj ?_; refine Za (l := [0, 1]) rfl ?_; refine Zc rfl rfl rfl rfl ?_; refine Zao rfl rfl rfl rfl rfl rfl ?_; refine Zf ?_; refine Zb ?_; refine Zk (.cons (k := 139) rfl (.cons (k := 4) rfl (.cons (k := 12) rfl (.cons (k := 0) rfl .nil)))) ?_
          refine Zx rfl (fun hc3 => ?_) (fun hc3 => ?_)
          · first | replace hc3 := dT hc3 | replace hc3 := dF hc3 | replace hc3 := nT hc3 | replace hc3 := nF hc3 | skip
            first
            | (exfalso; omega)
            | (exfalso; simp [eqX] at hc3; done)
            | contradiction
            | skip
              refine Zj ?_; refine Za (l := [0, 1, 2, 3]) rfl ?_; refine Zc rfl rfl rfl rfl ?_; refine X_rem (r := ((u1 % 4294967296 / 10000 % 100 : Nat) : Int)) rfl rfl rfl rfl (by decide) (by rw [Int.tmod_eq_emod_of_nonneg (by omega)]; omega) rfl ?_; refine Zai (r := ((u1 % 4294967296 / 10000 % 100 * 2 : Nat) : Int)) rfl rfl rfl rfl rfl (by rw [Zm rfl (by omega)]; omega) rfl ?_; refine Ze rfl rfl rfl rfl ?_; refine Zf ?_; refine Zb ?_; refine Zk (.cons (k := 16) rfl (.cons (k := 4) rfl (.cons (k := 12) rfl (.cons (k := 0) rfl .nil)))) ?_; refine Zj ?_; refine Za (l := [0, 1, 2]) rfl ?_; refine Zc rfl rfl rfl rfl ?_; refine X_quo (r := ((u1 % 4294967296 / 10000 / 100 : Nat) : Int)) rfl rfl rfl rfl (by decide) (by rw [Int.tdiv_eq_ediv_of_nonneg (by omega), Zm rfl (by omega)]; omega) rfl ?_; refine Ze rfl rfl rfl rfl ?_
              refine Zf ?_; refine Zb ?_; refine Zk (.cons (k := 12) rfl (.cons (k := 16) rfl (.cons (k := 4) rfl (.cons (k := 0) rfl .nil)))) ?_; refine Zj ?_; refine Zav (l := [0, 1, 2, 3, 4, 5, 6, 7, 8, 9, 10, 11, 12, 13, 14]) #[0, 0, 2, 0, 0, 16, 0, 64, 192, 0, 512, 455, 2503, 8191, 16383] _ rfl (by kernel_rfl) (by kernel_rfl) St.drawn (fun _ h => h) ?_; refine Zc rfl rfl rfl rfl ?_; refine Zc rfl rfl rfl rfl ?_; refine Zai (r := (((n1 - 4) - 1 : Nat) : Int)) rfl rfl rfl rfl rfl (by rw [Zt rfl (by omega)]; omega) rfl ?_; refine Zc rfl rfl rfl rfl ?_; refine Zc rfl rfl rfl rfl ?_; refine Zai (r := (((n1 - 4) - 2 : Nat) : Int)) rfl rfl rfl rfl rfl (by rw [Zt rfl (by omega)]; omega) rfl ?_; refine Zc rfl rfl rfl rfl ?_; refine Zai (r := ((u1 % 4294967296 / 10000 % 100 * 2 + 1 : Nat) : Int)) rfl rfl rfl rfl rfl (by rw [Zm rfl (by omega)]; omega) rfl ?_
              refine Zbc (k := u1 % 4294967296 / 10000 % 100 * 2 + 1) rfl rfl rfl (by kernel_rfl) rfl Tryd.underlying9 rfl (by omega) rfl ?_; refine Zc rfl rfl rfl rfl ?_; refine Zbc (k := u1 % 4294967296 / 10000 % 100 * 2) rfl rfl rfl (by kernel_rfl) rfl Tryd.underlying9 rfl (by omega) rfl ?_; refine Zn rfl rfl rfl rfl F.elem120 rfl (by omega) ⟨_, _, rfl⟩ rfl ?_; refine Zbf 156 rfl (show _ = Value.pointer (some ⟨b, (n1 - 4), none⟩) from by rw [Zaj, show 1 + (((n1 - 4) - 1) * 1 + 0) = (n1 - 4) by omega]) ?_; refine Zbu rfl rfl rfl rfl F.lay5 (by repeat first | exact Upd.head | apply Upd.tail | apply Upd.over) (by (try simp only [List.length_set, Zaz]); omega) ?_; refine Zn rfl rfl rfl rfl F.elem120 rfl (by omega) ⟨_, _, rfl⟩ rfl ?_; refine Zbf 157 rfl (show _ = Value.pointer (some ⟨b, (n1 - 4) - 1, none⟩) from by rw [Zaj, show 1 + (((n1 - 4) - 2) * 1 + 0) = (n1 - 4) - 1 by omega]) ?_
              refine Zbu rfl rfl rfl rfl F.lay5 (by repeat first | exact Upd.head | apply Upd.tail | apply Upd.over) (by (try simp only [List.length_set, Zaz]); omega) ?_; refine Zf ?_; refine Zb ?_; refine Zk (.cons (k := 12) rfl (.cons (k := 4) rfl (.cons (k := 0) rfl .nil))) ?_; refine Za (l := [0, 1, 2]) rfl ?_; refine Zc rfl rfl rfl rfl ?_; refine Zai (r := (((n1 - 4) - 2 : Nat) : Int)) rfl rfl rfl rfl rfl (by rw [Zt rfl (by omega)]; omega) rfl ?_; refine Ze rfl rfl rfl rfl ?_; refine Zf ?_; refine Zb ?_; refine Zk (.cons (k := 4) rfl (.cons (k := 12) rfl (.cons (k := 0) rfl .nil))) ?_; refine Zj ?_; refine Za (l := [0, 1]) rfl ?_; refine Zc rfl rfl rfl rfl ?_; refine Zao rfl rfl rfl rfl rfl rfl ?_; refine Zf ?_; refine Zb ?_; refine Zk (.cons (k := 161) rfl (.cons (k := 12) rfl (.cons (k := 0) rfl .nil))) ?_
              refine Zx rfl (fun hc4 => ?_) (fun hc4 => ?_)
              · first | replace hc4 := dT hc4 | replace hc4 := dF hc4 | replace hc4 := nT hc4 | replace hc4 := nF hc4 | skip
                first
                | (exfalso; omega)
                | (exfalso; simp [eqX] at hc4; done)
                | contradiction
                | skip
                  refine Za (l := [0, 1, 2, 3, 4, 5]) rfl ?_; refine Zc rfl rfl rfl rfl ?_; refine Zc rfl rfl rfl rfl ?_; refine Zai (r := (((48 + u1 % 4294967296 / 10000 / 100) % 4294967296 : Nat) : Int)) rfl rfl rfl rfl rfl (by rw [Zak]; unfold w32; omega) rfl ?_; refine Zcb (r := (((48 + u1 % 4294967296 / 10000 / 100) % 4294967296 % 256 : Nat) : Int)) rfl rfl rfl Tryd.underlying107 Tryd.underlying5 (by rw [Zay]; unfold w8; omega) rfl ?_; refine Zn (k := 0) rfl rfl rfl rfl F.elem120 rfl (by omega) ⟨_, _, rfl⟩ rfl ?_; refine Zbf 166 rfl (show _ = Value.pointer (some ⟨b, 1, none⟩) from by rw [Zaj]) ?_; refine Zbu rfl rfl rfl rfl F.lay5 (by repeat first | exact Upd.head | apply Upd.tail | apply Upd.over) (by (try simp only [List.length_set, Zaz]); omega) ?_; refine Zf ?_
                  refine Zab (.inl rfl) (.nil) (fun w hw => ?_)
                  refine ⟨_, M, [(b, blkB (fmt10 L n u) 116)], rfl, Mem.le.refl M, ?_, rfl, rfl, rfl⟩
                  have e9 : fmt10 L n u = part1 (part2 (part4 (L1, n1, u1 % 4294967296))) := by
                    unfold fmt10
                    rw [show n / 8 = k by omega, hit]
                  rw [e9]
                  unfold part4; rw [if_pos (show 4 ≤ n1 by omega)]
                  unfold part2; rw [if_pos (show 2 ≤ n1 - 4 by omega)]
                  unfold part1; rw [if_pos (show 0 < n1 - 4 - 2 by omega)]
                  exact hw.cnt (by intro zz; first | exact Nat.le_refl _ | (simp only [Zh, Zd, Zi, cat, List.append_eq, List.append_assoc, List.cons_append, List.nil_append, List.append_nil]; omega) | (simp only [Zh, Zd, Zi, cat, List.append_eq, List.append_assoc, List.cons_append, List.nil_append, List.append_nil, StepL06V.segs]; omega))
              · first | replace hc4 := dT hc4 | replace hc4 := dF hc4 | replace hc4 := nT hc4 | replace hc4 := nF hc4 | skip
                first
                | (exfalso; omega)
                | (exfalso; simp [eqX] at hc4; done)
                | contradiction
                | skip
                  refine Zu ?_
                  refine Zab (.inl rfl) (.nil) (fun w hw => ?_)
                  refine ⟨_, M, [(b, blkB (fmt10 L n u) 116)], rfl, Mem.le.refl M, ?_, rfl, rfl, rfl⟩
                  have e9 : fmt10 L n u = part1 (part2 (part4 (L1, n1, u1 % 4294967296))) := by
                    unfold fmt10
                    rw [show n / 8 = k by omega, hit]
                  rw [e9]
                  unfold part4; rw [if_pos (show 4 ≤ n1 by omega)]
                  unfold part2; rw [if_pos (show 2 ≤ n1 - 4 by omega)]
                  unfold part1; rw [if_neg (show ¬ 0 < n1 - 4 - 2 by omega)]
                  exact hw.cnt (by intro zz; first | exact Nat.le_refl _ | (simp only [Zh, Zd, Zi, cat, List.append_eq, List.append_assoc, List.cons_append, List.nil_append, List.append_nil]; omega) | (simp only [Zh, Zd, Zi, cat, List.append_eq, List.append_assoc, List.cons_append, List.nil_append, List.append_nil, StepL06V.segs]; omega))
          · first | replace hc3 := dT hc3 | replace hc3 := dF hc3 | replace hc3 := nT hc3 | replace hc3 := nF hc3 | skip
            first
            | (exfalso; omega)
            | (exfalso; simp [eqX] at hc3; done)
            | contradiction
            | skip
              refine Zu ?_; refine Zb ?_; refine Zk (.cons (k := 4) rfl (.cons (k := 12) rfl (.cons (k := 0) rfl .nil))) ?_; refine Zj ?_; refine Za (l := [0, 1]) rfl ?_; refine Zc rfl rfl rfl rfl ?_; refine Zao rfl rfl rfl rfl rfl rfl ?_; refine Zf ?_; refine Zb ?_; refine Zk (.cons (k := 161) rfl (.cons (k := 12) rfl (.cons (k := 0) rfl .nil))) ?_
              refine Zx rfl (fun hc5 => ?_) (fun hc5 => ?_)
              · first | replace hc5 := dT hc5 | replace hc5 := dF hc5 | replace hc5 := nT hc5 | replace hc5 := nF hc5 | skip
                first
                | (exfalso; omega)
                | (exfalso; simp [eqX] at hc5; done)
                | contradiction
                | skip
                  refine Za (l := [0, 1, 2, 3, 4, 5]) rfl ?_; refine Zc rfl rfl rfl rfl ?_; refine Zc rfl rfl rfl rfl ?_; refine Zai (r := (((48 + u1 % 4294967296 / 10000) % 4294967296 : Nat) : Int)) rfl rfl rfl rfl rfl (by rw [Zak]; unfold w32; omega) rfl ?_; refine Zcb (r := (((48 + u1 % 4294967296 / 10000) % 4294967296 % 256 : Nat) : Int)) rfl rfl rfl Tryd.underlying107 Tryd.underlying5 (by rw [Zay]; unfold w8; omega) rfl ?_; refine Zn (k := 0) rfl rfl rfl rfl F.elem120 rfl (by omega) ⟨_, _, rfl⟩ rfl ?_; refine Zbf 166 rfl (show _ = Value.pointer (some ⟨b, 1, none⟩) from by rw [Zaj]) ?_; refine Zbu rfl rfl rfl rfl F.lay5 (by repeat first | exact Upd.head | apply Upd.tail | apply Upd.over) (by (try simp only [List.length_set, Zaz]); omega) ?_; refine Zf ?_
                  refine Zab (.inl rfl) (.nil) (fun w hw => ?_)
                  refine ⟨_, M, [(b, blkB (fmt10 L n u) 116)], rfl, Mem.le.refl M, ?_, rfl, rfl, rfl⟩
                  have e9 : fmt10 L n u = part1 (part2 (part4 (L1, n1, u1 % 4294967296))) := by
                    unfold fmt10
                    rw [show n / 8 = k by omega, hit]
                  rw [e9]
                  unfold part4; rw [if_pos (show 4 ≤ n1 by omega)]
                  unfold part2; rw [if_neg (show ¬ 2 ≤ n1 - 4 by omega)]
                  unfold part1; rw [if_pos (show 0 < n1 - 4 by omega)]
                  exact hw.cnt (by intro zz; first | exact Nat.le_refl _ | (simp only [Zh, Zd, Zi, cat, List.append_eq, List.append_assoc, List.cons_append, List.nil_append, List.append_nil]; omega) | (simp only [Zh, Zd, Zi, cat, List.append_eq, List.append_assoc, List.cons_append, List.nil_append, List.append_nil, StepL06V.segs]; omega))
              · first | replace hc5 := dT hc5 | replace hc5 := dF hc5 | replace hc5 := nT hc5 | replace hc5 := nF hc5 | skip
                first
                | (exfalso; omega)
                | (exfalso; simp [eqX] at hc5; done)
                | contradiction
                | skip
                  refine Zu ?_
                  refine Zab (.inl rfl) (.nil) (fun w hw => ?_)
                  refine ⟨_, M, [(b, blkB (fmt10 L n u) 116)], rfl, Mem.le.refl M, ?_, rfl, rfl, rfl⟩
                  have e9 : fmt10 L n u = part1 (part2 (part4 (L1, n1, u1 % 4294967296))) := by
                    unfold fmt10
                    rw [show n / 8 = k by omega, hit]
                  rw [e9]
                  unfold part4; rw [if_pos (show 4 ≤ n1 by omega)]
                  unfold part2; rw [if_neg (show ¬ 2 ≤ n1 - 4 by omega)]
                  unfold part1; rw [if_neg (show ¬ 0 < n1 - 4 by omega)]
                  exact hw.cnt (by intro zz; first | exact Nat.le_refl _ | (simp only [Zh, Zd, Zi, cat, List.append_eq, List.append_assoc, List.cons_append, List.nil_append, List.append_nil]; omega) | (simp only [Zh, Zd, Zi, cat, List.append_eq, List.append_assoc, List.cons_append, List.nil_append, List.append_nil, StepL06V.segs]; omega))
      · first | replace hc2 := dT hc2 | replace hc2 := dF hc2 | replace hc2 := nT hc2 | replace hc2 := nF hc2 | skip
        first
        | (exfalso; omega)
        | (exfalso; simp [eqX] at hc2; done)
        | contradiction
        | skip
          refine Zu ?_; refine Zb ?_; refine Zk (.cons (k := 12) rfl (.cons (k := 4) rfl (.cons (k := 0) rfl .nil))) ?_; refine Zj ?_; refine Zj ?_; refine Za (l := [0, 1]) rfl ?_; refine Zc rfl rfl rfl rfl ?_; refine Zao rfl rfl rfl rfl rfl rfl ?_; refine Zf ?_; refine Zb ?_; refine Zk (.cons (k := 139) rfl (.cons (k := 12) rfl (.cons (k := 4) rfl (.cons (k := 0) rfl .nil)))) ?_
          refine Zx rfl (fun hc6 => ?_) (fun hc6 => ?_)
          · first | replace hc6 := dT hc6 | replace hc6 := dF hc6 | replace hc6 := nT hc6 | replace hc6 := nF hc6 | skip
            first
            | (exfalso; omega)
            | (exfalso; simp [eqX] at hc6; done)
            | contradiction
            | skip
              refine Zj ?_; refine Za (l := [0, 1, 2, 3]) rfl ?_; refine Zc rfl rfl rfl rfl ?_; refine X_rem (r := ((u1 % 4294967296 % 100 : Nat) : Int)) rfl rfl rfl rfl (by decide) (by rw [Int.tmod_eq_emod_of_nonneg (by omega)]; omega) rfl ?_; refine Zai (r := ((u1 % 4294967296 % 100 * 2 : Nat) : Int)) rfl rfl rfl rfl rfl (by rw [Zm rfl (by omega)]; omega) rfl ?_; refine Ze rfl rfl rfl rfl ?_; refine Zf ?_; refine Zb ?_; refine Zk (.cons (k := 16) rfl (.cons (k := 12) rfl (.cons (k := 4) rfl (.cons (k := 0) rfl .nil)))) ?_; refine Zj ?_; refine Za (l := [0, 1, 2]) rfl ?_; refine Zc rfl rfl rfl rfl ?_; refine X_quo (r := ((u1 % 4294967296 / 100 : Nat) : Int)) rfl rfl rfl rfl (by decide) (by rw [Int.tdiv_eq_ediv_of_nonneg (by omega), Zm rfl (by omega)]; omega) rfl ?_; refine Ze rfl rfl rfl rfl ?_; refine Zf ?_; refine Zb ?_
              refine Zk (.cons (k := 12) rfl (.cons (k := 16) rfl (.cons (k := 4) rfl (.cons (k := 0) rfl .nil)))) ?_; refine Zj ?_; refine Zav (l := [0, 1, 2, 3, 4, 5, 6, 7, 8, 9, 10, 11, 12, 13, 14]) #[0, 0, 2, 0, 0, 16, 0, 64, 192, 0, 512, 455, 2503, 8191, 16383] _ rfl (by kernel_rfl) (by kernel_rfl) St.drawn (fun _ h => h) ?_; refine Zc rfl rfl rfl rfl ?_; refine Zc rfl rfl rfl rfl ?_; refine Zai (r := ((n1 - 1 : Nat) : Int)) rfl rfl rfl rfl rfl (by rw [Zt rfl (by omega)]; omega) rfl ?_; refine Zc rfl rfl rfl rfl ?_; refine Zc rfl rfl rfl rfl ?_; refine Zai (r := ((n1 - 2 : Nat) : Int)) rfl rfl rfl rfl rfl (by rw [Zt rfl (by omega)]; omega) rfl ?_; refine Zc rfl rfl rfl rfl ?_; refine Zai (r := ((u1 % 4294967296 % 100 * 2 + 1 : Nat) : Int)) rfl rfl rfl rfl rfl (by rw [Zm rfl (by omega)]; omega) rfl ?_; refine Zbc (k := u1 % 4294967296 % 100 * 2 + 1) rfl rfl rfl (by kernel_rfl) rfl Tryd.underlying9 rfl (by omega) rfl ?_
              refine Zc rfl rfl rfl rfl ?_; refine Zbc (k := u1 % 4294967296 % 100 * 2) rfl rfl rfl (by kernel_rfl) rfl Tryd.underlying9 rfl (by omega) rfl ?_; refine Zn rfl rfl rfl rfl F.elem120 rfl (by omega) ⟨_, _, rfl⟩ rfl ?_; refine Zbf 156 rfl (show _ = Value.pointer (some ⟨b, n1, none⟩) from by rw [Zaj, show 1 + ((n1 - 1) * 1 + 0) = n1 by omega]) ?_; refine Zbu rfl rfl rfl rfl F.lay5 (by repeat first | exact Upd.head | apply Upd.tail | apply Upd.over) (by (try simp only [List.length_set, Zaz]); omega) ?_; refine Zn rfl rfl rfl rfl F.elem120 rfl (by omega) ⟨_, _, rfl⟩ rfl ?_; refine Zbf 157 rfl (show _ = Value.pointer (some ⟨b, n1 - 1, none⟩) from by rw [Zaj, show 1 + ((n1 - 2) * 1 + 0) = n1 - 1 by omega]) ?_; refine Zbu rfl rfl rfl rfl F.lay5 (by repeat first | exact Upd.head | apply Upd.tail | apply Upd.over) (by (try simp only [List.length_set, Zaz]); omega) ?_
              refine Zf ?_; refine Zb ?_; refine Zk (.cons (k := 12) rfl (.cons (k := 4) rfl (.cons (k := 0) rfl .nil))) ?_; refine Za (l := [0, 1, 2]) rfl ?_; refine Zc rfl rfl rfl rfl ?_; refine Zai (r := ((n1 - 2 : Nat) : Int)) rfl rfl rfl rfl rfl (by rw [Zt rfl (by omega)]; omega) rfl ?_; refine Ze rfl rfl rfl rfl ?_; refine Zf ?_; refine Zb ?_; refine Zk (.cons (k := 4) rfl (.cons (k := 12) rfl (.cons (k := 0) rfl .nil))) ?_; refine Zj ?_; refine Za (l := [0, 1]) rfl ?_; refine Zc rfl rfl rfl rfl ?_; refine Zao rfl rfl rfl rfl rfl rfl ?_; refine Zf ?_; refine Zb ?_; refine Zk (.cons (k := 161) rfl (.cons (k := 12) rfl (.cons (k := 0) rfl .nil))) ?_
              refine Zx rfl (fun hc7 => ?_) (fun hc7 => ?_)
              · first | replace hc7 := dT hc7 | replace hc7 := dF hc7 | replace hc7 := nT hc7 | replace hc7 := nF hc7 | skip
                first
                | (exfalso; omega)
                | (exfalso; simp [eqX] at hc7; done)
                | contradiction
                | skip
                  refine Za (l := [0, 1, 2, 3, 4, 5]) rfl ?_; refine Zc rfl rfl rfl rfl ?_; refine Zc rfl rfl rfl rfl ?_; refine Zai (r := (((48 + u1 % 4294967296 / 100) % 4294967296 : Nat) : Int)) rfl rfl rfl rfl rfl (by rw [Zak]; unfold w32; omega) rfl ?_; refine Zcb (r := (((48 + u1 % 4294967296 / 100) % 4294967296 % 256 : Nat) : Int)) rfl rfl rfl Tryd.underlying107 Tryd.underlying5 (by rw [Zay]; unfold w8; omega) rfl ?_; refine Zn (k := 0) rfl rfl rfl rfl F.elem120 rfl (by omega) ⟨_, _, rfl⟩ rfl ?_; refine Zbf 166 rfl (show _ = Value.pointer (some ⟨b, 1, none⟩) from by rw [Zaj]) ?_; refine Zbu rfl rfl rfl rfl F.lay5 (by repeat first | exact Upd.head | apply Upd.tail | apply Upd.over) (by (try simp only [List.length_set, Zaz]); omega) ?_; refine Zf ?_
                  refine Zab (.inl rfl) (.nil) (fun w hw => ?_)
                  refine ⟨_, M, [(b, blkB (fmt10 L n u) 116)], rfl, Mem.le.refl M, ?_, rfl, rfl, rfl⟩
                  have e9 : fmt10 L n u = part1 (part2 (part4 (L1, n1, u1 % 4294967296))) := by
                    unfold fmt10
                    rw [show n / 8 = k by omega, hit]
                  rw [e9]
                  unfold part4; rw [if_neg (show ¬ 4 ≤ n1 by omega)]
                  unfold part2; rw [if_pos (show 2 ≤ n1 by omega)]
                  unfold part1; rw [if_pos (show 0 < n1 - 2 by omega)]
                  exact hw.cnt (by intro zz; first | exact Nat.le_refl _ | (simp only [Zh, Zd, Zi, cat, List.append_eq, List.append_assoc, List.cons_append, List.nil_append, List.append_nil]; omega) | (simp only [Zh, Zd, Zi, cat, List.append_eq, List.append_assoc, List.cons_append, List.nil_append, List.append_nil, StepL06V.segs]; omega))
              · first | replace hc7 := dT hc7 | replace hc7 := dF hc7 | replace hc7 := nT hc7 | replace hc7 := nF hc7 | skip
                first
                | (exfalso; omega)
                | (exfalso; simp [eqX] at hc7; done)
                | contradiction
                | skip
                  refine Zu ?_
                  refine Zab (.inl rfl) (.nil) (fun w hw => ?_)
                  refine ⟨_, M, [(b, blkB (fmt10 L n u) 116)], rfl, Mem.le.refl M, ?_, rfl, rfl, rfl⟩
                  have e9 : fmt10 L n u = part1 (part2 (part4 (L1, n1, u1 % 4294967296))) := by
                    unfold fmt10
                    rw [show n / 8 = k by omega, hit]
                  rw [e9]
                  unfold part4; rw [if_neg (show ¬ 4 ≤ n1 by omega)]
                  unfold part2; rw [if_pos (show 2 ≤ n1 by omega)]
                  unfold part1; rw [if_neg (show ¬ 0 < n1 - 2 by omega)]
                  exact hw.cnt (by intro zz; first | exact Nat.le_refl _ | (simp only [Zh, Zd, Zi, cat, List.append_eq, List.append_assoc, List.cons_append, List.nil_append, List.append_nil]; omega) | (simp only [Zh, Zd, Zi, cat, List.append_eq, List.append_assoc, List.cons_append, List.nil_append, List.append_nil, StepL06V.segs]; omega))
          · first | replace hc6 := dT hc6 | replace hc6 := dF hc6 | replace hc6 := nT hc6 | replace hc6 := nF hc6 | skip
            first
            | (exfalso; omega)
            | (exfalso; simp [eqX] at hc6; done)
            | contradiction
            | skip
              refine Zu ?_; refine Zb ?_; refine Zk (.cons (k := 12) rfl (.cons (k := 4) rfl (.cons (k := 0) rfl .nil))) ?_; refine Zj ?_; refine Za (l := [0, 1]) rfl ?_; refine Zc rfl rfl rfl rfl ?_; refine Zao rfl rfl rfl rfl rfl rfl ?_; refine Zf ?_; refine Zb ?_; refine Zk (.cons (k := 161) rfl (.cons (k := 12) rfl (.cons (k := 0) rfl .nil))) ?_
              refine Zx rfl (fun hc8 => ?_) (fun hc8 => ?_)
              · first | replace hc8 := dT hc8 | replace hc8 := dF hc8 | replace hc8 := nT hc8 | replace hc8 := nF hc8 | skip
                first
                | (exfalso; omega)
                | (exfalso; simp [eqX] at hc8; done)
                | contradiction
                | skip
                  refine Za (l := [0, 1, 2, 3, 4, 5]) rfl ?_; refine Zc rfl rfl rfl rfl ?_; refine Zc rfl rfl rfl rfl ?_; refine Zai (r := (((48 + u1 % 4294967296) % 4294967296 : Nat) : Int)) rfl rfl rfl rfl rfl (by rw [Zak]; unfold w32; omega) rfl ?_; refine Zcb (r := (((48 + u1 % 4294967296) % 4294967296 % 256 : Nat) : Int)) rfl rfl rfl Tryd.underlying107 Tryd.underlying5 (by rw [Zay]; unfold w8; omega) rfl ?_; refine Zn (k := 0) rfl rfl rfl rfl F.elem120 rfl (by omega) ⟨_, _, rfl⟩ rfl ?_; refine Zbf 166 rfl (show _ = Value.pointer (some ⟨b, 1, none⟩) from by rw [Zaj]) ?_; refine Zbu rfl rfl rfl rfl F.lay5 (by repeat first | exact Upd.head | apply Upd.tail | apply Upd.over) (by (try simp only [List.length_set, Zaz]); omega) ?_; refine Zf ?_
                  refine Zab (.inl rfl) (.nil) (fun w hw => ?_)
                  refine ⟨_, M, [(b, blkB (fmt10 L n u) 116)], rfl, Mem.le.refl M, ?_, rfl, rfl, rfl⟩
                  have e9 : fmt10 L n u = part1 (part2 (part4 (L1, n1, u1 % 4294967296))) := by
                    unfold fmt10
                    rw [show n / 8 = k by omega, hit]
                  rw [e9]
                  unfold part4; rw [if_neg (show ¬ 4 ≤ n1 by omega)]
                  unfold part2; rw [if_neg (show ¬ 2 ≤ n1 by omega)]
                  unfold part1; rw [if_pos (show 0 < n1 by omega)]
                  exact hw.cnt (by intro zz; first | exact Nat.le_refl _ | (simp only [Zh, Zd, Zi, cat, List.append_eq, List.append_assoc, List.cons_append, List.nil_append, List.append_nil]; omega) | (simp only [Zh, Zd, Zi, cat, List.append_eq, List.append_assoc, List.cons_append, List.nil_append, List.append_nil, StepL06V.segs]; omega))
              · first | replace hc8 := dT hc8 | replace hc8 := dF hc8 | replace hc8 := nT hc8 | replace hc8 := nF hc8 | skip
                first
                | (exfalso; omega)
                | (exfalso; simp [eqX] at hc8; done)
                | contradiction
                | skip
                  refine Zu ?_
                  refine Zab (.inl rfl) (.nil) (fun w hw => ?_)
                  refine ⟨_, M, [(b, blkB (fmt10 L n u) 116)], rfl, Mem.le.refl M, ?_, rfl, rfl, rfl⟩
                  have e9 : fmt10 L n u = part1 (part2 (part4 (L1, n1, u1 % 4294967296))) := by
                    unfold fmt10
                    rw [show n / 8 = k by omega, hit]
                  rw [e9]
                  unfold part4; rw [if_neg (show ¬ 4 ≤ n1 by omega)]
                  unfold part2; rw [if_neg (show ¬ 2 ≤ n1 by omega)]
                  unfold part1; rw [if_neg (show ¬ 0 < n1 by omega)]
                  exact hw.cnt (by intro zz; first | exact Nat.le_refl _ | (simp only [Zh, Zd, Zi, cat, List.append_eq, List.append_assoc, List.cons_append, List.nil_append, List.append_nil]; omega) | (simp only [Zh, Zd, Zi, cat, List.append_eq, List.append_assoc, List.cons_append, List.nil_append, List.append_nil, StepL06V.segs]; omega))
end Go.Proofs.YtbeahcfghjiogaaDoor
