/-
  Texts of this claim, one behind the other: B15, B16, Seat2.
-/
import Derived.Test.YtbeahcfghjiogaaDoorPC3
set_option linter.unusedSimpArgs false
set_option linter.unusedVariables false
set_option linter.unnecessarySimpa false
set_option maxRecDepth 8000
set_option maxHeartbeats 1000000
namespace Go.Proofs.YtbeahcfghjiogaaDoor
open Go.Esp
theorem F.arr116 : arOf Tryd.prog 116 = some (24, 5) := by kernel_rfl
theorem F.arr125 : arOf Tryd.prog 125 = some (20, 117) := by kernel_rfl
theorem F.lay117 : lay Tryd.prog 117 = some (false, 1) := by kernel_rfl
theorem F.ok58 : okFn Tryd.prog 58 = true := by kernel_rfl
theorem F.ok59 : okFn Tryd.prog 59 = true := by kernel_rfl
theorem F.ok60 : okFn Tryd.prog 60 = true := by kernel_rfl
theorem F.ok61 : okFn Tryd.prog 61 = true := by kernel_rfl
theorem F.ok62 : okFn Tryd.prog 62 = true := by kernel_rfl
theorem F.ok64 : okFn Tryd.prog 64 = true := by kernel_rfl
theorem F.ok65 : okFn Tryd.prog 65 = true := by kernel_rfl
theorem F.ok66 : okFn Tryd.prog 66 = true := by kernel_rfl
theorem F.zero116 : zeroOf Tryd.prog 116 = some (aggV [.arr 24 (Vector.replicate 24 (.int .u8 0))]) := by kernel_rfl
theorem Len_at (M : Mem) (u : Nat) (hu : u ≤ 18446744073709551615) : Fs Tryd.prog 65 [.int .u64 (u : Int)] M (fun v => v = .int .i64 ((Lib.bitLen u : Nat) : Int)) := Len_ok M u hu
theorem L10_at (M : Mem) (x : Nat) (hx : x ≤ 64) : Fs Tryd.prog 64 [.int .i64 (x : Int)] M (fun v => v = .int .i64 ((Lib.l10 x : Nat) : Int)) := L10_ok M x hx
theorem B2_at (M : Mem) (b : Bool) : Fs Tryd.prog 66 [.bool b] M (fun v => v = .int .i64 (if b then 1 else 0)) := B2_ok M b
theorem Small_at (M : Mem) (i : Nat) (hi : i < 100) : Fs Tryd.prog 60 [.int .i64 (i : Int)] M (fun v => v = .string (itoaB (i : Int))) := Small_ok M i hi
theorem nd_ok (M : Mem) (tb : List Nat) (ht : TabU M tb 125) (u : Nat) (hu : u ≤ 18446744073709551615) : Fs Tryd.prog 61 [.int .u64 (u : Int)] M (fun v => v = .int .i64 ((ndT tb u : Nat) : Int)) := by
  have hl9 := l10_le (bitLen_le u)
  refine Zbb Tryd.func61 rfl Tryd.ntmps61 rfl ?_; intro H
  refine Zj ?_; refine Za (l := [0]) rfl ?_; refine Ze rfl rfl rfl rfl ?_; refine Zf ?_; refine Zb ?_; refine Zj ?_; refine Za (l := [0, 1, 2, 3]) rfl ?_; refine Zc rfl rfl rfl rfl ?_; refine X_fs rfl rfl F.ok65 rfl (Len_at M u hu) rfl ?_
  rintro _ rfl
  refine X_fs rfl rfl F.ok64 rfl (L10_at M _ (bitLen_le u)) rfl ?_
  rintro _ rfl
  refine Ze rfl rfl rfl rfl ?_; refine Zf ?_; refine Zb ?_; refine Zk (.cons (k := 3) rfl (.cons (k := 2) rfl (.cons (k := 0) rfl .nil))) ?_; refine Zj ?_; refine Za (l := [0, 1, 2, 3, 4, 5, 6, 7, 8]) rfl ?_; refine Zc rfl rfl rfl rfl ?_; refine Zc rfl rfl rfl rfl ?_; refine Zc rfl rfl rfl rfl ?_; refine X_indexAddr_arr (k := Lib.l10 (Lib.bitLen u)) rfl rfl rfl rfl F.arr125 rfl (by omega) rfl ?_; refine X_load_memC (v := .int .u64 ((tb.getD (Lib.l10 (Lib.bitLen u)) 0 : Nat) : Int)) rfl rfl rfl ht.there F.lay117 (by rw [cellsU, List.getElem?_map, Nat.zero_add, List.getD_eq_getElem?_getD, List.getElem?_eq_getElem (by have := ht.len; omega)]; rfl) rfl ?_; refine Zao rfl rfl rfl rfl rfl rfl ?_; refine X_fs rfl rfl F.ok66 rfl (B2_at M _) rfl ?_
  rintro _ rfl
  refine Zai (r := ((ndT tb u : Nat) : Int)) rfl rfl rfl rfl rfl (by unfold ndT; by_cases h9 : tb.getD (Lib.l10 (Lib.bitLen u)) 0 ≤ u <;> simp only [h9, if_pos, if_neg, Int.ofNat_le, decide_true, decide_false, Bool.false_eq_true, if_true, if_false] <;> rw [Zt rfl (by omega)] <;> omega) rfl ?_; refine Ze rfl rfl rfl rfl ?_; refine Zf ?_; refine Zb ?_; refine Zk (.cons (k := 2) rfl .nil) ?_; refine Zag ?_
  refine Zab (.inr rfl) (.tmp rfl .nil) (fun w hw => ?_)
  exact ⟨_, rfl, hw.cnt (by intro zz; first | exact Nat.le_refl _ | (simp only [Zh, Zd, Zi, cat, List.append_eq, List.append_assoc, List.cons_append, List.nil_append, List.append_nil]; omega) | (simp only [Zh, Zd, Zi, cat, List.append_eq, List.append_assoc, List.cons_append, List.nil_append, List.append_nil, StepL06V.segs]; omega)), rfl⟩
theorem FI_neg (M : Mem) (tb : List Nat) (ht : TabU M tb 125) (a : Nat) (h1 : 1 ≤ a) (h2 : a ≤ 9223372036854775808) : Fs Tryd.prog 59 [.int .i64 (-(a : Int)), .int .i64 10] M (fun v => v = .string (tellT tb (-(a : Int)))) := by
  have hk := ndT_le tb a
  have hfl : (fmt10 (List.replicate 24 0) (ndT tb a) a).length = 24 := by rw [fmt10_len]; rfl
  refine Zbb Tryd.func59 rfl Tryd.ntmps59 rfl ?_; intro H
  refine Zj ?_; refine Za (l := [0]) rfl ?_; refine Ze rfl rfl rfl rfl ?_; refine Zf ?_; refine Zb ?_; refine Zj ?_; refine Zj ?_; refine Za (l := [0, 1]) rfl ?_; refine Zc rfl rfl rfl rfl ?_; refine Zao rfl rfl rfl rfl rfl rfl ?_; refine Zf ?_; refine Zb ?_; refine Zk (.cons (k := 11) rfl (.cons (k := 4) rfl (.cons (k := 0) rfl (.cons (k := 1) rfl .nil)))) ?_
  refine Zx rfl (fun hc1 => ?_) (fun hc1 => ?_)
  · first | replace hc1 := dT hc1 | replace hc1 := dF hc1 | replace hc1 := nT hc1 | replace hc1 := nF hc1 | skip
    first
    | (exfalso; omega)
    | (exfalso; simp [eqX] at hc1; done)
    | contradiction
    | skip
      refine Zj ?_; refine Zj ?_; refine Za (l := [0, 1, 2, 3, 4, 5]) rfl ?_; refine Zc rfl rfl rfl rfl ?_; refine Zao rfl rfl rfl rfl rfl rfl ?_; refine Zc rfl rfl rfl rfl ?_
      refine Zbz 14 rfl (fun hc2 => ?_) (fun hc2 => ?_)
      · first | replace hc2 := dT hc2 | replace hc2 := dF hc2 | replace hc2 := nT hc2 | replace hc2 := nF hc2 | skip
        first
        | (exfalso; omega)
        | (exfalso; simp [eqX] at hc2; done)
        | contradiction
        | skip
          refine Zc rfl rfl rfl rfl ?_; refine Zao rfl rfl rfl rfl rfl rfl ?_; refine Zau rfl rfl rfl rfl rfl ?_; refine Zf ?_; refine Zb ?_; refine Zk (.cons (k := 17) rfl (.cons (k := 4) rfl (.cons (k := 0) rfl (.cons (k := 1) rfl .nil)))) ?_
          refine Zx rfl (fun hc3 => ?_) (fun hc3 => ?_)
          · first | replace hc3 := dT hc3 | replace hc3 := dF hc3 | replace hc3 := nT hc3 | replace hc3 := nF hc3 | skip
            first
            | (exfalso; omega)
            | (exfalso; simp [eqX] at hc3; done)
            | contradiction
            | skip
              refine Zj ?_; refine Za (l := [0, 1, 2]) rfl ?_; refine Zc rfl rfl rfl rfl ?_
              fail
              refine Ze rfl rfl rfl rfl ?_; refine Zf ?_; refine Zb ?_; refine Zk (.cons (k := 4) rfl (.cons (k := 0) rfl (.cons (k := 1) rfl .nil))) ?_; refine Zag ?_; refine Zam ?_; refine Zam ?_
              refine Zab (.inr rfl) (.tmp rfl .nil) (fun w hw => ?_)
              refine ⟨_, rfl, hw.cnt (by intro zz; first | exact Nat.le_refl _ | (simp only [Zh, Zd, Zi, cat, List.append_eq, List.append_assoc, List.cons_append, List.nil_append, List.append_nil]; omega) | (simp only [Zh, Zd, Zi, cat, List.append_eq, List.append_assoc, List.cons_append, List.nil_append, List.append_nil, StepL06V.segs]; omega)), ?_⟩
              clear hw
              rw [tell_neg tb h1]
              rw [List.drop_zero]
              rfl
          · first | replace hc3 := dT hc3 | replace hc3 := dF hc3 | replace hc3 := nT hc3 | replace hc3 := nF hc3 | skip
            first
            | (exfalso; omega)
            | (exfalso; simp [eqX] at hc3; done)
            | contradiction
            | skip
              refine Zu ?_; refine Zb ?_; refine Zk (.cons (k := 4) rfl (.cons (k := 0) rfl (.cons (k := 1) rfl .nil))) ?_; refine Zj ?_; refine Za (l := [0]) rfl ?_
              refine Zbw rfl rfl F.zero116 (by constructor) rfl ?_; intro b4
              refine Zf ?_; refine Zb ?_; refine Zj ?_
              rw [blk0]
              refine Za (l := [0, 1, 2]) rfl ?_; refine Zc rfl rfl rfl rfl ?_; refine Zcb (r := (18446744073709551616 - (a : Int))) rfl rfl rfl Tryd.underlying2 Tryd.underlying117 (by rw [Zah]; unfold w64; omega) rfl ?_; refine Ze rfl rfl rfl rfl ?_; refine Zf ?_; refine Zb ?_; refine Zk (.cons (k := 6) rfl (.cons (k := 5) rfl (.cons (k := 4) rfl (.cons (k := 0) rfl (.cons (k := 1) rfl .nil))))) ?_; refine Zj ?_; refine Zj ?_; refine Za (l := [0, 1]) rfl ?_; refine Zc rfl rfl rfl rfl ?_; refine Zao rfl rfl rfl rfl rfl rfl ?_; refine Zf ?_; refine Zb ?_; refine Zk (.cons (k := 23) rfl (.cons (k := 6) rfl (.cons (k := 5) rfl (.cons (k := 4) rfl (.cons (k := 0) rfl (.cons (k := 1) rfl .nil)))))) ?_
              refine Zx rfl (fun hc5 => ?_) (fun hc5 => ?_)
              · first | replace hc5 := dT hc5 | replace hc5 := dF hc5 | replace hc5 := nT hc5 | replace hc5 := nF hc5 | skip
                first
                | (exfalso; omega)
                | (exfalso; simp [eqX] at hc5; done)
                | contradiction
                | skip
                  refine Za (l := [0, 1, 2]) rfl ?_; refine Zc rfl rfl rfl rfl ?_; refine X_neg (r := (a : Int)) rfl rfl rfl (by rw [Zah]; unfold w64; omega) rfl ?_; refine Ze rfl rfl rfl rfl ?_; refine Zf ?_; refine Zb ?_; refine Zk (.cons (k := 6) rfl (.cons (k := 5) rfl (.cons (k := 4) rfl (.cons (k := 0) rfl (.cons (k := 1) rfl .nil))))) ?_; refine Zj ?_; refine Za (l := [0, 1, 2]) rfl ?_; refine Zc rfl rfl rfl rfl ?_; refine X_fs rfl rfl F.ok61 rfl (nd_ok M tb ht a (by omega)) rfl ?_
                  rintro _ rfl
                  refine Ze rfl rfl rfl rfl ?_; refine Zf ?_; refine Zb ?_; refine Zk (.cons (k := 7) rfl (.cons (k := 6) rfl (.cons (k := 5) rfl (.cons (k := 4) rfl (.cons (k := 0) rfl (.cons (k := 1) rfl .nil)))))) ?_; refine Zj ?_; refine Zbl (l := [0, 1, 2, 3, 4]) (Hin := [(b4, _)]) (by repeat first | exact Rem.here _ | exact Rem.two | apply Rem.skip | apply Rem.over) rfl ?_; refine Zc rfl rfl rfl rfl ?_; refine Zai (r := ((1 + ndT tb a : Nat) : Int)) rfl rfl rfl rfl rfl (by rw [Zt rfl (by omega)]; omega) rfl ?_; refine Zy (olo := some 1) (ohi := some (1 + ndT tb a)) rfl rfl rfl (.some rfl rfl) (.some rfl rfl) F.arr116 (by show 1 + ndT tb a ≤ 24; omega) (by show 1 ≤ 1 + ndT tb a; omega) (show _ = Value.slice (some ⟨b4, 1, none⟩) (ndT tb a) 23 by simp [pieceV, Addr.add]) rfl ?_; refine Zc rfl rfl rfl rfl ?_; refine Zcd rfl rfl F.ok62 rfl (fmt_ok M b4 (ndT tb a) a (List.replicate 24 0) (by rfl) hk (by omega)) (by repeat first | exact Rem.here _ | exact Rem.two | apply Rem.skip | apply Rem.over) (fun _ _ _ hm hw => (hw.lower (by first | exact hm | exact Mem.le.trans (by assumption) hm | exact Mem.le.trans (by first | exact Mem.le.refl _ | assumption | (repeat first | assumption | refine Mem.le.trans (by assumption) ?_)) hm)).cnt (by intro zz; first | exact Nat.le_refl _ | (simp only [Zh, Zd, Zi, cat, List.append_eq, List.append_assoc, List.cons_append, List.nil_append, List.append_nil]; omega) | (simp only [Zh, Zd, Zi, cat, List.append_eq, List.append_assoc, List.cons_append, List.nil_append, List.append_nil, StepL06V.segs]; omega))) (Zbh rfl) ?_
                  rintro _ M2 _ _ ⟨hM2, rfl, rfl⟩
                  obtain rfl := hM2.symm
                  refine Zf ?_; refine Zb ?_; refine Zk (.cons (k := 7) rfl (.cons (k := 5) rfl (.cons (k := 4) rfl (.cons (k := 0) rfl (.cons (k := 1) rfl .nil))))) ?_; refine Zj ?_; refine Zj ?_; refine Za (l := [0, 1]) rfl ?_; refine Zc rfl rfl rfl rfl ?_; refine Zao rfl rfl rfl rfl rfl rfl ?_; refine Zf ?_; refine Zb ?_; refine Zk (.cons (k := 34) rfl (.cons (k := 7) rfl (.cons (k := 5) rfl (.cons (k := 4) rfl (.cons (k := 0) rfl (.cons (k := 1) rfl .nil)))))) ?_
                  refine Zx rfl (fun hc6 => ?_) (fun hc6 => ?_)
                  · first | replace hc6 := dT hc6 | replace hc6 := dF hc6 | replace hc6 := nT hc6 | replace hc6 := nF hc6 | skip
                    first
                    | (exfalso; omega)
                    | (exfalso; simp [eqX] at hc6; done)
                    | contradiction
                    | skip
                      refine Zj ?_; refine Za (l := [0, 1]) rfl ?_; refine X_indexAddr_arr (k := 0) rfl rfl rfl rfl F.arr116 rfl (by decide) rfl ?_; refine Zbu (v := 45) rfl rfl rfl rfl F.lay5 (by repeat first | exact Upd.head | apply Upd.tail | apply Upd.over) (by rw [hfl]; decide) ?_; refine Zf ?_; refine Zb ?_; refine Zk (.cons (k := 7) rfl (.cons (k := 5) rfl (.cons (k := 4) rfl (.cons (k := 0) rfl (.cons (k := 1) rfl .nil))))) ?_; refine Zj ?_; refine Za (l := [0, 1, 2, 3, 4]) rfl ?_; refine Zc rfl rfl rfl rfl ?_; refine Zai (r := ((1 + ndT tb a : Nat) : Int)) rfl rfl rfl rfl rfl (by rw [Zt rfl (by omega)]; omega) rfl ?_; refine Zy (olo := none) (ohi := some (1 + ndT tb a)) rfl rfl rfl .none (.some rfl rfl) F.arr116 (by show 1 + ndT tb a ≤ 24; omega) (by show 0 ≤ 1 + ndT tb a; omega) (show _ = Value.slice (some ⟨b4, 0, none⟩) (1 + ndT tb a) 24 by simp [pieceV, Addr.add]) rfl ?_
                      refine Zbr (l := (((fmt10 (List.replicate 24 0) (ndT tb a) a).set 0 45).drop 0).take (1 + ndT tb a)) (s := strOfNums (((((fmt10 (List.replicate 24 0) (ndT tb a) a).set 0 45).drop 0).take (1 + ndT tb a)).map fun n : Nat => (n : Int))) rfl rfl rfl (srcB (by repeat first | exact List.Mem.head _ | refine List.Mem.tail _ ?_ | refine List.mem_append_right _ ?_) (by first | (rw [List.length_set, hfl]; omega) | (rw [hfl]; omega))) F.elem120 Tryd.underlying5 Tryd.underlying9 rfl rfl ?_; refine Ze rfl rfl rfl rfl ?_; refine Zf ?_; refine Zb ?_; refine Zk (.cons (k := 4) rfl (.cons (k := 7) rfl (.cons (k := 5) rfl (.cons (k := 0) rfl (.cons (k := 1) rfl .nil))))) ?_; refine Zag ?_; refine Zam ?_; refine Zam ?_
                      refine Zab (.inr rfl) (.tmp rfl .nil) (fun w hw => ?_)
                      refine ⟨_, rfl, hw.cnt (by intro zz; first | exact Nat.le_refl _ | (simp only [Zh, Zd, Zi, cat, List.append_eq, List.append_assoc, List.cons_append, List.nil_append, List.append_nil]; omega) | (simp only [Zh, Zd, Zi, cat, List.append_eq, List.append_assoc, List.cons_append, List.nil_append, List.append_nil, StepL06V.segs]; omega)), ?_⟩
                      clear hw
                      rw [tell_neg tb h1]
                      rw [List.drop_zero]
                      rfl
                  · first | replace hc6 := dT hc6 | replace hc6 := dF hc6 | replace hc6 := nT hc6 | replace hc6 := nF hc6 | skip
                    first
                    | (exfalso; omega)
                    | (exfalso; simp [eqX] at hc6; done)
                    | contradiction
                    | skip
                      refine Zu ?_; refine Zb ?_; refine Zk (.cons (k := 7) rfl (.cons (k := 5) rfl (.cons (k := 4) rfl (.cons (k := 0) rfl (.cons (k := 1) rfl .nil))))) ?_; refine Zj ?_; refine Za (l := [0, 1, 2, 3, 4]) rfl ?_; refine Zc rfl rfl rfl rfl ?_; refine Zai (r := ((1 + ndT tb a : Nat) : Int)) rfl rfl rfl rfl rfl (by rw [Zt rfl (by omega)]; omega) rfl ?_; refine Zy (olo := some 1) (ohi := some (1 + ndT tb a)) rfl rfl rfl (.some rfl rfl) (.some rfl rfl) F.arr116 (by show 1 + ndT tb a ≤ 24; omega) (by show 1 ≤ 1 + ndT tb a; omega) (show _ = Value.slice (some ⟨b4, 1, none⟩) (ndT tb a) 23 by simp [pieceV, Addr.add]) rfl ?_; refine Zbr (l := (((fmt10 (List.replicate 24 0) (ndT tb a) a).set 0 45).drop 1).take (ndT tb a)) (s := strOfNums (((((fmt10 (List.replicate 24 0) (ndT tb a) a).set 0 45).drop 1).take (ndT tb a)).map fun n : Nat => (n : Int))) rfl rfl rfl (srcB (by repeat first | exact List.Mem.head _ | refine List.Mem.tail _ ?_ | refine List.mem_append_right _ ?_) (by first | (rw [List.length_set, hfl]; omega) | (rw [hfl]; omega))) F.elem120 Tryd.underlying5 Tryd.underlying9 rfl rfl ?_
                      refine Ze rfl rfl rfl rfl ?_; refine Zf ?_; refine Zb ?_; refine Zk (.cons (k := 4) rfl (.cons (k := 0) rfl (.cons (k := 1) rfl .nil))) ?_; refine Zag ?_; refine Zam ?_
                      refine Zab (.inr rfl) (.tmp rfl .nil) (fun w hw => ?_)
                      refine ⟨_, rfl, hw.cnt (by intro zz; first | exact Nat.le_refl _ | (simp only [Zh, Zd, Zi, cat, List.append_eq, List.append_assoc, List.cons_append, List.nil_append, List.append_nil]; omega) | (simp only [Zh, Zd, Zi, cat, List.append_eq, List.append_assoc, List.cons_append, List.nil_append, List.append_nil, StepL06V.segs]; omega)), ?_⟩
                      clear hw
                      rw [tell_neg tb h1]
                      rw [List.drop_zero]
                      rfl
              · first | replace hc5 := dT hc5 | replace hc5 := dF hc5 | replace hc5 := nT hc5 | replace hc5 := nF hc5 | skip
                first
                | (exfalso; omega)
                | (exfalso; simp [eqX] at hc5; done)
                | contradiction
                | skip
                  refine Zu ?_; refine Zb ?_; refine Zk (.cons (k := 6) rfl (.cons (k := 5) rfl (.cons (k := 4) rfl (.cons (k := 0) rfl (.cons (k := 1) rfl .nil))))) ?_; refine Zj ?_; refine Za (l := [0, 1, 2]) rfl ?_; refine Zc rfl rfl rfl rfl ?_; refine X_fs rfl rfl F.ok61 rfl (nd_ok M tb ht a (by omega)) rfl ?_
                  rintro _ rfl
                  refine Ze rfl rfl rfl rfl ?_; refine Zf ?_; refine Zb ?_; refine Zk (.cons (k := 7) rfl (.cons (k := 6) rfl (.cons (k := 5) rfl (.cons (k := 4) rfl (.cons (k := 0) rfl (.cons (k := 1) rfl .nil)))))) ?_; refine Zj ?_; refine Zbl (l := [0, 1, 2, 3, 4]) (Hin := [(b4, _)]) (by repeat first | exact Rem.here _ | exact Rem.two | apply Rem.skip | apply Rem.over) rfl ?_; refine Zc rfl rfl rfl rfl ?_; refine Zai (r := ((1 + ndT tb a : Nat) : Int)) rfl rfl rfl rfl rfl (by rw [Zt rfl (by omega)]; omega) rfl ?_; refine Zy (olo := some 1) (ohi := some (1 + ndT tb a)) rfl rfl rfl (.some rfl rfl) (.some rfl rfl) F.arr116 (by show 1 + ndT tb a ≤ 24; omega) (by show 1 ≤ 1 + ndT tb a; omega) (show _ = Value.slice (some ⟨b4, 1, none⟩) (ndT tb a) 23 by simp [pieceV, Addr.add]) rfl ?_; refine Zc rfl rfl rfl rfl ?_; refine Zcd rfl rfl F.ok62 rfl (fmt_ok M b4 (ndT tb a) a (List.replicate 24 0) (by rfl) hk (by omega)) (by repeat first | exact Rem.here _ | exact Rem.two | apply Rem.skip | apply Rem.over) (fun _ _ _ hm hw => (hw.lower (by first | exact hm | exact Mem.le.trans (by assumption) hm | exact Mem.le.trans (by first | exact Mem.le.refl _ | assumption | (repeat first | assumption | refine Mem.le.trans (by assumption) ?_)) hm)).cnt (by intro zz; first | exact Nat.le_refl _ | (simp only [Zh, Zd, Zi, cat, List.append_eq, List.append_assoc, List.cons_append, List.nil_append, List.append_nil]; omega) | (simp only [Zh, Zd, Zi, cat, List.append_eq, List.append_assoc, List.cons_append, List.nil_append, List.append_nil, StepL06V.segs]; omega))) (Zbh rfl) ?_
                  rintro _ M2 _ _ ⟨hM2, rfl, rfl⟩
                  obtain rfl := hM2.symm
                  refine Zf ?_; refine Zb ?_; refine Zk (.cons (k := 7) rfl (.cons (k := 5) rfl (.cons (k := 4) rfl (.cons (k := 0) rfl (.cons (k := 1) rfl .nil))))) ?_; refine Zj ?_; refine Zj ?_; refine Za (l := [0, 1]) rfl ?_; refine Zc rfl rfl rfl rfl ?_; refine Zao rfl rfl rfl rfl rfl rfl ?_; refine Zf ?_; refine Zb ?_; refine Zk (.cons (k := 34) rfl (.cons (k := 7) rfl (.cons (k := 5) rfl (.cons (k := 4) rfl (.cons (k := 0) rfl (.cons (k := 1) rfl .nil)))))) ?_
                  refine Zx rfl (fun hc7 => ?_) (fun hc7 => ?_)
                  · first | replace hc7 := dT hc7 | replace hc7 := dF hc7 | replace hc7 := nT hc7 | replace hc7 := nF hc7 | skip
                    first
                    | (exfalso; omega)
                    | (exfalso; simp [eqX] at hc7; done)
                    | contradiction
                    | skip
                      refine Zj ?_; refine Za (l := [0, 1]) rfl ?_; refine X_indexAddr_arr (k := 0) rfl rfl rfl rfl F.arr116 rfl (by decide) rfl ?_; refine Zbu (v := 45) rfl rfl rfl rfl F.lay5 (by repeat first | exact Upd.head | apply Upd.tail | apply Upd.over) (by rw [hfl]; decide) ?_; refine Zf ?_; refine Zb ?_; refine Zk (.cons (k := 7) rfl (.cons (k := 5) rfl (.cons (k := 4) rfl (.cons (k := 0) rfl (.cons (k := 1) rfl .nil))))) ?_; refine Zj ?_; refine Za (l := [0, 1, 2, 3, 4]) rfl ?_; refine Zc rfl rfl rfl rfl ?_; refine Zai (r := ((1 + ndT tb a : Nat) : Int)) rfl rfl rfl rfl rfl (by rw [Zt rfl (by omega)]; omega) rfl ?_; refine Zy (olo := none) (ohi := some (1 + ndT tb a)) rfl rfl rfl .none (.some rfl rfl) F.arr116 (by show 1 + ndT tb a ≤ 24; omega) (by show 0 ≤ 1 + ndT tb a; omega) (show _ = Value.slice (some ⟨b4, 0, none⟩) (1 + ndT tb a) 24 by simp [pieceV, Addr.add]) rfl ?_
                      refine Zbr (l := (((fmt10 (List.replicate 24 0) (ndT tb a) a).set 0 45).drop 0).take (1 + ndT tb a)) (s := strOfNums (((((fmt10 (List.replicate 24 0) (ndT tb a) a).set 0 45).drop 0).take (1 + ndT tb a)).map fun n : Nat => (n : Int))) rfl rfl rfl (srcB (by repeat first | exact List.Mem.head _ | refine List.Mem.tail _ ?_ | refine List.mem_append_right _ ?_) (by first | (rw [List.length_set, hfl]; omega) | (rw [hfl]; omega))) F.elem120 Tryd.underlying5 Tryd.underlying9 rfl rfl ?_; refine Ze rfl rfl rfl rfl ?_; refine Zf ?_; refine Zb ?_; refine Zk (.cons (k := 4) rfl (.cons (k := 7) rfl (.cons (k := 5) rfl (.cons (k := 0) rfl (.cons (k := 1) rfl .nil))))) ?_; refine Zag ?_; refine Zam ?_; refine Zam ?_
                      refine Zab (.inr rfl) (.tmp rfl .nil) (fun w hw => ?_)
                      refine ⟨_, rfl, hw.cnt (by intro zz; first | exact Nat.le_refl _ | (simp only [Zh, Zd, Zi, cat, List.append_eq, List.append_assoc, List.cons_append, List.nil_append, List.append_nil]; omega) | (simp only [Zh, Zd, Zi, cat, List.append_eq, List.append_assoc, List.cons_append, List.nil_append, List.append_nil, StepL06V.segs]; omega)), ?_⟩
                      clear hw
                      rw [tell_neg tb h1]
                      rw [List.drop_zero]
                      rfl
                  · first | replace hc7 := dT hc7 | replace hc7 := dF hc7 | replace hc7 := nT hc7 | replace hc7 := nF hc7 | skip
                    first
                    | (exfalso; omega)
                    | (exfalso; simp [eqX] at hc7; done)
                    | contradiction
                    | skip
                      refine Zu ?_; refine Zb ?_; refine Zk (.cons (k := 7) rfl (.cons (k := 5) rfl (.cons (k := 4) rfl (.cons (k := 0) rfl (.cons (k := 1) rfl .nil))))) ?_; refine Zj ?_; refine Za (l := [0, 1, 2, 3, 4]) rfl ?_; refine Zc rfl rfl rfl rfl ?_; refine Zai (r := ((1 + ndT tb a : Nat) : Int)) rfl rfl rfl rfl rfl (by rw [Zt rfl (by omega)]; omega) rfl ?_; refine Zy (olo := some 1) (ohi := some (1 + ndT tb a)) rfl rfl rfl (.some rfl rfl) (.some rfl rfl) F.arr116 (by show 1 + ndT tb a ≤ 24; omega) (by show 1 ≤ 1 + ndT tb a; omega) (show _ = Value.slice (some ⟨b4, 1, none⟩) (ndT tb a) 23 by simp [pieceV, Addr.add]) rfl ?_; refine Zbr (l := (((fmt10 (List.replicate 24 0) (ndT tb a) a).set 0 45).drop 1).take (ndT tb a)) (s := strOfNums (((((fmt10 (List.replicate 24 0) (ndT tb a) a).set 0 45).drop 1).take (ndT tb a)).map fun n : Nat => (n : Int))) rfl rfl rfl (srcB (by repeat first | exact List.Mem.head _ | refine List.Mem.tail _ ?_ | refine List.mem_append_right _ ?_) (by first | (rw [List.length_set, hfl]; omega) | (rw [hfl]; omega))) F.elem120 Tryd.underlying5 Tryd.underlying9 rfl rfl ?_
                      refine Ze rfl rfl rfl rfl ?_; refine Zf ?_; refine Zb ?_; refine Zk (.cons (k := 4) rfl (.cons (k := 0) rfl (.cons (k := 1) rfl .nil))) ?_; refine Zag ?_; refine Zam ?_
                      refine Zab (.inr rfl) (.tmp rfl .nil) (fun w hw => ?_)
                      refine ⟨_, rfl, hw.cnt (by intro zz; first | exact Nat.le_refl _ | (simp only [Zh, Zd, Zi, cat, List.append_eq, List.append_assoc, List.cons_append, List.nil_append, List.append_nil]; omega) | (simp only [Zh, Zd, Zi, cat, List.append_eq, List.append_assoc, List.cons_append, List.nil_append, List.append_nil, StepL06V.segs]; omega)), ?_⟩
                      clear hw
                      rw [tell_neg tb h1]
                      rw [List.drop_zero]
                      rfl
      · first | replace hc2 := dT hc2 | replace hc2 := dF hc2 | replace hc2 := nT hc2 | replace hc2 := nF hc2 | skip
        first
        | (exfalso; omega)
        | (exfalso; simp [eqX] at hc2; done)
        | contradiction
        | skip
          refine Zba rfl rfl rfl ?_; refine Zba rfl rfl rfl ?_; refine Zau rfl rfl rfl rfl rfl ?_; refine Zf ?_; refine Zb ?_; refine Zk (.cons (k := 17) rfl (.cons (k := 4) rfl (.cons (k := 0) rfl (.cons (k := 1) rfl .nil)))) ?_; refine Zbe rfl ?_; refine Zu ?_; refine Zb ?_; refine Zk (.cons (k := 4) rfl (.cons (k := 0) rfl (.cons (k := 1) rfl .nil))) ?_; refine Zj ?_; refine Za (l := [0]) rfl ?_
          refine Zbw rfl rfl F.zero116 (by constructor) rfl ?_; intro b8
          refine Zf ?_; refine Zb ?_; refine Zj ?_
          rw [blk0]
          refine Za (l := [0, 1, 2]) rfl ?_; refine Zc rfl rfl rfl rfl ?_; refine Zcb (r := (18446744073709551616 - (a : Int))) rfl rfl rfl Tryd.underlying2 Tryd.underlying117 (by rw [Zah]; unfold w64; omega) rfl ?_; refine Ze rfl rfl rfl rfl ?_; refine Zf ?_; refine Zb ?_; refine Zk (.cons (k := 6) rfl (.cons (k := 5) rfl (.cons (k := 4) rfl (.cons (k := 0) rfl (.cons (k := 1) rfl .nil))))) ?_; refine Zj ?_; refine Zj ?_; refine Za (l := [0, 1]) rfl ?_; refine Zc rfl rfl rfl rfl ?_; refine Zao rfl rfl rfl rfl rfl rfl ?_; refine Zf ?_; refine Zb ?_; refine Zk (.cons (k := 23) rfl (.cons (k := 6) rfl (.cons (k := 5) rfl (.cons (k := 4) rfl (.cons (k := 0) rfl (.cons (k := 1) rfl .nil)))))) ?_
          refine Zx rfl (fun hc9 => ?_) (fun hc9 => ?_)
          · first | replace hc9 := dT hc9 | replace hc9 := dF hc9 | replace hc9 := nT hc9 | replace hc9 := nF hc9 | skip
            first
            | (exfalso; omega)
            | (exfalso; simp [eqX] at hc9; done)
            | contradiction
            | skip
              refine Za (l := [0, 1, 2]) rfl ?_; refine Zc rfl rfl rfl rfl ?_; refine X_neg (r := (a : Int)) rfl rfl rfl (by rw [Zah]; unfold w64; omega) rfl ?_; refine Ze rfl rfl rfl rfl ?_; refine Zf ?_; refine Zb ?_; refine Zk (.cons (k := 6) rfl (.cons (k := 5) rfl (.cons (k := 4) rfl (.cons (k := 0) rfl (.cons (k := 1) rfl .nil))))) ?_; refine Zj ?_; refine Za (l := [0, 1, 2]) rfl ?_; refine Zc rfl rfl rfl rfl ?_; refine X_fs rfl rfl F.ok61 rfl (nd_ok M tb ht a (by omega)) rfl ?_
              rintro _ rfl
              refine Ze rfl rfl rfl rfl ?_; refine Zf ?_; refine Zb ?_; refine Zk (.cons (k := 7) rfl (.cons (k := 6) rfl (.cons (k := 5) rfl (.cons (k := 4) rfl (.cons (k := 0) rfl (.cons (k := 1) rfl .nil)))))) ?_; refine Zj ?_; refine Zbl (l := [0, 1, 2, 3, 4]) (Hin := [(b8, _)]) (by repeat first | exact Rem.here _ | exact Rem.two | apply Rem.skip | apply Rem.over) rfl ?_; refine Zc rfl rfl rfl rfl ?_; refine Zai (r := ((1 + ndT tb a : Nat) : Int)) rfl rfl rfl rfl rfl (by rw [Zt rfl (by omega)]; omega) rfl ?_; refine Zy (olo := some 1) (ohi := some (1 + ndT tb a)) rfl rfl rfl (.some rfl rfl) (.some rfl rfl) F.arr116 (by show 1 + ndT tb a ≤ 24; omega) (by show 1 ≤ 1 + ndT tb a; omega) (show _ = Value.slice (some ⟨b8, 1, none⟩) (ndT tb a) 23 by simp [pieceV, Addr.add]) rfl ?_; refine Zc rfl rfl rfl rfl ?_; refine Zcd rfl rfl F.ok62 rfl (fmt_ok M b8 (ndT tb a) a (List.replicate 24 0) (by rfl) hk (by omega)) (by repeat first | exact Rem.here _ | exact Rem.two | apply Rem.skip | apply Rem.over) (fun _ _ _ hm hw => (hw.lower (by first | exact hm | exact Mem.le.trans (by assumption) hm | exact Mem.le.trans (by first | exact Mem.le.refl _ | assumption | (repeat first | assumption | refine Mem.le.trans (by assumption) ?_)) hm)).cnt (by intro zz; first | exact Nat.le_refl _ | (simp only [Zh, Zd, Zi, cat, List.append_eq, List.append_assoc, List.cons_append, List.nil_append, List.append_nil]; omega) | (simp only [Zh, Zd, Zi, cat, List.append_eq, List.append_assoc, List.cons_append, List.nil_append, List.append_nil, StepL06V.segs]; omega))) (Zbh rfl) ?_
              rintro _ M2 _ _ ⟨hM2, rfl, rfl⟩
              obtain rfl := hM2.symm
              refine Zf ?_; refine Zb ?_; refine Zk (.cons (k := 7) rfl (.cons (k := 5) rfl (.cons (k := 4) rfl (.cons (k := 0) rfl (.cons (k := 1) rfl .nil))))) ?_; refine Zj ?_; refine Zj ?_; refine Za (l := [0, 1]) rfl ?_; refine Zc rfl rfl rfl rfl ?_; refine Zao rfl rfl rfl rfl rfl rfl ?_; refine Zf ?_; refine Zb ?_; refine Zk (.cons (k := 34) rfl (.cons (k := 7) rfl (.cons (k := 5) rfl (.cons (k := 4) rfl (.cons (k := 0) rfl (.cons (k := 1) rfl .nil)))))) ?_
              refine Zx rfl (fun hc10 => ?_) (fun hc10 => ?_)
              · first | replace hc10 := dT hc10 | replace hc10 := dF hc10 | replace hc10 := nT hc10 | replace hc10 := nF hc10 | skip
                first
                | (exfalso; omega)
                | (exfalso; simp [eqX] at hc10; done)
                | contradiction
                | skip
                  refine Zj ?_; refine Za (l := [0, 1]) rfl ?_; refine X_indexAddr_arr (k := 0) rfl rfl rfl rfl F.arr116 rfl (by decide) rfl ?_; refine Zbu (v := 45) rfl rfl rfl rfl F.lay5 (by repeat first | exact Upd.head | apply Upd.tail | apply Upd.over) (by rw [hfl]; decide) ?_; refine Zf ?_; refine Zb ?_; refine Zk (.cons (k := 7) rfl (.cons (k := 5) rfl (.cons (k := 4) rfl (.cons (k := 0) rfl (.cons (k := 1) rfl .nil))))) ?_; refine Zj ?_; refine Za (l := [0, 1, 2, 3, 4]) rfl ?_; refine Zc rfl rfl rfl rfl ?_; refine Zai (r := ((1 + ndT tb a : Nat) : Int)) rfl rfl rfl rfl rfl (by rw [Zt rfl (by omega)]; omega) rfl ?_; refine Zy (olo := none) (ohi := some (1 + ndT tb a)) rfl rfl rfl .none (.some rfl rfl) F.arr116 (by show 1 + ndT tb a ≤ 24; omega) (by show 0 ≤ 1 + ndT tb a; omega) (show _ = Value.slice (some ⟨b8, 0, none⟩) (1 + ndT tb a) 24 by simp [pieceV, Addr.add]) rfl ?_
                  refine Zbr (l := (((fmt10 (List.replicate 24 0) (ndT tb a) a).set 0 45).drop 0).take (1 + ndT tb a)) (s := strOfNums (((((fmt10 (List.replicate 24 0) (ndT tb a) a).set 0 45).drop 0).take (1 + ndT tb a)).map fun n : Nat => (n : Int))) rfl rfl rfl (srcB (by repeat first | exact List.Mem.head _ | refine List.Mem.tail _ ?_ | refine List.mem_append_right _ ?_) (by first | (rw [List.length_set, hfl]; omega) | (rw [hfl]; omega))) F.elem120 Tryd.underlying5 Tryd.underlying9 rfl rfl ?_; refine Ze rfl rfl rfl rfl ?_; refine Zf ?_; refine Zb ?_; refine Zk (.cons (k := 4) rfl (.cons (k := 7) rfl (.cons (k := 5) rfl (.cons (k := 0) rfl (.cons (k := 1) rfl .nil))))) ?_; refine Zag ?_; refine Zam ?_; refine Zam ?_
                  refine Zab (.inr rfl) (.tmp rfl .nil) (fun w hw => ?_)
                  refine ⟨_, rfl, hw.cnt (by intro zz; first | exact Nat.le_refl _ | (simp only [Zh, Zd, Zi, cat, List.append_eq, List.append_assoc, List.cons_append, List.nil_append, List.append_nil]; omega) | (simp only [Zh, Zd, Zi, cat, List.append_eq, List.append_assoc, List.cons_append, List.nil_append, List.append_nil, StepL06V.segs]; omega)), ?_⟩
                  clear hw
                  rw [tell_neg tb h1]
                  rw [List.drop_zero]
                  rfl
              · first | replace hc10 := dT hc10 | replace hc10 := dF hc10 | replace hc10 := nT hc10 | replace hc10 := nF hc10 | skip
                first
                | (exfalso; omega)
                | (exfalso; simp [eqX] at hc10; done)
                | contradiction
                | skip
                  refine Zu ?_; refine Zb ?_; refine Zk (.cons (k := 7) rfl (.cons (k := 5) rfl (.cons (k := 4) rfl (.cons (k := 0) rfl (.cons (k := 1) rfl .nil))))) ?_; refine Zj ?_; refine Za (l := [0, 1, 2, 3, 4]) rfl ?_; refine Zc rfl rfl rfl rfl ?_; refine Zai (r := ((1 + ndT tb a : Nat) : Int)) rfl rfl rfl rfl rfl (by rw [Zt rfl (by omega)]; omega) rfl ?_; refine Zy (olo := some 1) (ohi := some (1 + ndT tb a)) rfl rfl rfl (.some rfl rfl) (.some rfl rfl) F.arr116 (by show 1 + ndT tb a ≤ 24; omega) (by show 1 ≤ 1 + ndT tb a; omega) (show _ = Value.slice (some ⟨b8, 1, none⟩) (ndT tb a) 23 by simp [pieceV, Addr.add]) rfl ?_; refine Zbr (l := (((fmt10 (List.replicate 24 0) (ndT tb a) a).set 0 45).drop 1).take (ndT tb a)) (s := strOfNums (((((fmt10 (List.replicate 24 0) (ndT tb a) a).set 0 45).drop 1).take (ndT tb a)).map fun n : Nat => (n : Int))) rfl rfl rfl (srcB (by repeat first | exact List.Mem.head _ | refine List.Mem.tail _ ?_ | refine List.mem_append_right _ ?_) (by first | (rw [List.length_set, hfl]; omega) | (rw [hfl]; omega))) F.elem120 Tryd.underlying5 Tryd.underlying9 rfl rfl ?_
                  refine Ze rfl rfl rfl rfl ?_; refine Zf ?_; refine Zb ?_; refine Zk (.cons (k := 4) rfl (.cons (k := 0) rfl (.cons (k := 1) rfl .nil))) ?_; refine Zag ?_; refine Zam ?_
                  refine Zab (.inr rfl) (.tmp rfl .nil) (fun w hw => ?_)
                  refine ⟨_, rfl, hw.cnt (by intro zz; first | exact Nat.le_refl _ | (simp only [Zh, Zd, Zi, cat, List.append_eq, List.append_assoc, List.cons_append, List.nil_append, List.append_nil]; omega) | (simp only [Zh, Zd, Zi, cat, List.append_eq, List.append_assoc, List.cons_append, List.nil_append, List.append_nil, StepL06V.segs]; omega)), ?_⟩
                  clear hw
                  rw [tell_neg tb h1]
                  rw [List.drop_zero]
                  rfl
          · first | replace hc9 := dT hc9 | replace hc9 := dF hc9 | replace hc9 := nT hc9 | replace hc9 := nF hc9 | skip
            first
            | (exfalso; omega)
            | (exfalso; simp [eqX] at hc9; done)
            | contradiction
            | skip
              refine Zu ?_; refine Zb ?_; refine Zk (.cons (k := 6) rfl (.cons (k := 5) rfl (.cons (k := 4) rfl (.cons (k := 0) rfl (.cons (k := 1) rfl .nil))))) ?_; refine Zj ?_; refine Za (l := [0, 1, 2]) rfl ?_; refine Zc rfl rfl rfl rfl ?_; refine X_fs rfl rfl F.ok61 rfl (nd_ok M tb ht a (by omega)) rfl ?_
              rintro _ rfl
              refine Ze rfl rfl rfl rfl ?_; refine Zf ?_; refine Zb ?_; refine Zk (.cons (k := 7) rfl (.cons (k := 6) rfl (.cons (k := 5) rfl (.cons (k := 4) rfl (.cons (k := 0) rfl (.cons (k := 1) rfl .nil)))))) ?_; refine Zj ?_; refine Zbl (l := [0, 1, 2, 3, 4]) (Hin := [(b8, _)]) (by repeat first | exact Rem.here _ | exact Rem.two | apply Rem.skip | apply Rem.over) rfl ?_; refine Zc rfl rfl rfl rfl ?_; refine Zai (r := ((1 + ndT tb a : Nat) : Int)) rfl rfl rfl rfl rfl (by rw [Zt rfl (by omega)]; omega) rfl ?_; refine Zy (olo := some 1) (ohi := some (1 + ndT tb a)) rfl rfl rfl (.some rfl rfl) (.some rfl rfl) F.arr116 (by show 1 + ndT tb a ≤ 24; omega) (by show 1 ≤ 1 + ndT tb a; omega) (show _ = Value.slice (some ⟨b8, 1, none⟩) (ndT tb a) 23 by simp [pieceV, Addr.add]) rfl ?_; refine Zc rfl rfl rfl rfl ?_; refine Zcd rfl rfl F.ok62 rfl (fmt_ok M b8 (ndT tb a) a (List.replicate 24 0) (by rfl) hk (by omega)) (by repeat first | exact Rem.here _ | exact Rem.two | apply Rem.skip | apply Rem.over) (fun _ _ _ hm hw => (hw.lower (by first | exact hm | exact Mem.le.trans (by assumption) hm | exact Mem.le.trans (by first | exact Mem.le.refl _ | assumption | (repeat first | assumption | refine Mem.le.trans (by assumption) ?_)) hm)).cnt (by intro zz; first | exact Nat.le_refl _ | (simp only [Zh, Zd, Zi, cat, List.append_eq, List.append_assoc, List.cons_append, List.nil_append, List.append_nil]; omega) | (simp only [Zh, Zd, Zi, cat, List.append_eq, List.append_assoc, List.cons_append, List.nil_append, List.append_nil, StepL06V.segs]; omega))) (Zbh rfl) ?_
              rintro _ M2 _ _ ⟨hM2, rfl, rfl⟩
              obtain rfl := hM2.symm
              refine Zf ?_; refine Zb ?_; refine Zk (.cons (k := 7) rfl (.cons (k := 5) rfl (.cons (k := 4) rfl (.cons (k := 0) rfl (.cons (k := 1) rfl .nil))))) ?_; refine Zj ?_; refine Zj ?_; refine Za (l := [0, 1]) rfl ?_; refine Zc rfl rfl rfl rfl ?_; refine Zao rfl rfl rfl rfl rfl rfl ?_; refine Zf ?_; refine Zb ?_; refine Zk (.cons (k := 34) rfl (.cons (k := 7) rfl (.cons (k := 5) rfl (.cons (k := 4) rfl (.cons (k := 0) rfl (.cons (k := 1) rfl .nil)))))) ?_
              refine Zx rfl (fun hc11 => ?_) (fun hc11 => ?_)
              · first | replace hc11 := dT hc11 | replace hc11 := dF hc11 | replace hc11 := nT hc11 | replace hc11 := nF hc11 | skip
                first
                | (exfalso; omega)
                | (exfalso; simp [eqX] at hc11; done)
                | contradiction
                | skip
                  refine Zj ?_; refine Za (l := [0, 1]) rfl ?_; refine X_indexAddr_arr (k := 0) rfl rfl rfl rfl F.arr116 rfl (by decide) rfl ?_; refine Zbu (v := 45) rfl rfl rfl rfl F.lay5 (by repeat first | exact Upd.head | apply Upd.tail | apply Upd.over) (by rw [hfl]; decide) ?_; refine Zf ?_; refine Zb ?_; refine Zk (.cons (k := 7) rfl (.cons (k := 5) rfl (.cons (k := 4) rfl (.cons (k := 0) rfl (.cons (k := 1) rfl .nil))))) ?_; refine Zj ?_; refine Za (l := [0, 1, 2, 3, 4]) rfl ?_; refine Zc rfl rfl rfl rfl ?_; refine Zai (r := ((1 + ndT tb a : Nat) : Int)) rfl rfl rfl rfl rfl (by rw [Zt rfl (by omega)]; omega) rfl ?_; refine Zy (olo := none) (ohi := some (1 + ndT tb a)) rfl rfl rfl .none (.some rfl rfl) F.arr116 (by show 1 + ndT tb a ≤ 24; omega) (by show 0 ≤ 1 + ndT tb a; omega) (show _ = Value.slice (some ⟨b8, 0, none⟩) (1 + ndT tb a) 24 by simp [pieceV, Addr.add]) rfl ?_
                  refine Zbr (l := (((fmt10 (List.replicate 24 0) (ndT tb a) a).set 0 45).drop 0).take (1 + ndT tb a)) (s := strOfNums (((((fmt10 (List.replicate 24 0) (ndT tb a) a).set 0 45).drop 0).take (1 + ndT tb a)).map fun n : Nat => (n : Int))) rfl rfl rfl (srcB (by repeat first | exact List.Mem.head _ | refine List.Mem.tail _ ?_ | refine List.mem_append_right _ ?_) (by first | (rw [List.length_set, hfl]; omega) | (rw [hfl]; omega))) F.elem120 Tryd.underlying5 Tryd.underlying9 rfl rfl ?_; refine Ze rfl rfl rfl rfl ?_; refine Zf ?_; refine Zb ?_; refine Zk (.cons (k := 4) rfl (.cons (k := 7) rfl (.cons (k := 5) rfl (.cons (k := 0) rfl (.cons (k := 1) rfl .nil))))) ?_; refine Zag ?_; refine Zam ?_; refine Zam ?_
                  refine Zab (.inr rfl) (.tmp rfl .nil) (fun w hw => ?_)
                  refine ⟨_, rfl, hw.cnt (by intro zz; first | exact Nat.le_refl _ | (simp only [Zh, Zd, Zi, cat, List.append_eq, List.append_assoc, List.cons_append, List.nil_append, List.append_nil]; omega) | (simp only [Zh, Zd, Zi, cat, List.append_eq, List.append_assoc, List.cons_append, List.nil_append, List.append_nil, StepL06V.segs]; omega)), ?_⟩
                  clear hw
                  rw [tell_neg tb h1]
                  rw [List.drop_zero]
                  rfl
              · first | replace hc11 := dT hc11 | replace hc11 := dF hc11 | replace hc11 := nT hc11 | replace hc11 := nF hc11 | skip
                first
                | (exfalso; omega)
                | (exfalso; simp [eqX] at hc11; done)
                | contradiction
                | skip
                  refine Zu ?_; refine Zb ?_; refine Zk (.cons (k := 7) rfl (.cons (k := 5) rfl (.cons (k := 4) rfl (.cons (k := 0) rfl (.cons (k := 1) rfl .nil))))) ?_; refine Zj ?_; refine Za (l := [0, 1, 2, 3, 4]) rfl ?_; refine Zc rfl rfl rfl rfl ?_; refine Zai (r := ((1 + ndT tb a : Nat) : Int)) rfl rfl rfl rfl rfl (by rw [Zt rfl (by omega)]; omega) rfl ?_; refine Zy (olo := some 1) (ohi := some (1 + ndT tb a)) rfl rfl rfl (.some rfl rfl) (.some rfl rfl) F.arr116 (by show 1 + ndT tb a ≤ 24; omega) (by show 1 ≤ 1 + ndT tb a; omega) (show _ = Value.slice (some ⟨b8, 1, none⟩) (ndT tb a) 23 by simp [pieceV, Addr.add]) rfl ?_; refine Zbr (l := (((fmt10 (List.replicate 24 0) (ndT tb a) a).set 0 45).drop 1).take (ndT tb a)) (s := strOfNums (((((fmt10 (List.replicate 24 0) (ndT tb a) a).set 0 45).drop 1).take (ndT tb a)).map fun n : Nat => (n : Int))) rfl rfl rfl (srcB (by repeat first | exact List.Mem.head _ | refine List.Mem.tail _ ?_ | refine List.mem_append_right _ ?_) (by first | (rw [List.length_set, hfl]; omega) | (rw [hfl]; omega))) F.elem120 Tryd.underlying5 Tryd.underlying9 rfl rfl ?_
                  refine Ze rfl rfl rfl rfl ?_; refine Zf ?_; refine Zb ?_; refine Zk (.cons (k := 4) rfl (.cons (k := 0) rfl (.cons (k := 1) rfl .nil))) ?_; refine Zag ?_; refine Zam ?_
                  refine Zab (.inr rfl) (.tmp rfl .nil) (fun w hw => ?_)
                  refine ⟨_, rfl, hw.cnt (by intro zz; first | exact Nat.le_refl _ | (simp only [Zh, Zd, Zi, cat, List.append_eq, List.append_assoc, List.cons_append, List.nil_append, List.append_nil]; omega) | (simp only [Zh, Zd, Zi, cat, List.append_eq, List.append_assoc, List.cons_append, List.nil_append, List.append_nil, StepL06V.segs]; omega)), ?_⟩
                  clear hw
                  rw [tell_neg tb h1]
                  rw [List.drop_zero]
                  rfl
  · first | replace hc1 := dT hc1 | replace hc1 := dF hc1 | replace hc1 := nT hc1 | replace hc1 := nF hc1 | skip
    first
    | (exfalso; omega)
    | (exfalso; simp [eqX] at hc1; done)
    | contradiction
    | skip
      refine Zu ?_; refine Zb ?_; refine Zk (.cons (k := 4) rfl (.cons (k := 0) rfl (.cons (k := 1) rfl .nil))) ?_; refine Zj ?_; refine Za (l := [0, 1, 2, 3, 4, 5, 6, 7, 8, 9, 10]) rfl ?_; refine Zc rfl rfl rfl rfl ?_; refine Zcb rfl rfl rfl Tryd.underlying2 Tryd.underlying117 (by first | exact Zt (by decide) (by omega) | exact Zz (by decide) (by omega) | exact Zae (by decide) (by omega) | exact Zm (by decide) (by omega) | exact Zah _ | exact Zay _ | exact Zak _ | exact rfl) rfl ?_; refine Zc rfl rfl rfl rfl ?_; refine Zc rfl rfl rfl rfl ?_; refine Zao rfl rfl rfl rfl rfl rfl ?_
      fail
      refine Zc rfl rfl rfl rfl ?_; refine Zw rfl rfl rfl rfl rfl ?_; refine Zw rfl rfl rfl rfl rfl ?_; refine Ze rfl rfl rfl rfl ?_; refine Ze rfl rfl rfl rfl ?_; refine Zf ?_; refine Zb ?_; refine Zk (.cons (k := 9) rfl (.cons (k := 4) rfl .nil)) ?_; refine Zj ?_; refine Za (l := [0, 1]) rfl ?_; refine Zc rfl rfl rfl rfl ?_; refine Ze rfl rfl rfl rfl ?_; refine Zf ?_; refine Zb ?_; refine Zk (.cons (k := 4) rfl .nil) ?_; refine Zag ?_
      refine Zab (.inr rfl) (.tmp rfl .nil) (fun w hw => ?_)
      refine ⟨_, rfl, hw.cnt (by intro zz; first | exact Nat.le_refl _ | (simp only [Zh, Zd, Zi, cat, List.append_eq, List.append_assoc, List.cons_append, List.nil_append, List.append_nil]; omega) | (simp only [Zh, Zd, Zi, cat, List.append_eq, List.append_assoc, List.cons_append, List.nil_append, List.append_nil, StepL06V.segs]; omega)), ?_⟩
      clear hw
      rw [tell_neg tb h1]
      rw [List.drop_zero]
      rfl
theorem FI_pos (M : Mem) (tb : List Nat) (ht : TabU M tb 125) (a : Nat) (h1 : 100 ≤ a) (h2 : a ≤ 9223372036854775807) : Fs Tryd.prog 59 [.int .i64 (a : Int), .int .i64 10] M (fun v => v = .string (tellT tb (a : Int))) := by
  have hk := ndT_le tb a
  have hfl : (fmt10 (List.replicate 24 0) (ndT tb a) a).length = 24 := by rw [fmt10_len]; rfl
  refine Zbb Tryd.func59 rfl Tryd.ntmps59 rfl ?_; intro H
  refine Zj ?_; refine Za (l := [0]) rfl ?_; refine Ze rfl rfl rfl rfl ?_; refine Zf ?_; refine Zb ?_; refine Zj ?_; refine Zj ?_; refine Za (l := [0, 1]) rfl ?_; refine Zc rfl rfl rfl rfl ?_; refine Zao rfl rfl rfl rfl rfl rfl ?_; refine Zf ?_; refine Zb ?_; refine Zk (.cons (k := 11) rfl (.cons (k := 4) rfl (.cons (k := 0) rfl (.cons (k := 1) rfl .nil)))) ?_
  refine Zx rfl (fun hc1 => ?_) (fun hc1 => ?_)
  · first | replace hc1 := dT hc1 | replace hc1 := dF hc1 | replace hc1 := nT hc1 | replace hc1 := nF hc1 | skip
    first
    | (exfalso; omega)
    | (exfalso; simp [eqX] at hc1; done)
    | contradiction
    | skip
      refine Zj ?_; refine Zj ?_; refine Za (l := [0, 1, 2, 3, 4, 5]) rfl ?_; refine Zc rfl rfl rfl rfl ?_; refine Zao rfl rfl rfl rfl rfl rfl ?_; refine Zc rfl rfl rfl rfl ?_
      refine Zbz 14 rfl (fun hc2 => ?_) (fun hc2 => ?_)
      · first | replace hc2 := dT hc2 | replace hc2 := dF hc2 | replace hc2 := nT hc2 | replace hc2 := nF hc2 | skip
        first
        | (exfalso; omega)
        | (exfalso; simp [eqX] at hc2; done)
        | contradiction
        | skip
          refine Zc rfl rfl rfl rfl ?_; refine Zao rfl rfl rfl rfl rfl rfl ?_; refine Zau rfl rfl rfl rfl rfl ?_; refine Zf ?_; refine Zb ?_; refine Zk (.cons (k := 17) rfl (.cons (k := 4) rfl (.cons (k := 0) rfl (.cons (k := 1) rfl .nil)))) ?_
          refine Zx rfl (fun hc3 => ?_) (fun hc3 => ?_)
          · first | replace hc3 := dT hc3 | replace hc3 := dF hc3 | replace hc3 := nT hc3 | replace hc3 := nF hc3 | skip
            first
            | (exfalso; omega)
            | (exfalso; simp [eqX] at hc3; done)
            | contradiction
            | skip
              refine Zj ?_; refine Za (l := [0, 1, 2]) rfl ?_; refine Zc rfl rfl rfl rfl ?_
              fail
              refine Ze rfl rfl rfl rfl ?_; refine Zf ?_; refine Zb ?_; refine Zk (.cons (k := 4) rfl (.cons (k := 0) rfl (.cons (k := 1) rfl .nil))) ?_; refine Zag ?_; refine Zam ?_; refine Zam ?_
              refine Zab (.inr rfl) (.tmp rfl .nil) (fun w hw => ?_)
              refine ⟨_, rfl, hw.cnt (by intro zz; first | exact Nat.le_refl _ | (simp only [Zh, Zd, Zi, cat, List.append_eq, List.append_assoc, List.cons_append, List.nil_append, List.append_nil]; omega) | (simp only [Zh, Zd, Zi, cat, List.append_eq, List.append_assoc, List.cons_append, List.nil_append, List.append_nil, StepL06V.segs]; omega)), ?_⟩
              clear hw
              rw [tell_pos tb h1]
              rfl
          · first | replace hc3 := dT hc3 | replace hc3 := dF hc3 | replace hc3 := nT hc3 | replace hc3 := nF hc3 | skip
            first
            | (exfalso; omega)
            | (exfalso; simp [eqX] at hc3; done)
            | contradiction
            | skip
              refine Zu ?_; refine Zb ?_; refine Zk (.cons (k := 4) rfl (.cons (k := 0) rfl (.cons (k := 1) rfl .nil))) ?_; refine Zj ?_; refine Za (l := [0]) rfl ?_
              refine Zbw rfl rfl F.zero116 (by constructor) rfl ?_; intro b4
              refine Zf ?_; refine Zb ?_; refine Zj ?_
              rw [blk0]
              refine Za (l := [0, 1, 2]) rfl ?_; refine Zc rfl rfl rfl rfl ?_; refine Zcb (r := (a : Int)) rfl rfl rfl Tryd.underlying2 Tryd.underlying117 (by rw [Zah]; unfold w64; omega) rfl ?_; refine Ze rfl rfl rfl rfl ?_; refine Zf ?_; refine Zb ?_; refine Zk (.cons (k := 6) rfl (.cons (k := 5) rfl (.cons (k := 4) rfl (.cons (k := 0) rfl (.cons (k := 1) rfl .nil))))) ?_; refine Zj ?_; refine Zj ?_; refine Za (l := [0, 1]) rfl ?_; refine Zc rfl rfl rfl rfl ?_; refine Zao rfl rfl rfl rfl rfl rfl ?_; refine Zf ?_; refine Zb ?_; refine Zk (.cons (k := 23) rfl (.cons (k := 6) rfl (.cons (k := 5) rfl (.cons (k := 4) rfl (.cons (k := 0) rfl (.cons (k := 1) rfl .nil)))))) ?_
              refine Zx rfl (fun hc5 => ?_) (fun hc5 => ?_)
              · first | replace hc5 := dT hc5 | replace hc5 := dF hc5 | replace hc5 := nT hc5 | replace hc5 := nF hc5 | skip
                first
                | (exfalso; omega)
                | (exfalso; simp [eqX] at hc5; done)
                | contradiction
                | skip
                  refine Za (l := [0, 1, 2]) rfl ?_; refine Zc rfl rfl rfl rfl ?_; refine X_neg (r := (a : Int)) rfl rfl rfl (by rw [Zah]; unfold w64; omega) rfl ?_; refine Ze rfl rfl rfl rfl ?_; refine Zf ?_; refine Zb ?_; refine Zk (.cons (k := 6) rfl (.cons (k := 5) rfl (.cons (k := 4) rfl (.cons (k := 0) rfl (.cons (k := 1) rfl .nil))))) ?_; refine Zj ?_; refine Za (l := [0, 1, 2]) rfl ?_; refine Zc rfl rfl rfl rfl ?_; refine X_fs rfl rfl F.ok61 rfl (nd_ok M tb ht a (by omega)) rfl ?_
                  rintro _ rfl
                  refine Ze rfl rfl rfl rfl ?_; refine Zf ?_; refine Zb ?_; refine Zk (.cons (k := 7) rfl (.cons (k := 6) rfl (.cons (k := 5) rfl (.cons (k := 4) rfl (.cons (k := 0) rfl (.cons (k := 1) rfl .nil)))))) ?_; refine Zj ?_; refine Zbl (l := [0, 1, 2, 3, 4]) (Hin := [(b4, _)]) (by repeat first | exact Rem.here _ | exact Rem.two | apply Rem.skip | apply Rem.over) rfl ?_; refine Zc rfl rfl rfl rfl ?_; refine Zai (r := ((1 + ndT tb a : Nat) : Int)) rfl rfl rfl rfl rfl (by rw [Zt rfl (by omega)]; omega) rfl ?_; refine Zy (olo := some 1) (ohi := some (1 + ndT tb a)) rfl rfl rfl (.some rfl rfl) (.some rfl rfl) F.arr116 (by show 1 + ndT tb a ≤ 24; omega) (by show 1 ≤ 1 + ndT tb a; omega) (show _ = Value.slice (some ⟨b4, 1, none⟩) (ndT tb a) 23 by simp [pieceV, Addr.add]) rfl ?_; refine Zc rfl rfl rfl rfl ?_; refine Zcd rfl rfl F.ok62 rfl (fmt_ok M b4 (ndT tb a) a (List.replicate 24 0) (by rfl) hk (by omega)) (by repeat first | exact Rem.here _ | exact Rem.two | apply Rem.skip | apply Rem.over) (fun _ _ _ hm hw => (hw.lower (by first | exact hm | exact Mem.le.trans (by assumption) hm | exact Mem.le.trans (by first | exact Mem.le.refl _ | assumption | (repeat first | assumption | refine Mem.le.trans (by assumption) ?_)) hm)).cnt (by intro zz; first | exact Nat.le_refl _ | (simp only [Zh, Zd, Zi, cat, List.append_eq, List.append_assoc, List.cons_append, List.nil_append, List.append_nil]; omega) | (simp only [Zh, Zd, Zi, cat, List.append_eq, List.append_assoc, List.cons_append, List.nil_append, List.append_nil, StepL06V.segs]; omega))) (Zbh rfl) ?_
                  rintro _ M2 _ _ ⟨hM2, rfl, rfl⟩
                  obtain rfl := hM2.symm
                  refine Zf ?_; refine Zb ?_; refine Zk (.cons (k := 7) rfl (.cons (k := 5) rfl (.cons (k := 4) rfl (.cons (k := 0) rfl (.cons (k := 1) rfl .nil))))) ?_; refine Zj ?_; refine Zj ?_; refine Za (l := [0, 1]) rfl ?_; refine Zc rfl rfl rfl rfl ?_; refine Zao rfl rfl rfl rfl rfl rfl ?_; refine Zf ?_; refine Zb ?_; refine Zk (.cons (k := 34) rfl (.cons (k := 7) rfl (.cons (k := 5) rfl (.cons (k := 4) rfl (.cons (k := 0) rfl (.cons (k := 1) rfl .nil)))))) ?_
                  refine Zx rfl (fun hc6 => ?_) (fun hc6 => ?_)
                  · first | replace hc6 := dT hc6 | replace hc6 := dF hc6 | replace hc6 := nT hc6 | replace hc6 := nF hc6 | skip
                    first
                    | (exfalso; omega)
                    | (exfalso; simp [eqX] at hc6; done)
                    | contradiction
                    | skip
                      refine Zj ?_; refine Za (l := [0, 1]) rfl ?_; refine X_indexAddr_arr (k := 0) rfl rfl rfl rfl F.arr116 rfl (by decide) rfl ?_; refine Zbu (v := 45) rfl rfl rfl rfl F.lay5 (by repeat first | exact Upd.head | apply Upd.tail | apply Upd.over) (by rw [hfl]; decide) ?_; refine Zf ?_; refine Zb ?_; refine Zk (.cons (k := 7) rfl (.cons (k := 5) rfl (.cons (k := 4) rfl (.cons (k := 0) rfl (.cons (k := 1) rfl .nil))))) ?_; refine Zj ?_; refine Za (l := [0, 1, 2, 3, 4]) rfl ?_; refine Zc rfl rfl rfl rfl ?_; refine Zai (r := ((1 + ndT tb a : Nat) : Int)) rfl rfl rfl rfl rfl (by rw [Zt rfl (by omega)]; omega) rfl ?_; refine Zy (olo := none) (ohi := some (1 + ndT tb a)) rfl rfl rfl .none (.some rfl rfl) F.arr116 (by show 1 + ndT tb a ≤ 24; omega) (by show 0 ≤ 1 + ndT tb a; omega) (show _ = Value.slice (some ⟨b4, 0, none⟩) (1 + ndT tb a) 24 by simp [pieceV, Addr.add]) rfl ?_
                      refine Zbr (l := ((fmt10 (List.replicate 24 0) (ndT tb a) a).drop 0).take (1 + ndT tb a)) (s := strOfNums ((((fmt10 (List.replicate 24 0) (ndT tb a) a).drop 0).take (1 + ndT tb a)).map fun n : Nat => (n : Int))) rfl rfl rfl (srcB (by repeat first | exact List.Mem.head _ | refine List.Mem.tail _ ?_ | refine List.mem_append_right _ ?_) (by first | (rw [List.length_set, hfl]; omega) | (rw [hfl]; omega))) F.elem120 Tryd.underlying5 Tryd.underlying9 rfl rfl ?_; refine Ze rfl rfl rfl rfl ?_; refine Zf ?_; refine Zb ?_; refine Zk (.cons (k := 4) rfl (.cons (k := 7) rfl (.cons (k := 5) rfl (.cons (k := 0) rfl (.cons (k := 1) rfl .nil))))) ?_; refine Zag ?_; refine Zam ?_; refine Zam ?_
                      refine Zab (.inr rfl) (.tmp rfl .nil) (fun w hw => ?_)
                      refine ⟨_, rfl, hw.cnt (by intro zz; first | exact Nat.le_refl _ | (simp only [Zh, Zd, Zi, cat, List.append_eq, List.append_assoc, List.cons_append, List.nil_append, List.append_nil]; omega) | (simp only [Zh, Zd, Zi, cat, List.append_eq, List.append_assoc, List.cons_append, List.nil_append, List.append_nil, StepL06V.segs]; omega)), ?_⟩
                      clear hw
                      rw [tell_pos tb h1]
                      rfl
                  · first | replace hc6 := dT hc6 | replace hc6 := dF hc6 | replace hc6 := nT hc6 | replace hc6 := nF hc6 | skip
                    first
                    | (exfalso; omega)
                    | (exfalso; simp [eqX] at hc6; done)
                    | contradiction
                    | skip
                      refine Zu ?_; refine Zb ?_; refine Zk (.cons (k := 7) rfl (.cons (k := 5) rfl (.cons (k := 4) rfl (.cons (k := 0) rfl (.cons (k := 1) rfl .nil))))) ?_; refine Zj ?_; refine Za (l := [0, 1, 2, 3, 4]) rfl ?_; refine Zc rfl rfl rfl rfl ?_; refine Zai (r := ((1 + ndT tb a : Nat) : Int)) rfl rfl rfl rfl rfl (by rw [Zt rfl (by omega)]; omega) rfl ?_; refine Zy (olo := some 1) (ohi := some (1 + ndT tb a)) rfl rfl rfl (.some rfl rfl) (.some rfl rfl) F.arr116 (by show 1 + ndT tb a ≤ 24; omega) (by show 1 ≤ 1 + ndT tb a; omega) (show _ = Value.slice (some ⟨b4, 1, none⟩) (ndT tb a) 23 by simp [pieceV, Addr.add]) rfl ?_; refine Zbr (l := ((fmt10 (List.replicate 24 0) (ndT tb a) a).drop 1).take (ndT tb a)) (s := strOfNums ((((fmt10 (List.replicate 24 0) (ndT tb a) a).drop 1).take (ndT tb a)).map fun n : Nat => (n : Int))) rfl rfl rfl (srcB (by repeat first | exact List.Mem.head _ | refine List.Mem.tail _ ?_ | refine List.mem_append_right _ ?_) (by first | (rw [List.length_set, hfl]; omega) | (rw [hfl]; omega))) F.elem120 Tryd.underlying5 Tryd.underlying9 rfl rfl ?_
                      refine Ze rfl rfl rfl rfl ?_; refine Zf ?_; refine Zb ?_; refine Zk (.cons (k := 4) rfl (.cons (k := 0) rfl (.cons (k := 1) rfl .nil))) ?_; refine Zag ?_; refine Zam ?_
                      refine Zab (.inr rfl) (.tmp rfl .nil) (fun w hw => ?_)
                      refine ⟨_, rfl, hw.cnt (by intro zz; first | exact Nat.le_refl _ | (simp only [Zh, Zd, Zi, cat, List.append_eq, List.append_assoc, List.cons_append, List.nil_append, List.append_nil]; omega) | (simp only [Zh, Zd, Zi, cat, List.append_eq, List.append_assoc, List.cons_append, List.nil_append, List.append_nil, StepL06V.segs]; omega)), ?_⟩
                      clear hw
                      rw [tell_pos tb h1]
                      rfl
              · first | replace hc5 := dT hc5 | replace hc5 := dF hc5 | replace hc5 := nT hc5 | replace hc5 := nF hc5 | skip
                first
                | (exfalso; omega)
                | (exfalso; simp [eqX] at hc5; done)
                | contradiction
                | skip
                  refine Zu ?_; refine Zb ?_; refine Zk (.cons (k := 6) rfl (.cons (k := 5) rfl (.cons (k := 4) rfl (.cons (k := 0) rfl (.cons (k := 1) rfl .nil))))) ?_; refine Zj ?_; refine Za (l := [0, 1, 2]) rfl ?_; refine Zc rfl rfl rfl rfl ?_; refine X_fs rfl rfl F.ok61 rfl (nd_ok M tb ht a (by omega)) rfl ?_
                  rintro _ rfl
                  refine Ze rfl rfl rfl rfl ?_; refine Zf ?_; refine Zb ?_; refine Zk (.cons (k := 7) rfl (.cons (k := 6) rfl (.cons (k := 5) rfl (.cons (k := 4) rfl (.cons (k := 0) rfl (.cons (k := 1) rfl .nil)))))) ?_; refine Zj ?_; refine Zbl (l := [0, 1, 2, 3, 4]) (Hin := [(b4, _)]) (by repeat first | exact Rem.here _ | exact Rem.two | apply Rem.skip | apply Rem.over) rfl ?_; refine Zc rfl rfl rfl rfl ?_; refine Zai (r := ((1 + ndT tb a : Nat) : Int)) rfl rfl rfl rfl rfl (by rw [Zt rfl (by omega)]; omega) rfl ?_; refine Zy (olo := some 1) (ohi := some (1 + ndT tb a)) rfl rfl rfl (.some rfl rfl) (.some rfl rfl) F.arr116 (by show 1 + ndT tb a ≤ 24; omega) (by show 1 ≤ 1 + ndT tb a; omega) (show _ = Value.slice (some ⟨b4, 1, none⟩) (ndT tb a) 23 by simp [pieceV, Addr.add]) rfl ?_; refine Zc rfl rfl rfl rfl ?_; refine Zcd rfl rfl F.ok62 rfl (fmt_ok M b4 (ndT tb a) a (List.replicate 24 0) (by rfl) hk (by omega)) (by repeat first | exact Rem.here _ | exact Rem.two | apply Rem.skip | apply Rem.over) (fun _ _ _ hm hw => (hw.lower (by first | exact hm | exact Mem.le.trans (by assumption) hm | exact Mem.le.trans (by first | exact Mem.le.refl _ | assumption | (repeat first | assumption | refine Mem.le.trans (by assumption) ?_)) hm)).cnt (by intro zz; first | exact Nat.le_refl _ | (simp only [Zh, Zd, Zi, cat, List.append_eq, List.append_assoc, List.cons_append, List.nil_append, List.append_nil]; omega) | (simp only [Zh, Zd, Zi, cat, List.append_eq, List.append_assoc, List.cons_append, List.nil_append, List.append_nil, StepL06V.segs]; omega))) (Zbh rfl) ?_
                  rintro _ M2 _ _ ⟨hM2, rfl, rfl⟩
                  obtain rfl := hM2.symm
                  refine Zf ?_; refine Zb ?_; refine Zk (.cons (k := 7) rfl (.cons (k := 5) rfl (.cons (k := 4) rfl (.cons (k := 0) rfl (.cons (k := 1) rfl .nil))))) ?_; refine Zj ?_; refine Zj ?_; refine Za (l := [0, 1]) rfl ?_; refine Zc rfl rfl rfl rfl ?_; refine Zao rfl rfl rfl rfl rfl rfl ?_; refine Zf ?_; refine Zb ?_; refine Zk (.cons (k := 34) rfl (.cons (k := 7) rfl (.cons (k := 5) rfl (.cons (k := 4) rfl (.cons (k := 0) rfl (.cons (k := 1) rfl .nil)))))) ?_
                  refine Zx rfl (fun hc7 => ?_) (fun hc7 => ?_)
                  · first | replace hc7 := dT hc7 | replace hc7 := dF hc7 | replace hc7 := nT hc7 | replace hc7 := nF hc7 | skip
                    first
                    | (exfalso; omega)
                    | (exfalso; simp [eqX] at hc7; done)
                    | contradiction
                    | skip
                      refine Zj ?_; refine Za (l := [0, 1]) rfl ?_; refine X_indexAddr_arr (k := 0) rfl rfl rfl rfl F.arr116 rfl (by decide) rfl ?_; refine Zbu (v := 45) rfl rfl rfl rfl F.lay5 (by repeat first | exact Upd.head | apply Upd.tail | apply Upd.over) (by rw [hfl]; decide) ?_; refine Zf ?_; refine Zb ?_; refine Zk (.cons (k := 7) rfl (.cons (k := 5) rfl (.cons (k := 4) rfl (.cons (k := 0) rfl (.cons (k := 1) rfl .nil))))) ?_; refine Zj ?_; refine Za (l := [0, 1, 2, 3, 4]) rfl ?_; refine Zc rfl rfl rfl rfl ?_; refine Zai (r := ((1 + ndT tb a : Nat) : Int)) rfl rfl rfl rfl rfl (by rw [Zt rfl (by omega)]; omega) rfl ?_; refine Zy (olo := none) (ohi := some (1 + ndT tb a)) rfl rfl rfl .none (.some rfl rfl) F.arr116 (by show 1 + ndT tb a ≤ 24; omega) (by show 0 ≤ 1 + ndT tb a; omega) (show _ = Value.slice (some ⟨b4, 0, none⟩) (1 + ndT tb a) 24 by simp [pieceV, Addr.add]) rfl ?_
                      refine Zbr (l := ((fmt10 (List.replicate 24 0) (ndT tb a) a).drop 0).take (1 + ndT tb a)) (s := strOfNums ((((fmt10 (List.replicate 24 0) (ndT tb a) a).drop 0).take (1 + ndT tb a)).map fun n : Nat => (n : Int))) rfl rfl rfl (srcB (by repeat first | exact List.Mem.head _ | refine List.Mem.tail _ ?_ | refine List.mem_append_right _ ?_) (by first | (rw [List.length_set, hfl]; omega) | (rw [hfl]; omega))) F.elem120 Tryd.underlying5 Tryd.underlying9 rfl rfl ?_; refine Ze rfl rfl rfl rfl ?_; refine Zf ?_; refine Zb ?_; refine Zk (.cons (k := 4) rfl (.cons (k := 7) rfl (.cons (k := 5) rfl (.cons (k := 0) rfl (.cons (k := 1) rfl .nil))))) ?_; refine Zag ?_; refine Zam ?_; refine Zam ?_
                      refine Zab (.inr rfl) (.tmp rfl .nil) (fun w hw => ?_)
                      refine ⟨_, rfl, hw.cnt (by intro zz; first | exact Nat.le_refl _ | (simp only [Zh, Zd, Zi, cat, List.append_eq, List.append_assoc, List.cons_append, List.nil_append, List.append_nil]; omega) | (simp only [Zh, Zd, Zi, cat, List.append_eq, List.append_assoc, List.cons_append, List.nil_append, List.append_nil, StepL06V.segs]; omega)), ?_⟩
                      clear hw
                      rw [tell_pos tb h1]
                      rfl
                  · first | replace hc7 := dT hc7 | replace hc7 := dF hc7 | replace hc7 := nT hc7 | replace hc7 := nF hc7 | skip
                    first
                    | (exfalso; omega)
                    | (exfalso; simp [eqX] at hc7; done)
                    | contradiction
                    | skip
                      refine Zu ?_; refine Zb ?_; refine Zk (.cons (k := 7) rfl (.cons (k := 5) rfl (.cons (k := 4) rfl (.cons (k := 0) rfl (.cons (k := 1) rfl .nil))))) ?_; refine Zj ?_; refine Za (l := [0, 1, 2, 3, 4]) rfl ?_; refine Zc rfl rfl rfl rfl ?_; refine Zai (r := ((1 + ndT tb a : Nat) : Int)) rfl rfl rfl rfl rfl (by rw [Zt rfl (by omega)]; omega) rfl ?_; refine Zy (olo := some 1) (ohi := some (1 + ndT tb a)) rfl rfl rfl (.some rfl rfl) (.some rfl rfl) F.arr116 (by show 1 + ndT tb a ≤ 24; omega) (by show 1 ≤ 1 + ndT tb a; omega) (show _ = Value.slice (some ⟨b4, 1, none⟩) (ndT tb a) 23 by simp [pieceV, Addr.add]) rfl ?_; refine Zbr (l := ((fmt10 (List.replicate 24 0) (ndT tb a) a).drop 1).take (ndT tb a)) (s := strOfNums ((((fmt10 (List.replicate 24 0) (ndT tb a) a).drop 1).take (ndT tb a)).map fun n : Nat => (n : Int))) rfl rfl rfl (srcB (by repeat first | exact List.Mem.head _ | refine List.Mem.tail _ ?_ | refine List.mem_append_right _ ?_) (by first | (rw [List.length_set, hfl]; omega) | (rw [hfl]; omega))) F.elem120 Tryd.underlying5 Tryd.underlying9 rfl rfl ?_
                      refine Ze rfl rfl rfl rfl ?_; refine Zf ?_; refine Zb ?_; refine Zk (.cons (k := 4) rfl (.cons (k := 0) rfl (.cons (k := 1) rfl .nil))) ?_; refine Zag ?_; refine Zam ?_
                      refine Zab (.inr rfl) (.tmp rfl .nil) (fun w hw => ?_)
                      refine ⟨_, rfl, hw.cnt (by intro zz; first | exact Nat.le_refl _ | (simp only [Zh, Zd, Zi, cat, List.append_eq, List.append_assoc, List.cons_append, List.nil_append, List.append_nil]; omega) | (simp only [Zh, Zd, Zi, cat, List.append_eq, List.append_assoc, List.cons_append, List.nil_append, List.append_nil, StepL06V.segs]; omega)), ?_⟩
                      clear hw
                      rw [tell_pos tb h1]
                      rfl
      · first | replace hc2 := dT hc2 | replace hc2 := dF hc2 | replace hc2 := nT hc2 | replace hc2 := nF hc2 | skip
        first
        | (exfalso; omega)
        | (exfalso; simp [eqX] at hc2; done)
        | contradiction
        | skip
          refine Zba rfl rfl rfl ?_; refine Zba rfl rfl rfl ?_; refine Zau rfl rfl rfl rfl rfl ?_; refine Zf ?_; refine Zb ?_; refine Zk (.cons (k := 17) rfl (.cons (k := 4) rfl (.cons (k := 0) rfl (.cons (k := 1) rfl .nil)))) ?_; refine Zbe rfl ?_; refine Zu ?_; refine Zb ?_; refine Zk (.cons (k := 4) rfl (.cons (k := 0) rfl (.cons (k := 1) rfl .nil))) ?_; refine Zj ?_; refine Za (l := [0]) rfl ?_
          refine Zbw rfl rfl F.zero116 (by constructor) rfl ?_; intro b8
          refine Zf ?_; refine Zb ?_; refine Zj ?_
          rw [blk0]
          refine Za (l := [0, 1, 2]) rfl ?_; refine Zc rfl rfl rfl rfl ?_; refine Zcb (r := (a : Int)) rfl rfl rfl Tryd.underlying2 Tryd.underlying117 (by rw [Zah]; unfold w64; omega) rfl ?_; refine Ze rfl rfl rfl rfl ?_; refine Zf ?_; refine Zb ?_; refine Zk (.cons (k := 6) rfl (.cons (k := 5) rfl (.cons (k := 4) rfl (.cons (k := 0) rfl (.cons (k := 1) rfl .nil))))) ?_; refine Zj ?_; refine Zj ?_; refine Za (l := [0, 1]) rfl ?_; refine Zc rfl rfl rfl rfl ?_; refine Zao rfl rfl rfl rfl rfl rfl ?_; refine Zf ?_; refine Zb ?_; refine Zk (.cons (k := 23) rfl (.cons (k := 6) rfl (.cons (k := 5) rfl (.cons (k := 4) rfl (.cons (k := 0) rfl (.cons (k := 1) rfl .nil)))))) ?_
          refine Zx rfl (fun hc9 => ?_) (fun hc9 => ?_)
          · first | replace hc9 := dT hc9 | replace hc9 := dF hc9 | replace hc9 := nT hc9 | replace hc9 := nF hc9 | skip
            first
            | (exfalso; omega)
            | (exfalso; simp [eqX] at hc9; done)
            | contradiction
            | skip
              refine Za (l := [0, 1, 2]) rfl ?_; refine Zc rfl rfl rfl rfl ?_; refine X_neg (r := (a : Int)) rfl rfl rfl (by rw [Zah]; unfold w64; omega) rfl ?_; refine Ze rfl rfl rfl rfl ?_; refine Zf ?_; refine Zb ?_; refine Zk (.cons (k := 6) rfl (.cons (k := 5) rfl (.cons (k := 4) rfl (.cons (k := 0) rfl (.cons (k := 1) rfl .nil))))) ?_; refine Zj ?_; refine Za (l := [0, 1, 2]) rfl ?_; refine Zc rfl rfl rfl rfl ?_; refine X_fs rfl rfl F.ok61 rfl (nd_ok M tb ht a (by omega)) rfl ?_
              rintro _ rfl
              refine Ze rfl rfl rfl rfl ?_; refine Zf ?_; refine Zb ?_; refine Zk (.cons (k := 7) rfl (.cons (k := 6) rfl (.cons (k := 5) rfl (.cons (k := 4) rfl (.cons (k := 0) rfl (.cons (k := 1) rfl .nil)))))) ?_; refine Zj ?_; refine Zbl (l := [0, 1, 2, 3, 4]) (Hin := [(b8, _)]) (by repeat first | exact Rem.here _ | exact Rem.two | apply Rem.skip | apply Rem.over) rfl ?_; refine Zc rfl rfl rfl rfl ?_; refine Zai (r := ((1 + ndT tb a : Nat) : Int)) rfl rfl rfl rfl rfl (by rw [Zt rfl (by omega)]; omega) rfl ?_; refine Zy (olo := some 1) (ohi := some (1 + ndT tb a)) rfl rfl rfl (.some rfl rfl) (.some rfl rfl) F.arr116 (by show 1 + ndT tb a ≤ 24; omega) (by show 1 ≤ 1 + ndT tb a; omega) (show _ = Value.slice (some ⟨b8, 1, none⟩) (ndT tb a) 23 by simp [pieceV, Addr.add]) rfl ?_; refine Zc rfl rfl rfl rfl ?_; refine Zcd rfl rfl F.ok62 rfl (fmt_ok M b8 (ndT tb a) a (List.replicate 24 0) (by rfl) hk (by omega)) (by repeat first | exact Rem.here _ | exact Rem.two | apply Rem.skip | apply Rem.over) (fun _ _ _ hm hw => (hw.lower (by first | exact hm | exact Mem.le.trans (by assumption) hm | exact Mem.le.trans (by first | exact Mem.le.refl _ | assumption | (repeat first | assumption | refine Mem.le.trans (by assumption) ?_)) hm)).cnt (by intro zz; first | exact Nat.le_refl _ | (simp only [Zh, Zd, Zi, cat, List.append_eq, List.append_assoc, List.cons_append, List.nil_append, List.append_nil]; omega) | (simp only [Zh, Zd, Zi, cat, List.append_eq, List.append_assoc, List.cons_append, List.nil_append, List.append_nil, StepL06V.segs]; omega))) (Zbh rfl) ?_
              rintro _ M2 _ _ ⟨hM2, rfl, rfl⟩
              obtain rfl := hM2.symm
              refine Zf ?_; refine Zb ?_; refine Zk (.cons (k := 7) rfl (.cons (k := 5) rfl (.cons (k := 4) rfl (.cons (k := 0) rfl (.cons (k := 1) rfl .nil))))) ?_; refine Zj ?_; refine Zj ?_; refine Za (l := [0, 1]) rfl ?_; refine Zc rfl rfl rfl rfl ?_; refine Zao rfl rfl rfl rfl rfl rfl ?_; refine Zf ?_; refine Zb ?_; refine Zk (.cons (k := 34) rfl (.cons (k := 7) rfl (.cons (k := 5) rfl (.cons (k := 4) rfl (.cons (k := 0) rfl (.cons (k := 1) rfl .nil)))))) ?_
              refine Zx rfl (fun hc10 => ?_) (fun hc10 => ?_)
              · first | replace hc10 := dT hc10 | replace hc10 := dF hc10 | replace hc10 := nT hc10 | replace hc10 := nF hc10 | skip
                first
                | (exfalso; omega)
                | (exfalso; simp [eqX] at hc10; done)
                | contradiction
                | skip
                  refine Zj ?_; refine Za (l := [0, 1]) rfl ?_; refine X_indexAddr_arr (k := 0) rfl rfl rfl rfl F.arr116 rfl (by decide) rfl ?_; refine Zbu (v := 45) rfl rfl rfl rfl F.lay5 (by repeat first | exact Upd.head | apply Upd.tail | apply Upd.over) (by rw [hfl]; decide) ?_; refine Zf ?_; refine Zb ?_; refine Zk (.cons (k := 7) rfl (.cons (k := 5) rfl (.cons (k := 4) rfl (.cons (k := 0) rfl (.cons (k := 1) rfl .nil))))) ?_; refine Zj ?_; refine Za (l := [0, 1, 2, 3, 4]) rfl ?_; refine Zc rfl rfl rfl rfl ?_; refine Zai (r := ((1 + ndT tb a : Nat) : Int)) rfl rfl rfl rfl rfl (by rw [Zt rfl (by omega)]; omega) rfl ?_; refine Zy (olo := none) (ohi := some (1 + ndT tb a)) rfl rfl rfl .none (.some rfl rfl) F.arr116 (by show 1 + ndT tb a ≤ 24; omega) (by show 0 ≤ 1 + ndT tb a; omega) (show _ = Value.slice (some ⟨b8, 0, none⟩) (1 + ndT tb a) 24 by simp [pieceV, Addr.add]) rfl ?_
                  refine Zbr (l := ((fmt10 (List.replicate 24 0) (ndT tb a) a).drop 0).take (1 + ndT tb a)) (s := strOfNums ((((fmt10 (List.replicate 24 0) (ndT tb a) a).drop 0).take (1 + ndT tb a)).map fun n : Nat => (n : Int))) rfl rfl rfl (srcB (by repeat first | exact List.Mem.head _ | refine List.Mem.tail _ ?_ | refine List.mem_append_right _ ?_) (by first | (rw [List.length_set, hfl]; omega) | (rw [hfl]; omega))) F.elem120 Tryd.underlying5 Tryd.underlying9 rfl rfl ?_; refine Ze rfl rfl rfl rfl ?_; refine Zf ?_; refine Zb ?_; refine Zk (.cons (k := 4) rfl (.cons (k := 7) rfl (.cons (k := 5) rfl (.cons (k := 0) rfl (.cons (k := 1) rfl .nil))))) ?_; refine Zag ?_; refine Zam ?_; refine Zam ?_
                  refine Zab (.inr rfl) (.tmp rfl .nil) (fun w hw => ?_)
                  refine ⟨_, rfl, hw.cnt (by intro zz; first | exact Nat.le_refl _ | (simp only [Zh, Zd, Zi, cat, List.append_eq, List.append_assoc, List.cons_append, List.nil_append, List.append_nil]; omega) | (simp only [Zh, Zd, Zi, cat, List.append_eq, List.append_assoc, List.cons_append, List.nil_append, List.append_nil, StepL06V.segs]; omega)), ?_⟩
                  clear hw
                  rw [tell_pos tb h1]
                  rfl
              · first | replace hc10 := dT hc10 | replace hc10 := dF hc10 | replace hc10 := nT hc10 | replace hc10 := nF hc10 | skip
                first
                | (exfalso; omega)
                | (exfalso; simp [eqX] at hc10; done)
                | contradiction
                | skip
                  refine Zu ?_; refine Zb ?_; refine Zk (.cons (k := 7) rfl (.cons (k := 5) rfl (.cons (k := 4) rfl (.cons (k := 0) rfl (.cons (k := 1) rfl .nil))))) ?_; refine Zj ?_; refine Za (l := [0, 1, 2, 3, 4]) rfl ?_; refine Zc rfl rfl rfl rfl ?_; refine Zai (r := ((1 + ndT tb a : Nat) : Int)) rfl rfl rfl rfl rfl (by rw [Zt rfl (by omega)]; omega) rfl ?_; refine Zy (olo := some 1) (ohi := some (1 + ndT tb a)) rfl rfl rfl (.some rfl rfl) (.some rfl rfl) F.arr116 (by show 1 + ndT tb a ≤ 24; omega) (by show 1 ≤ 1 + ndT tb a; omega) (show _ = Value.slice (some ⟨b8, 1, none⟩) (ndT tb a) 23 by simp [pieceV, Addr.add]) rfl ?_; refine Zbr (l := ((fmt10 (List.replicate 24 0) (ndT tb a) a).drop 1).take (ndT tb a)) (s := strOfNums ((((fmt10 (List.replicate 24 0) (ndT tb a) a).drop 1).take (ndT tb a)).map fun n : Nat => (n : Int))) rfl rfl rfl (srcB (by repeat first | exact List.Mem.head _ | refine List.Mem.tail _ ?_ | refine List.mem_append_right _ ?_) (by first | (rw [List.length_set, hfl]; omega) | (rw [hfl]; omega))) F.elem120 Tryd.underlying5 Tryd.underlying9 rfl rfl ?_
                  refine Ze rfl rfl rfl rfl ?_; refine Zf ?_; refine Zb ?_; refine Zk (.cons (k := 4) rfl (.cons (k := 0) rfl (.cons (k := 1) rfl .nil))) ?_; refine Zag ?_; refine Zam ?_
                  refine Zab (.inr rfl) (.tmp rfl .nil) (fun w hw => ?_)
                  refine ⟨_, rfl, hw.cnt (by intro zz; first | exact Nat.le_refl _ | (simp only [Zh, Zd, Zi, cat, List.append_eq, List.append_assoc, List.cons_append, List.nil_append, List.append_nil]; omega) | (simp only [Zh, Zd, Zi, cat, List.append_eq, List.append_assoc, List.cons_append, List.nil_append, List.append_nil, StepL06V.segs]; omega)), ?_⟩
                  clear hw
                  rw [tell_pos tb h1]
                  rfl
          · first | replace hc9 := dT hc9 | replace hc9 := dF hc9 | replace hc9 := nT hc9 | replace hc9 := nF hc9 | skip
            first
            | (exfalso; omega)
            | (exfalso; simp [eqX] at hc9; done)
            | contradiction
            | skip
              refine Zu ?_; refine Zb ?_; refine Zk (.cons (k := 6) rfl (.cons (k := 5) rfl (.cons (k := 4) rfl (.cons (k := 0) rfl (.cons (k := 1) rfl .nil))))) ?_; refine Zj ?_; refine Za (l := [0, 1, 2]) rfl ?_; refine Zc rfl rfl rfl rfl ?_; refine X_fs rfl rfl F.ok61 rfl (nd_ok M tb ht a (by omega)) rfl ?_
              rintro _ rfl
              refine Ze rfl rfl rfl rfl ?_; refine Zf ?_; refine Zb ?_; refine Zk (.cons (k := 7) rfl (.cons (k := 6) rfl (.cons (k := 5) rfl (.cons (k := 4) rfl (.cons (k := 0) rfl (.cons (k := 1) rfl .nil)))))) ?_; refine Zj ?_; refine Zbl (l := [0, 1, 2, 3, 4]) (Hin := [(b8, _)]) (by repeat first | exact Rem.here _ | exact Rem.two | apply Rem.skip | apply Rem.over) rfl ?_; refine Zc rfl rfl rfl rfl ?_; refine Zai (r := ((1 + ndT tb a : Nat) : Int)) rfl rfl rfl rfl rfl (by rw [Zt rfl (by omega)]; omega) rfl ?_; refine Zy (olo := some 1) (ohi := some (1 + ndT tb a)) rfl rfl rfl (.some rfl rfl) (.some rfl rfl) F.arr116 (by show 1 + ndT tb a ≤ 24; omega) (by show 1 ≤ 1 + ndT tb a; omega) (show _ = Value.slice (some ⟨b8, 1, none⟩) (ndT tb a) 23 by simp [pieceV, Addr.add]) rfl ?_; refine Zc rfl rfl rfl rfl ?_; refine Zcd rfl rfl F.ok62 rfl (fmt_ok M b8 (ndT tb a) a (List.replicate 24 0) (by rfl) hk (by omega)) (by repeat first | exact Rem.here _ | exact Rem.two | apply Rem.skip | apply Rem.over) (fun _ _ _ hm hw => (hw.lower (by first | exact hm | exact Mem.le.trans (by assumption) hm | exact Mem.le.trans (by first | exact Mem.le.refl _ | assumption | (repeat first | assumption | refine Mem.le.trans (by assumption) ?_)) hm)).cnt (by intro zz; first | exact Nat.le_refl _ | (simp only [Zh, Zd, Zi, cat, List.append_eq, List.append_assoc, List.cons_append, List.nil_append, List.append_nil]; omega) | (simp only [Zh, Zd, Zi, cat, List.append_eq, List.append_assoc, List.cons_append, List.nil_append, List.append_nil, StepL06V.segs]; omega))) (Zbh rfl) ?_
              rintro _ M2 _ _ ⟨hM2, rfl, rfl⟩
              obtain rfl := hM2.symm
              refine Zf ?_; refine Zb ?_; refine Zk (.cons (k := 7) rfl (.cons (k := 5) rfl (.cons (k := 4) rfl (.cons (k := 0) rfl (.cons (k := 1) rfl .nil))))) ?_; refine Zj ?_; refine Zj ?_; refine Za (l := [0, 1]) rfl ?_; refine Zc rfl rfl rfl rfl ?_; refine Zao rfl rfl rfl rfl rfl rfl ?_; refine Zf ?_; refine Zb ?_; refine Zk (.cons (k := 34) rfl (.cons (k := 7) rfl (.cons (k := 5) rfl (.cons (k := 4) rfl (.cons (k := 0) rfl (.cons (k := 1) rfl .nil)))))) ?_
              refine Zx rfl (fun hc11 => ?_) (fun hc11 => ?_)
              · first | replace hc11 := dT hc11 | replace hc11 := dF hc11 | replace hc11 := nT hc11 | replace hc11 := nF hc11 | skip
                first
                | (exfalso; omega)
                | (exfalso; simp [eqX] at hc11; done)
                | contradiction
                | skip
                  refine Zj ?_; refine Za (l := [0, 1]) rfl ?_; refine X_indexAddr_arr (k := 0) rfl rfl rfl rfl F.arr116 rfl (by decide) rfl ?_; refine Zbu (v := 45) rfl rfl rfl rfl F.lay5 (by repeat first | exact Upd.head | apply Upd.tail | apply Upd.over) (by rw [hfl]; decide) ?_; refine Zf ?_; refine Zb ?_; refine Zk (.cons (k := 7) rfl (.cons (k := 5) rfl (.cons (k := 4) rfl (.cons (k := 0) rfl (.cons (k := 1) rfl .nil))))) ?_; refine Zj ?_; refine Za (l := [0, 1, 2, 3, 4]) rfl ?_; refine Zc rfl rfl rfl rfl ?_; refine Zai (r := ((1 + ndT tb a : Nat) : Int)) rfl rfl rfl rfl rfl (by rw [Zt rfl (by omega)]; omega) rfl ?_; refine Zy (olo := none) (ohi := some (1 + ndT tb a)) rfl rfl rfl .none (.some rfl rfl) F.arr116 (by show 1 + ndT tb a ≤ 24; omega) (by show 0 ≤ 1 + ndT tb a; omega) (show _ = Value.slice (some ⟨b8, 0, none⟩) (1 + ndT tb a) 24 by simp [pieceV, Addr.add]) rfl ?_
                  refine Zbr (l := ((fmt10 (List.replicate 24 0) (ndT tb a) a).drop 0).take (1 + ndT tb a)) (s := strOfNums ((((fmt10 (List.replicate 24 0) (ndT tb a) a).drop 0).take (1 + ndT tb a)).map fun n : Nat => (n : Int))) rfl rfl rfl (srcB (by repeat first | exact List.Mem.head _ | refine List.Mem.tail _ ?_ | refine List.mem_append_right _ ?_) (by first | (rw [List.length_set, hfl]; omega) | (rw [hfl]; omega))) F.elem120 Tryd.underlying5 Tryd.underlying9 rfl rfl ?_; refine Ze rfl rfl rfl rfl ?_; refine Zf ?_; refine Zb ?_; refine Zk (.cons (k := 4) rfl (.cons (k := 7) rfl (.cons (k := 5) rfl (.cons (k := 0) rfl (.cons (k := 1) rfl .nil))))) ?_; refine Zag ?_; refine Zam ?_; refine Zam ?_
                  refine Zab (.inr rfl) (.tmp rfl .nil) (fun w hw => ?_)
                  refine ⟨_, rfl, hw.cnt (by intro zz; first | exact Nat.le_refl _ | (simp only [Zh, Zd, Zi, cat, List.append_eq, List.append_assoc, List.cons_append, List.nil_append, List.append_nil]; omega) | (simp only [Zh, Zd, Zi, cat, List.append_eq, List.append_assoc, List.cons_append, List.nil_append, List.append_nil, StepL06V.segs]; omega)), ?_⟩
                  clear hw
                  rw [tell_pos tb h1]
                  rfl
              · first | replace hc11 := dT hc11 | replace hc11 := dF hc11 | replace hc11 := nT hc11 | replace hc11 := nF hc11 | skip
                first
                | (exfalso; omega)
                | (exfalso; simp [eqX] at hc11; done)
                | contradiction
                | skip
                  refine Zu ?_; refine Zb ?_; refine Zk (.cons (k := 7) rfl (.cons (k := 5) rfl (.cons (k := 4) rfl (.cons (k := 0) rfl (.cons (k := 1) rfl .nil))))) ?_; refine Zj ?_; refine Za (l := [0, 1, 2, 3, 4]) rfl ?_; refine Zc rfl rfl rfl rfl ?_; refine Zai (r := ((1 + ndT tb a : Nat) : Int)) rfl rfl rfl rfl rfl (by rw [Zt rfl (by omega)]; omega) rfl ?_; refine Zy (olo := some 1) (ohi := some (1 + ndT tb a)) rfl rfl rfl (.some rfl rfl) (.some rfl rfl) F.arr116 (by show 1 + ndT tb a ≤ 24; omega) (by show 1 ≤ 1 + ndT tb a; omega) (show _ = Value.slice (some ⟨b8, 1, none⟩) (ndT tb a) 23 by simp [pieceV, Addr.add]) rfl ?_; refine Zbr (l := ((fmt10 (List.replicate 24 0) (ndT tb a) a).drop 1).take (ndT tb a)) (s := strOfNums ((((fmt10 (List.replicate 24 0) (ndT tb a) a).drop 1).take (ndT tb a)).map fun n : Nat => (n : Int))) rfl rfl rfl (srcB (by repeat first | exact List.Mem.head _ | refine List.Mem.tail _ ?_ | refine List.mem_append_right _ ?_) (by first | (rw [List.length_set, hfl]; omega) | (rw [hfl]; omega))) F.elem120 Tryd.underlying5 Tryd.underlying9 rfl rfl ?_
                  refine Ze rfl rfl rfl rfl ?_; refine Zf ?_; refine Zb ?_; refine Zk (.cons (k := 4) rfl (.cons (k := 0) rfl (.cons (k := 1) rfl .nil))) ?_; refine Zag ?_; refine Zam ?_
                  refine Zab (.inr rfl) (.tmp rfl .nil) (fun w hw => ?_)
                  refine ⟨_, rfl, hw.cnt (by intro zz; first | exact Nat.le_refl _ | (simp only [Zh, Zd, Zi, cat, List.append_eq, List.append_assoc, List.cons_append, List.nil_append, List.append_nil]; omega) | (simp only [Zh, Zd, Zi, cat, List.append_eq, List.append_assoc, List.cons_append, List.nil_append, List.append_nil, StepL06V.segs]; omega)), ?_⟩
                  clear hw
                  rw [tell_pos tb h1]
                  rfl
  · first | replace hc1 := dT hc1 | replace hc1 := dF hc1 | replace hc1 := nT hc1 | replace hc1 := nF hc1 | skip
    first
    | (exfalso; omega)
    | (exfalso; simp [eqX] at hc1; done)
    | contradiction
    | skip
      refine Zu ?_; refine Zb ?_; refine Zk (.cons (k := 4) rfl (.cons (k := 0) rfl (.cons (k := 1) rfl .nil))) ?_; refine Zj ?_; refine Za (l := [0, 1, 2, 3, 4, 5, 6, 7, 8, 9, 10]) rfl ?_; refine Zc rfl rfl rfl rfl ?_; refine Zcb rfl rfl rfl Tryd.underlying2 Tryd.underlying117 (by first | exact Zt (by decide) (by omega) | exact Zz (by decide) (by omega) | exact Zae (by decide) (by omega) | exact Zm (by decide) (by omega) | exact Zah _ | exact Zay _ | exact Zak _ | exact rfl) rfl ?_; refine Zc rfl rfl rfl rfl ?_; refine Zc rfl rfl rfl rfl ?_; refine Zao rfl rfl rfl rfl rfl rfl ?_
      fail
      refine Zc rfl rfl rfl rfl ?_; refine Zw rfl rfl rfl rfl rfl ?_; refine Zw rfl rfl rfl rfl rfl ?_; refine Ze rfl rfl rfl rfl ?_; refine Ze rfl rfl rfl rfl ?_; refine Zf ?_; refine Zb ?_; refine Zk (.cons (k := 9) rfl (.cons (k := 4) rfl .nil)) ?_; refine Zj ?_; refine Za (l := [0, 1]) rfl ?_; refine Zc rfl rfl rfl rfl ?_; refine Ze rfl rfl rfl rfl ?_; refine Zf ?_; refine Zb ?_; refine Zk (.cons (k := 4) rfl .nil) ?_; refine Zag ?_
      refine Zab (.inr rfl) (.tmp rfl .nil) (fun w hw => ?_)
      refine ⟨_, rfl, hw.cnt (by intro zz; first | exact Nat.le_refl _ | (simp only [Zh, Zd, Zi, cat, List.append_eq, List.append_assoc, List.cons_append, List.nil_append, List.append_nil]; omega) | (simp only [Zh, Zd, Zi, cat, List.append_eq, List.append_assoc, List.cons_append, List.nil_append, List.append_nil, StepL06V.segs]; omega)), ?_⟩
      clear hw
      rw [tell_pos tb h1]
      rfl
theorem FI_small (M : Mem) (tb : List Nat) (a : Nat) (h : a < 100) : Fs Tryd.prog 59 [.int .i64 (a : Int), .int .i64 10] M (fun v => v = .string (tellT tb (a : Int))) := by
  refine Zbb Tryd.func59 rfl Tryd.ntmps59 rfl ?_; intro H
  refine Zj ?_; refine Za (l := [0]) rfl ?_; refine Ze rfl rfl rfl rfl ?_; refine Zf ?_; refine Zb ?_; refine Zj ?_; refine Zj ?_; refine Za (l := [0, 1]) rfl ?_; refine Zc rfl rfl rfl rfl ?_; refine Zao rfl rfl rfl rfl rfl rfl ?_; refine Zf ?_; refine Zb ?_; refine Zk (.cons (k := 11) rfl (.cons (k := 4) rfl (.cons (k := 0) rfl (.cons (k := 1) rfl .nil)))) ?_
  refine Zx rfl (fun hc1 => ?_) (fun hc1 => ?_)
  · first | replace hc1 := dT hc1 | replace hc1 := dF hc1 | replace hc1 := nT hc1 | replace hc1 := nF hc1 | skip
    first
    | (exfalso; omega)
    | (exfalso; simp [eqX] at hc1; done)
    | contradiction
    | skip
      refine Zj ?_; refine Zj ?_; refine Za (l := [0, 1, 2, 3, 4, 5]) rfl ?_; refine Zc rfl rfl rfl rfl ?_; refine Zao rfl rfl rfl rfl rfl rfl ?_; refine Zc rfl rfl rfl rfl ?_
      refine Zbz 14 rfl (fun hc2 => ?_) (fun hc2 => ?_)
      · first | replace hc2 := dT hc2 | replace hc2 := dF hc2 | replace hc2 := nT hc2 | replace hc2 := nF hc2 | skip
        first
        | (exfalso; omega)
        | (exfalso; simp [eqX] at hc2; done)
        | contradiction
        | skip
          refine Zc rfl rfl rfl rfl ?_; refine Zao rfl rfl rfl rfl rfl rfl ?_; refine Zau rfl rfl rfl rfl rfl ?_; refine Zf ?_; refine Zb ?_; refine Zk (.cons (k := 17) rfl (.cons (k := 4) rfl (.cons (k := 0) rfl (.cons (k := 1) rfl .nil)))) ?_
          refine Zx rfl (fun hc3 => ?_) (fun hc3 => ?_)
          · first | replace hc3 := dT hc3 | replace hc3 := dF hc3 | replace hc3 := nT hc3 | replace hc3 := nF hc3 | skip
            first
            | (exfalso; omega)
            | (exfalso; simp [eqX] at hc3; done)
            | contradiction
            | skip
              refine Zj ?_; refine Za (l := [0, 1, 2]) rfl ?_; refine Zc rfl rfl rfl rfl ?_; refine X_fs rfl rfl F.ok60 rfl (Small_at M a h) rfl ?_
              rintro _ rfl
              refine Ze rfl rfl rfl rfl ?_; refine Zf ?_; refine Zb ?_; refine Zk (.cons (k := 4) rfl (.cons (k := 0) rfl (.cons (k := 1) rfl .nil))) ?_; refine Zag ?_; refine Zam ?_; refine Zam ?_
              refine Zab (.inr rfl) (.tmp rfl .nil) (fun w hw => ?_)
              refine ⟨_, rfl, hw.cnt (by intro zz; first | exact Nat.le_refl _ | (simp only [Zh, Zd, Zi, cat, List.append_eq, List.append_assoc, List.cons_append, List.nil_append, List.append_nil]; omega) | (simp only [Zh, Zd, Zi, cat, List.append_eq, List.append_assoc, List.cons_append, List.nil_append, List.append_nil, StepL06V.segs]; omega)), ?_⟩
              rw [tell_small tb ⟨by omega, by omega⟩]
              rfl
          · first | replace hc3 := dT hc3 | replace hc3 := dF hc3 | replace hc3 := nT hc3 | replace hc3 := nF hc3 | skip
            first | (exfalso; omega) | (exfalso; simp [eqX] at hc3; done) | contradiction
      · first | replace hc2 := dT hc2 | replace hc2 := dF hc2 | replace hc2 := nT hc2 | replace hc2 := nF hc2 | skip
        first | (exfalso; omega) | (exfalso; simp [eqX] at hc2; done) | contradiction
  · first | replace hc1 := dT hc1 | replace hc1 := dF hc1 | replace hc1 := nT hc1 | replace hc1 := nF hc1 | skip
    first | (exfalso; omega) | (exfalso; simp [eqX] at hc1; done) | contradiction
theorem FI_ok (M : Mem) (tb : List Nat) (ht : TabU M tb 125) (c : Int) (hc : -9223372036854775808 ≤ c ∧ c ≤ 9223372036854775807) : Fs Tryd.prog 59 [.int .i64 c, .int .i64 10] M (fun v => v = .string (tellT tb c)) := by
  rcases Int.lt_or_le c 0 with h1 | h1
  · obtain ⟨a, rfl⟩ : ∃ a : Nat, c = -(a : Int) := ⟨c.natAbs, by omega⟩
    exact FI_neg M tb ht a (by omega) (by omega)
  · obtain ⟨a, rfl⟩ : ∃ a : Nat, c = (a : Int) := ⟨c.toNat, by omega⟩
    rcases Nat.lt_or_ge a 100 with h2 | h2
    · exact FI_small M tb a h2
    · exact FI_pos M tb ht a h2 (by omega)
theorem iItoa_ok (M : Mem) (tb : List Nat) (ht : TabU M tb 125) (c : Int) (hc : -9223372036854775808 ≤ c ∧ c ≤ 9223372036854775807) : Fs Tryd.prog 58 [.int .i64 c] M (fun v => v = .string (tellT tb c)) := by
  refine Zbb Tryd.func58 rfl Tryd.ntmps58 rfl ?_; intro H
  refine Zj ?_; refine Za (l := [0]) rfl ?_; refine Ze rfl rfl rfl rfl ?_; refine Zf ?_; refine Zb ?_; refine Zj ?_; refine Za (l := [0, 1, 2]) rfl ?_; refine Zc rfl rfl rfl rfl ?_; refine X_fs rfl rfl F.ok59 rfl (FI_ok M tb ht c hc) rfl ?_
  rintro _ rfl
  refine Ze rfl rfl rfl rfl ?_; refine Zf ?_; refine Zb ?_; refine Zk (.cons (k := 2) rfl .nil) ?_; refine Zag ?_
  refine Zab (.inr rfl) (.tmp rfl .nil) (fun w hw => ?_)
  exact ⟨_, rfl, hw.cnt (by intro zz; first | exact Nat.le_refl _ | (simp only [Zh, Zd, Zi, cat, List.append_eq, List.append_assoc, List.cons_append, List.nil_append, List.append_nil]; omega) | (simp only [Zh, Zd, Zi, cat, List.append_eq, List.append_assoc, List.cons_append, List.nil_append, List.append_nil, StepL06V.segs]; omega)), rfl⟩
theorem sItoa_ok (M : Mem) (tb : List Nat) (ht : TabU M tb 125) (c : Int) (hc : -9223372036854775808 ≤ c ∧ c ≤ 9223372036854775807) : Fs Tryd.prog 57 [.int .i64 c] M (fun v => v = .string (tellT tb c)) := by
  refine Zbb Tryd.func57 rfl Tryd.ntmps57 rfl ?_; intro H
  refine Zj ?_; refine Za (l := [0]) rfl ?_; refine Ze rfl rfl rfl rfl ?_; refine Zf ?_; refine Zb ?_; refine Zj ?_; refine Za (l := [0, 1, 2]) rfl ?_; refine Zc rfl rfl rfl rfl ?_; refine X_fs rfl rfl F.ok58 rfl (iItoa_ok M tb ht c hc) rfl ?_
  rintro _ rfl
  refine Ze rfl rfl rfl rfl ?_; refine Zf ?_; refine Zb ?_; refine Zk (.cons (k := 2) rfl .nil) ?_; refine Zag ?_
  refine Zab (.inr rfl) (.tmp rfl .nil) (fun w hw => ?_)
  exact ⟨_, rfl, hw.cnt (by intro zz; first | exact Nat.le_refl _ | (simp only [Zh, Zd, Zi, cat, List.append_eq, List.append_assoc, List.cons_append, List.nil_append, List.append_nil]; omega) | (simp only [Zh, Zd, Zi, cat, List.append_eq, List.append_assoc, List.cons_append, List.nil_append, List.append_nil, StepL06V.segs]; omega)), rfl⟩
theorem tell_at (M : Mem) (tb : List Nat) (ht : TabU M tb 125) (c : Int) (hc : okC c) : ItoaAt (tellT tb) M c := sItoa_ok M tb ht c hc.2
end Go.Proofs.YtbeahcfghjiogaaDoor
namespace Go.Proofs.YtbeahcfghjiogaaDoor
open Go.Esp
theorem codes_wrap (op : ByteArray) (o : Option Err) : codesO (wrapO op o) = codesO o := by
  cases o with
  | none => rfl
  | some e => simp [wrapO, codesO, Err.codes]
theorem none_wrap (op : ByteArray) (o : Option Err) : (wrapO op o).isNone = o.isNone := by cases o <;> rfl
theorem code_wrap (op : ByteArray) (o : Option Err) : codeO (wrapO op o) = codeO o := by unfold codeO; rw [codes_wrap]
theorem has_wrap (op : ByteArray) (o : Option Err) (c : Int) : hasO (wrapO op o) c = hasO o c := by
  unfold hasO
  rw [none_wrap]
  simp only [codes_wrap]
theorem again_wrap (op : ByteArray) (o : Option Err) : againO (wrapO op o) = againO o := by unfold againO; rw [has_wrap, has_wrap, has_wrap]
theorem wt_wrap9 {op : ByteArray} {o : Option Err} (h : op.size ≤ 500) (hz : wtO o ≤ 5000) : wtO (wrapO op o) ≤ 10000 := by
  have := wt_wrap op o
  omega
theorem Rem.nil (H : Hp) : Rem [] H H := Rem.here H
theorem lawWraps_ok (M : Mem) (s : Sl StepL06V) (op : ByteArray) (c : Int) (hs : Scr M s) (hW : Wo M) (tb : List Nat) (htb : TabU M tb 125) : Esp.Fn Tryd.prog 4 [s.val, .string op, .int .i64 c] M (fun _ v => v = .bool true) := by
  refine fn_enter Tryd.func4 rfl Tryd.ntmps4 rfl ?_; intro H
  refine Zj ?_; refine Za (l := [0]) rfl ?_; refine Ze rfl rfl rfl rfl ?_; refine Zf ?_; refine Zb ?_; refine Zj ?_; refine Zj ?_; refine Za (l := [0, 1, 2, 3, 4, 5, 6, 7]) rfl ?_; refine Zc rfl rfl rfl rfl ?_; refine X_fs rfl rfl F.ok7 rfl (few_ok M s hs) rfl ?_
  rintro _ rfl
  refine X_not rfl rfl rfl rfl ?_; refine Zc rfl rfl rfl rfl ?_
  refine Zbz 15 rfl (fun hc1 => ?_) (fun hc1 => ?_)
  · first | replace hc1 := dT hc1 | replace hc1 := dF hc1 | replace hc1 := nT hc1 | replace hc1 := nF hc1 | skip
    first
    | (exfalso; omega)
    | (exfalso; simp [eqX] at hc1; done)
    | contradiction
    | skip
      refine Zba rfl rfl rfl ?_; refine Zba rfl rfl rfl ?_; refine Zba rfl rfl rfl ?_; refine Zau rfl rfl rfl rfl rfl ?_; refine Zf ?_; refine Zb ?_; refine Zk (.cons (k := 19) rfl (.cons (k := 6) rfl (.cons (k := 0) rfl (.cons (k := 1) rfl (.cons (k := 2) rfl .nil))))) ?_; refine Zcc rfl ?_; refine Zj ?_; refine Za (l := [0]) rfl ?_; refine Ze rfl rfl rfl rfl ?_; refine Zf ?_; refine Zb ?_; refine Zk (.cons (k := 6) rfl (.cons (k := 0) rfl (.cons (k := 1) rfl (.cons (k := 2) rfl .nil)))) ?_; refine Zag ?_; refine Zam ?_
      refine Zab (.inr rfl) (.tmp rfl .nil) (fun w hw => ?_)
      first | exact ⟨_, M, rfl, Mem.le.refl M, hw.cnt (by intro zz; first | exact Nat.le_refl _ | (simp only [Zh, Zd, Zi, cat, List.append_eq, List.append_assoc, List.cons_append, List.nil_append, List.append_nil]; omega) | (simp only [Zh, Zd, Zi, cat, List.append_eq, List.append_assoc, List.cons_append, List.nil_append, List.append_nil, StepL06V.segs]; omega)), rfl⟩ | exact ⟨_, _, rfl, hm1.trans (hle.trans hm3), hw.cnt (by intro zz; first | exact Nat.le_refl _ | (simp only [Zh, Zd, Zi, cat, List.append_eq, List.append_assoc, List.cons_append, List.nil_append, List.append_nil]; omega) | (simp only [Zh, Zd, Zi, cat, List.append_eq, List.append_assoc, List.cons_append, List.nil_append, List.append_nil, StepL06V.segs]; omega)), rfl⟩
  · first | replace hc1 := dT hc1 | replace hc1 := dF hc1 | replace hc1 := nT hc1 | replace hc1 := nF hc1 | skip
    first
    | (exfalso; omega)
    | (exfalso; simp [eqX] at hc1; done)
    | contradiction
    | skip
      refine Zc rfl rfl rfl rfl ?_; refine X_len_str rfl rfl rfl rfl Tryd.underlying9 rfl ?_; refine Zao rfl rfl rfl rfl rfl rfl ?_; refine Zau rfl rfl rfl rfl rfl ?_; refine Zf ?_; refine Zb ?_; refine Zk (.cons (k := 19) rfl (.cons (k := 6) rfl (.cons (k := 0) rfl (.cons (k := 1) rfl (.cons (k := 2) rfl .nil))))) ?_
      refine Zx rfl (fun hc2 => ?_) (fun hc2 => ?_)
      · first | replace hc2 := dT hc2 | replace hc2 := dF hc2 | replace hc2 := nT hc2 | replace hc2 := nF hc2 | skip
        first
        | (exfalso; omega)
        | (exfalso; simp [eqX] at hc2; done)
        | contradiction
        | skip
          refine Zj ?_; refine Za (l := [0]) rfl ?_; refine Ze rfl rfl rfl rfl ?_; refine Zf ?_; refine Zb ?_; refine Zk (.cons (k := 6) rfl (.cons (k := 0) rfl (.cons (k := 1) rfl (.cons (k := 2) rfl .nil)))) ?_; refine Zag ?_; refine Zam ?_
          refine Zab (.inr rfl) (.tmp rfl .nil) (fun w hw => ?_)
          first | exact ⟨_, M, rfl, Mem.le.refl M, hw.cnt (by intro zz; first | exact Nat.le_refl _ | (simp only [Zh, Zd, Zi, cat, List.append_eq, List.append_assoc, List.cons_append, List.nil_append, List.append_nil]; omega) | (simp only [Zh, Zd, Zi, cat, List.append_eq, List.append_assoc, List.cons_append, List.nil_append, List.append_nil, StepL06V.segs]; omega)), rfl⟩ | exact ⟨_, _, rfl, hm1.trans (hle.trans hm3), hw.cnt (by intro zz; first | exact Nat.le_refl _ | (simp only [Zh, Zd, Zi, cat, List.append_eq, List.append_assoc, List.cons_append, List.nil_append, List.append_nil]; omega) | (simp only [Zh, Zd, Zi, cat, List.append_eq, List.append_assoc, List.cons_append, List.nil_append, List.append_nil, StepL06V.segs]; omega)), rfl⟩
      · first | replace hc2 := dT hc2 | replace hc2 := dF hc2 | replace hc2 := nT hc2 | replace hc2 := nF hc2 | skip
        first
        | (exfalso; omega)
        | (exfalso; simp [eqX] at hc2; done)
        | contradiction
        | skip
          refine Zu ?_; refine Zb ?_; refine Zk (.cons (k := 6) rfl (.cons (k := 0) rfl (.cons (k := 1) rfl (.cons (k := 2) rfl .nil)))) ?_; refine Zj ?_; refine Za (l := [0, 1, 2, 3, 4, 5, 6]) rfl ?_; refine Zc rfl rfl rfl rfl ?_; refine X_fn rfl rfl F.ok8 rfl (built_ok M s hs (by assumption)) rfl ?_
          rintro _ M1 hm1 ⟨es, ⟨xa, xc, xl⟩, ⟨ya, yc, yl⟩, rfl, hB⟩
          have s_x : SlM M1 xa (xl.map (fun u => ([.one u] : Segs))) 1 := hB.ks.h1
          have n_x : (xl.map (fun u => ([.one u] : Segs))).length = xl.length := List.length_map ..
          have m_x : xl.length ≤ 9223372036854775807 := hB.ks.h2
          have hlx : xl.length = es.length := hB.os.len
          have hl60 := hB.len
          have hW1 := hW.mono hm1
          refine Zc rfl rfl rfl rfl ?_; refine Zw rfl rfl rfl rfl rfl ?_; refine Zw rfl rfl rfl rfl rfl ?_; refine Ze rfl rfl rfl rfl ?_; refine Ze rfl rfl rfl rfl ?_; refine Zf ?_; refine Zb ?_; refine Zk (.cons (k := 7) rfl (.cons (k := 6) rfl (.cons (k := 1) rfl (.cons (k := 2) rfl .nil)))) ?_; refine Zj ?_; refine Zj ?_; refine Za (l := [0]) rfl ?_; refine Ze rfl rfl rfl rfl ?_; refine Zf ?_; refine Zb ?_; refine Zaa ?_; refine Zk (.cons (k := 9) rfl (.cons (k := 7) rfl (.cons (k := 6) rfl (.cons (k := 1) rfl (.cons (k := 2) rfl .nil))))) ?_; refine C_loopO (Hin := []) (.succ .zero) (by repeat first | exact Rem.here _ | exact Rem.two | apply Rem.skip | apply Rem.over) (fun (k : Nat) M2 h1 z => M1.le M2 ∧ h1 = [] ∧ z = [(9, .int .i64 (k : Int))] ∧ k ≤ xl.length) (fun k => xl.length - k) (0) (⟨Mem.le.refl _, rfl, rfl, by omega⟩) ?_
          rintro k M2 h1 z hm0 ⟨hle, rfl, rfl, hk⟩
          have s_2 : SlM M2 xa (xl.map (fun u => ([.one u] : Segs))) 1 := s_x.mono hle
          have hW2 := hW1.mono hle
          have htb2 := (htb.mono hm1).mono hle
          have hos := hB.os.mono hle
          refine Zj ?_; refine Zj ?_; refine Za (l := [0, 1, 2, 3]) rfl ?_; refine Zc rfl rfl rfl rfl ?_; refine Zc rfl rfl rfl rfl ?_; refine Zas rfl rfl rfl rfl F.elem25 rfl ?_; refine Zao rfl rfl rfl rfl rfl rfl ?_; refine Zf ?_; refine Zb ?_
          refine Zx rfl (fun hc3 => ?_) (fun hc3 => ?_)
          · first | replace hc3 := dT hc3 | replace hc3 := dF hc3 | replace hc3 := nT hc3 | replace hc3 := nF hc3 | skip
            first
            | (exfalso; omega)
            | (exfalso; simp [eqX] at hc3; done)
            | contradiction
            | skip
              refine Zu ?_; refine Zb ?_; refine Zj ?_; refine Zaa ?_; refine Zj ?_
              have hke : k < es.length := by omega
              have hkx : k < xl.length := by omega
              have hvk := hos.at_ k hke hkx
              have hwk : wtO es[k] ≤ 5000 := Nat.le_trans (wtS_at hke) hB.wt
              have hok : okO es[k] := hB.ok _ (List.getElem_mem hke)
              refine Za (l := [0, 1, 2, 3, 4, 5, 6]) rfl ?_; refine Zc rfl rfl rfl rfl ?_; refine Zc rfl rfl rfl rfl ?_; refine Zc rfl rfl rfl rfl ?_; refine Zn rfl rfl rfl rfl F.elem25 (by first | rfl | exact (Int.toNat_of_nonneg (by omega)).symm) (by first | omega | (simp; done) | (simp; omega)) (by first | exact ⟨_, _, rfl⟩ | assumption | exact SlM.plain (by assumption) (by first | (simp; done) | (simp; omega)) | exact RdS.plain (by assumption) (by first | (simp; done) | (simp; omega)) | exact OSl.plain (by assumption) (by first | (simp; done) | (simp; omega))) rfl ?_
              first | refine Zan rfl rfl rfl (by repeat first | exact List.Mem.head _ | refine List.Mem.tail _ ?_ | refine List.mem_append_right _ ?_) F.lay30 rfl rfl rfl ?_ | refine Zs rfl rfl rfl (by first | assumption | exact SlM.mono (by assumption) (by assumption)) (by first | exact Zg (by omega) | exact List.getElem?_eq_getElem (by omega) | exact rfl | exact Zg (by first | (simp; done) | (simp; omega))) F.lay30 rfl rfl rfl ?_ | refine Zr rfl rfl rfl (by assumption) (by first | exact Zg (by omega) | exact List.getElem?_eq_getElem (by omega) | exact rfl | exact Zg (by first | (simp; done) | (simp; omega))) F.lay30 rfl rfl rfl ?_ | refine Zp rfl rfl rfl (by first | assumption | exact Mem.get_of (by assumption) (by repeat first | assumption | refine Mem.le.trans (by assumption) ?_)) F.lay30 rfl rfl rfl ?_ | refine Zo rfl rfl rfl (by assumption) (by repeat first | exact Rem.here _ | exact Rem.two | apply Rem.skip | apply Rem.over) (by first | exact Zg (by omega) | exact List.getElem?_eq_getElem (by omega) | exact rfl | exact Zg (by first | (simp; done) | (simp; omega))) F.lay30 rfl rfl rfl ?_ | refine Zq rfl rfl rfl (by repeat first | exact List.Mem.head _ | refine List.Mem.tail _ ?_ | refine List.mem_append_right _ ?_) F.lay30 (by first | exact Zbj (by first | omega | decide) | exact Zax (by first | omega | decide)) rfl ?_
              refine X_fn rfl rfl F.ok21 rfl (bWrap_o M2 op es[k] _ hvk) rfl ?_
              rintro v9 M3 hm3 hv9
              have hvk3 := hvk.mono hm3
              have hW3 := hW2.mono hm3
              refine Ze rfl rfl rfl rfl ?_; refine Zf ?_; refine Zb ?_; refine Zj ?_; refine Zj ?_; refine Zav (l := [0, 1, 2, 3, 4, 5, 6, 7, 8, 9, 10, 11, 12, 13, 14, 15, 16, 17, 18, 19, 20, 21, 22, 23, 24, 25, 26, 27, 28, 29, 30, 31, 32, 33, 34, 35, 36, 37, 38, 39]) #[0, 1, 0, 0, 12, 28, 60, 127, 255, 511, 1023, 511, 511, 6655, 14847, 32767, 65535, 131071, 262143, 524287, 524287, 2097151, 524287, 524287, 13107199, 29884415, 524287, 134217727, 268435455, 536870911, 1073741823, 2147483647, 4294967295, 2147483647, 2147483647, 27917287423, 62277025791, 137438953471, 274877906943, 549755813887] _ rfl (by kernel_rfl) (by kernel_rfl) St.drawn (fun _ h => h) ?_; refine Zc rfl rfl rfl rfl ?_; refine Zby rfl rfl rfl rfl Tryd.underlying30 (nil_oe hv9) rfl ?_; refine Zc rfl rfl rfl rfl ?_; refine Zc rfl rfl rfl rfl ?_; refine Zn rfl rfl rfl rfl F.elem25 (by first | rfl | exact (Int.toNat_of_nonneg (by omega)).symm) (by first | omega | (simp; done) | (simp; omega)) (by first | exact ⟨_, _, rfl⟩ | assumption | exact SlM.plain (by assumption) (by first | (simp; done) | (simp; omega)) | exact RdS.plain (by assumption) (by first | (simp; done) | (simp; omega)) | exact OSl.plain (by assumption) (by first | (simp; done) | (simp; omega))) rfl ?_
              first | refine Zan rfl rfl rfl (by repeat first | exact List.Mem.head _ | refine List.Mem.tail _ ?_ | refine List.mem_append_right _ ?_) F.lay30 rfl rfl rfl ?_ | refine Zs rfl rfl rfl (by first | assumption | exact SlM.mono (by assumption) (by assumption)) (by first | exact Zg (by omega) | exact List.getElem?_eq_getElem (by omega) | exact rfl | exact Zg (by first | (simp; done) | (simp; omega))) F.lay30 rfl rfl rfl ?_ | refine Zr rfl rfl rfl (by assumption) (by first | exact Zg (by omega) | exact List.getElem?_eq_getElem (by omega) | exact rfl | exact Zg (by first | (simp; done) | (simp; omega))) F.lay30 rfl rfl rfl ?_ | refine Zp rfl rfl rfl (by first | assumption | exact Mem.get_of (by assumption) (by repeat first | assumption | refine Mem.le.trans (by assumption) ?_)) F.lay30 rfl rfl rfl ?_ | refine Zo rfl rfl rfl (by assumption) (by repeat first | exact Rem.here _ | exact Rem.two | apply Rem.skip | apply Rem.over) (by first | exact Zg (by omega) | exact List.getElem?_eq_getElem (by omega) | exact rfl | exact Zg (by first | (simp; done) | (simp; omega))) F.lay30 rfl rfl rfl ?_ | refine Zq rfl rfl rfl (by repeat first | exact List.Mem.head _ | refine List.Mem.tail _ ?_ | refine List.mem_append_right _ ?_) F.lay30 (by first | exact Zbj (by first | omega | decide) | exact Zax (by first | omega | decide)) rfl ?_
              refine Zby rfl rfl rfl rfl Tryd.underlying30 (nil_oe hvk3) rfl ?_; refine X_eqb rfl rfl rfl rfl rfl Tryd.underlying4 rfl ?_; refine Zbf 44 rfl (show _ = Value.bool false from congrArg Value.bool (by rw [none_wrap]; simp [eqX])) ?_; refine Zc rfl rfl rfl rfl ?_; refine Zc rfl rfl rfl rfl ?_; refine X_fs rfl rfl F.ok9 rfl (bCode_o M3 hW3.e _ _ hv9) rfl ?_
              rintro _ rfl
              refine Zc rfl rfl rfl rfl ?_; refine Zc rfl rfl rfl rfl ?_; refine Zn rfl rfl rfl rfl F.elem25 (by first | rfl | exact (Int.toNat_of_nonneg (by omega)).symm) (by first | omega | (simp; done) | (simp; omega)) (by first | exact ⟨_, _, rfl⟩ | assumption | exact SlM.plain (by assumption) (by first | (simp; done) | (simp; omega)) | exact RdS.plain (by assumption) (by first | (simp; done) | (simp; omega)) | exact OSl.plain (by assumption) (by first | (simp; done) | (simp; omega))) rfl ?_
              first | refine Zan rfl rfl rfl (by repeat first | exact List.Mem.head _ | refine List.Mem.tail _ ?_ | refine List.mem_append_right _ ?_) F.lay30 rfl rfl rfl ?_ | refine Zs rfl rfl rfl (by first | assumption | exact SlM.mono (by assumption) (by assumption)) (by first | exact Zg (by omega) | exact List.getElem?_eq_getElem (by omega) | exact rfl | exact Zg (by first | (simp; done) | (simp; omega))) F.lay30 rfl rfl rfl ?_ | refine Zr rfl rfl rfl (by assumption) (by first | exact Zg (by omega) | exact List.getElem?_eq_getElem (by omega) | exact rfl | exact Zg (by first | (simp; done) | (simp; omega))) F.lay30 rfl rfl rfl ?_ | refine Zp rfl rfl rfl (by first | assumption | exact Mem.get_of (by assumption) (by repeat first | assumption | refine Mem.le.trans (by assumption) ?_)) F.lay30 rfl rfl rfl ?_ | refine Zo rfl rfl rfl (by assumption) (by repeat first | exact Rem.here _ | exact Rem.two | apply Rem.skip | apply Rem.over) (by first | exact Zg (by omega) | exact List.getElem?_eq_getElem (by omega) | exact rfl | exact Zg (by first | (simp; done) | (simp; omega))) F.lay30 rfl rfl rfl ?_ | refine Zq rfl rfl rfl (by repeat first | exact List.Mem.head _ | refine List.Mem.tail _ ?_ | refine List.mem_append_right _ ?_) F.lay30 (by first | exact Zbj (by first | omega | decide) | exact Zax (by first | omega | decide)) rfl ?_
              refine X_fs rfl rfl F.ok9 rfl (bCode_o M3 hW3.e _ _ hvk3) rfl ?_
              rintro _ rfl
              refine Zao rfl rfl rfl rfl rfl rfl ?_; refine Zbf 53 rfl (show _ = Value.bool false from congrArg Value.bool (by rw [code_wrap]; simp)) ?_; refine Zau rfl rfl rfl rfl rfl ?_; refine Zc rfl rfl rfl rfl ?_; refine Zc rfl rfl rfl rfl ?_; refine Zc rfl rfl rfl rfl ?_; refine X_fs rfl rfl F.ok11 rfl (bHas_o M3 c _ _ hv9) rfl ?_
              rintro _ rfl
              refine Zc rfl rfl rfl rfl ?_; refine Zc rfl rfl rfl rfl ?_; refine Zn rfl rfl rfl rfl F.elem25 (by first | rfl | exact (Int.toNat_of_nonneg (by omega)).symm) (by first | omega | (simp; done) | (simp; omega)) (by first | exact ⟨_, _, rfl⟩ | assumption | exact SlM.plain (by assumption) (by first | (simp; done) | (simp; omega)) | exact RdS.plain (by assumption) (by first | (simp; done) | (simp; omega)) | exact OSl.plain (by assumption) (by first | (simp; done) | (simp; omega))) rfl ?_
              first | refine Zan rfl rfl rfl (by repeat first | exact List.Mem.head _ | refine List.Mem.tail _ ?_ | refine List.mem_append_right _ ?_) F.lay30 rfl rfl rfl ?_ | refine Zs rfl rfl rfl (by first | assumption | exact SlM.mono (by assumption) (by assumption)) (by first | exact Zg (by omega) | exact List.getElem?_eq_getElem (by omega) | exact rfl | exact Zg (by first | (simp; done) | (simp; omega))) F.lay30 rfl rfl rfl ?_ | refine Zr rfl rfl rfl (by assumption) (by first | exact Zg (by omega) | exact List.getElem?_eq_getElem (by omega) | exact rfl | exact Zg (by first | (simp; done) | (simp; omega))) F.lay30 rfl rfl rfl ?_ | refine Zp rfl rfl rfl (by first | assumption | exact Mem.get_of (by assumption) (by repeat first | assumption | refine Mem.le.trans (by assumption) ?_)) F.lay30 rfl rfl rfl ?_ | refine Zo rfl rfl rfl (by assumption) (by repeat first | exact Rem.here _ | exact Rem.two | apply Rem.skip | apply Rem.over) (by first | exact Zg (by omega) | exact List.getElem?_eq_getElem (by omega) | exact rfl | exact Zg (by first | (simp; done) | (simp; omega))) F.lay30 rfl rfl rfl ?_ | refine Zq rfl rfl rfl (by repeat first | exact List.Mem.head _ | refine List.Mem.tail _ ?_ | refine List.mem_append_right _ ?_) F.lay30 (by first | exact Zbj (by first | omega | decide) | exact Zax (by first | omega | decide)) rfl ?_
              refine Zc rfl rfl rfl rfl ?_; refine X_fs rfl rfl F.ok11 rfl (bHas_o M3 c _ _ hvk3) rfl ?_
              rintro _ rfl
              refine X_eqb rfl rfl rfl rfl rfl Tryd.underlying4 rfl ?_; refine Zbf 65 rfl (show _ = Value.bool false from congrArg Value.bool (by rw [has_wrap]; simp [eqX])) ?_; refine Zau rfl rfl rfl rfl rfl ?_; refine Zc rfl rfl rfl rfl ?_; refine Zc rfl rfl rfl rfl ?_; refine X_fs rfl rfl F.ok13 rfl (bAgain_o M3 _ _ hv9) rfl ?_
              rintro _ rfl
              refine Zc rfl rfl rfl rfl ?_; refine Zc rfl rfl rfl rfl ?_; refine Zn rfl rfl rfl rfl F.elem25 (by first | rfl | exact (Int.toNat_of_nonneg (by omega)).symm) (by first | omega | (simp; done) | (simp; omega)) (by first | exact ⟨_, _, rfl⟩ | assumption | exact SlM.plain (by assumption) (by first | (simp; done) | (simp; omega)) | exact RdS.plain (by assumption) (by first | (simp; done) | (simp; omega)) | exact OSl.plain (by assumption) (by first | (simp; done) | (simp; omega))) rfl ?_
              first | refine Zan rfl rfl rfl (by repeat first | exact List.Mem.head _ | refine List.Mem.tail _ ?_ | refine List.mem_append_right _ ?_) F.lay30 rfl rfl rfl ?_ | refine Zs rfl rfl rfl (by first | assumption | exact SlM.mono (by assumption) (by assumption)) (by first | exact Zg (by omega) | exact List.getElem?_eq_getElem (by omega) | exact rfl | exact Zg (by first | (simp; done) | (simp; omega))) F.lay30 rfl rfl rfl ?_ | refine Zr rfl rfl rfl (by assumption) (by first | exact Zg (by omega) | exact List.getElem?_eq_getElem (by omega) | exact rfl | exact Zg (by first | (simp; done) | (simp; omega))) F.lay30 rfl rfl rfl ?_ | refine Zp rfl rfl rfl (by first | assumption | exact Mem.get_of (by assumption) (by repeat first | assumption | refine Mem.le.trans (by assumption) ?_)) F.lay30 rfl rfl rfl ?_ | refine Zo rfl rfl rfl (by assumption) (by repeat first | exact Rem.here _ | exact Rem.two | apply Rem.skip | apply Rem.over) (by first | exact Zg (by omega) | exact List.getElem?_eq_getElem (by omega) | exact rfl | exact Zg (by first | (simp; done) | (simp; omega))) F.lay30 rfl rfl rfl ?_ | refine Zq rfl rfl rfl (by repeat first | exact List.Mem.head _ | refine List.Mem.tail _ ?_ | refine List.mem_append_right _ ?_) F.lay30 (by first | exact Zbj (by first | omega | decide) | exact Zax (by first | omega | decide)) rfl ?_
              refine X_fs rfl rfl F.ok13 rfl (bAgain_o M3 _ _ hvk3) rfl ?_
              rintro _ rfl
              refine X_eqb rfl rfl rfl rfl rfl Tryd.underlying4 rfl ?_; refine Zbf 75 rfl (show _ = Value.bool false from congrArg Value.bool (by rw [again_wrap]; simp [eqX])) ?_; refine Zau rfl rfl rfl rfl rfl ?_; refine Zf ?_; refine Zb ?_; refine Zbe rfl ?_; refine Zu ?_; refine Zb ?_; refine Zj ?_; refine Zj ?_; refine Za (l := [0, 1]) rfl ?_; refine Zc rfl rfl rfl rfl ?_; refine Zby rfl rfl rfl rfl Tryd.underlying30 (nil_oe hv9) rfl ?_; refine Zf ?_; refine Zb ?_
              refine Zx rfl (fun hc4 => ?_) (fun hc4 => ?_)
              · first | replace hc4 := dT hc4 | replace hc4 := dF hc4 | replace hc4 := nT hc4 | replace hc4 := nF hc4 | skip
                first
                | (exfalso; omega)
                | (exfalso; simp [eqX] at hc4; done)
                | contradiction
                | skip
                  refine Zbt ?_; refine Zbd ?_; refine Zca ?_; refine Zb ?_; refine Za (l := [0, 1, 2]) rfl ?_; refine Zc rfl rfl rfl rfl ?_; refine Zai rfl rfl rfl rfl rfl (by first | exact Zt (by decide) (by omega) | exact Zz (by decide) (by omega) | exact Zae (by decide) (by omega) | exact Zm (by decide) (by omega) | exact Zah _ | exact Zay _ | exact Zak _ | exact rfl) rfl ?_; refine Ze rfl rfl rfl rfl ?_; refine Zf ?_; refine Zbg (a' := [(9, _)]) (k + 1) ([]) (.cons (k := 9) rfl (.cons (k := 7) rfl (.cons (k := 6) rfl (.cons (k := 1) rfl (.cons (k := 2) rfl (.nil)))))) (hm0.trans hm3) (fun w hw => by first | exact hw | exact hw.cnt (by intro zz; first | exact Nat.le_refl _ | (simp only [Zh, Zd, Zi, cat, List.append_eq, List.append_assoc, List.cons_append, List.nil_append, List.append_nil]; omega) | (simp only [Zh, Zd, Zi, cat, List.append_eq, List.append_assoc, List.cons_append, List.nil_append, List.append_nil, StepL06V.segs]; omega))) ?_ ?_
                  · exact ⟨hle.trans hm3, rfl, rfl, by omega⟩
                  · omega
              · first | replace hc4 := dT hc4 | replace hc4 := dF hc4 | replace hc4 := nT hc4 | replace hc4 := nF hc4 | skip
                first
                | (exfalso; omega)
                | (exfalso; simp [eqX] at hc4; done)
                | contradiction
                | skip
                  refine Zu ?_; refine Zb ?_; refine Zj ?_
                  obtain ⟨e9, hek⟩ : ∃ e, es[k] = some e := by
                    cases h9 : es[k] with
                    | none =>
                      have h8 : (wrapO op es[k]).isNone = false := by simpa [eqX] using (by assumption : eqX .eql (wrapO op es[k]).isNone = false)
                      rw [none_wrap, h9] at h8
                      cases h8
                    | some e => exact ⟨e, rfl⟩
                  have hv8 : ErrV M3 (.wrap op e9) v9 := by have h9 := hv9; rw [hek] at h9; exact h9
                  have hz8 : (Err.wrap op e9).wt ≤ 10000 := by have h9 := wt_wrap9 (o := es[k]) (op := op) (by omega) hwk; rw [hek] at h9; exact h9
                  have hk8 : ∀ c ∈ (Err.wrap op e9).codes, okC c := fun c hc => hok c (by rw [hek]; simpa [codesO, Err.codes] using hc)
                  refine Za (l := [0, 1, 2]) rfl ?_; refine Zc rfl rfl rfl rfl ?_; refine X_fn rfl rfl F.ok16 rfl (bTrail_o M3 (some (.wrap op e9)) v9 hv8 hz8) rfl ?_
                  rintro _ M4 hm4 ⟨⟨a9, c9, l9⟩, rfl, hs9, hk9⟩
                  simp only [trailO] at hs9
                  have s_9 : SlM M4 a9 (l9.map oneS) 1 := hk9.h1
                  have n_9 : (l9.map oneS).length = l9.length := List.length_map ..
                  have m_9 : l9.length ≤ 9223372036854775807 := hk9.h2
                  have c_9 : l9.length ≤ c9 := hk9.h3
                  have p_9 : l9.length = e9.trail.length + 1 := by rw [hs9]; rfl
                  have s_4 : SlM M4 xa (xl.map (fun u => ([.one u] : Segs))) 1 := (s_2.mono hm3).mono hm4
                  refine Ze rfl rfl rfl rfl ?_; refine Zf ?_; refine Zb ?_; refine Zj ?_; refine Zav (l := [0, 1, 2, 3, 4, 5, 6, 7, 8, 9, 10, 11, 12, 13, 14, 15, 16, 17, 18, 19, 20, 21, 22, 23, 24, 25, 26, 27, 28, 29, 30, 31, 32, 33, 34, 35, 36, 37, 38, 39, 40]) #[0, 1, 3, 7, 15, 31, 63, 15, 255, 511, 1023, 2047, 4095, 2047, 2047, 26623, 59391, 124927, 262143, 524287, 1048575, 2097151, 4194303, 8388607, 4194303, 20971519, 4194303, 4194303, 205520895, 473956351, 1023410175, 2147483647, 4294967295, 8589934591, 17179869183, 34359738367, 68719476735, 34359738367, 274877906943, 549755813887, 1099511627775] _ rfl (by kernel_rfl) (by kernel_rfl) St.drawn (fun _ h => h) ?_; refine Zc rfl rfl rfl rfl ?_; refine Zas rfl rfl rfl rfl F.elem40 rfl ?_; refine Zao rfl rfl rfl rfl rfl rfl ?_; refine Zbf 83 rfl (show _ = Value.bool false from congrArg Value.bool (decide_eq_false (by rw [hs9]; simp [Err.trail]; omega))) ?_
                  refine Zc rfl rfl rfl rfl ?_; refine Zc rfl rfl rfl rfl ?_; refine Zn rfl rfl rfl rfl F.elem40 (by first | rfl | exact (Int.toNat_of_nonneg (by omega)).symm) (by first | omega | (simp; done) | (simp; omega)) (by first | exact ⟨_, _, rfl⟩ | assumption | exact SlM.plain (by assumption) (by first | (simp; done) | (simp; omega)) | exact RdS.plain (by assumption) (by first | (simp; done) | (simp; omega)) | exact OSl.plain (by assumption) (by first | (simp; done) | (simp; omega))) rfl ?_
                  first | refine Zan rfl rfl rfl (by repeat first | exact List.Mem.head _ | refine List.Mem.tail _ ?_ | refine List.mem_append_right _ ?_) F.lay9 rfl rfl rfl ?_ | refine Zs rfl rfl rfl (by first | assumption | exact SlM.mono (by assumption) (by assumption)) (by first | exact Zg (by omega) | exact List.getElem?_eq_getElem (by omega) | exact rfl | exact Zg (by first | (simp; done) | (simp; omega))) F.lay9 rfl rfl rfl ?_ | refine Zr rfl rfl rfl (by assumption) (by first | exact Zg (by omega) | exact List.getElem?_eq_getElem (by omega) | exact rfl | exact Zg (by first | (simp; done) | (simp; omega))) F.lay9 rfl rfl rfl ?_ | refine Zp rfl rfl rfl (by first | assumption | exact Mem.get_of (by assumption) (by repeat first | assumption | refine Mem.le.trans (by assumption) ?_)) F.lay9 rfl rfl rfl ?_ | refine Zo rfl rfl rfl (by assumption) (by repeat first | exact Rem.here _ | exact Rem.two | apply Rem.skip | apply Rem.over) (by first | exact Zg (by omega) | exact List.getElem?_eq_getElem (by omega) | exact rfl | exact Zg (by first | (simp; done) | (simp; omega))) F.lay9 rfl rfl rfl ?_ | refine Zq rfl rfl rfl (by repeat first | exact List.Mem.head _ | refine List.Mem.tail _ ?_ | refine List.mem_append_right _ ?_) F.lay9 (by first | exact Zbj (by first | omega | decide) | exact Zax (by first | omega | decide)) rfl ?_
                  refine Zc rfl rfl rfl rfl ?_; refine X_str rfl rfl rfl rfl rfl rfl ?_; refine Zbf 89 rfl (show _ = Value.bool false from congrArg Value.bool (by simp [hs9, Err.trail])) ?_; refine Zau rfl rfl rfl rfl rfl ?_; refine Zc rfl rfl rfl rfl ?_; refine Zc rfl rfl rfl rfl ?_; refine X_slice rfl rfl rfl (.some (k := 1) rfl rfl) .none .none F.elem40 (by simp) (by simp; omega) (by simp; omega) (by simp) (show _ = Sl.val ⟨shiftA a9 c9 1 1, c9 - 1, l9.drop 1⟩ by simp [pieceV, Sl.val, shiftA]) rfl ?_; refine Zc rfl rfl rfl rfl ?_; refine Zc rfl rfl rfl rfl ?_; refine Zn rfl rfl rfl rfl F.elem25 (by first | rfl | exact (Int.toNat_of_nonneg (by omega)).symm) (by first | omega | (simp; done) | (simp; omega)) (by first | exact ⟨_, _, rfl⟩ | assumption | exact SlM.plain (by assumption) (by first | (simp; done) | (simp; omega)) | exact RdS.plain (by assumption) (by first | (simp; done) | (simp; omega)) | exact OSl.plain (by assumption) (by first | (simp; done) | (simp; omega))) rfl ?_
                  first | refine Zan rfl rfl rfl (by repeat first | exact List.Mem.head _ | refine List.Mem.tail _ ?_ | refine List.mem_append_right _ ?_) F.lay30 rfl rfl rfl ?_ | refine Zs rfl rfl rfl (by first | assumption | exact SlM.mono (by assumption) (by assumption)) (by first | exact Zg (by omega) | exact List.getElem?_eq_getElem (by omega) | exact rfl | exact Zg (by first | (simp; done) | (simp; omega))) F.lay30 rfl rfl rfl ?_ | refine Zr rfl rfl rfl (by assumption) (by first | exact Zg (by omega) | exact List.getElem?_eq_getElem (by omega) | exact rfl | exact Zg (by first | (simp; done) | (simp; omega))) F.lay30 rfl rfl rfl ?_ | refine Zp rfl rfl rfl (by first | assumption | exact Mem.get_of (by assumption) (by repeat first | assumption | refine Mem.le.trans (by assumption) ?_)) F.lay30 rfl rfl rfl ?_ | refine Zo rfl rfl rfl (by assumption) (by repeat first | exact Rem.here _ | exact Rem.two | apply Rem.skip | apply Rem.over) (by first | exact Zg (by omega) | exact List.getElem?_eq_getElem (by omega) | exact rfl | exact Zg (by first | (simp; done) | (simp; omega))) F.lay30 rfl rfl rfl ?_ | refine Zq rfl rfl rfl (by repeat first | exact List.Mem.head _ | refine List.Mem.tail _ ?_ | refine List.mem_append_right _ ?_) F.lay30 (by first | exact Zbj (by first | omega | decide) | exact Zax (by first | omega | decide)) rfl ?_
                  refine X_fn rfl rfl F.ok16 rfl (bTrail_o M4 es[k] _ (hvk3.mono hm4) (by omega)) rfl ?_
                  rintro _ M5 hm5 ⟨⟨a10, c10, l10⟩, rfl, hs10, hk10⟩
                  simp only at hs10
                  have htb5 := ((htb2.mono hm3).mono hm4).mono hm5
                  have hW5 := (hW3.mono hm4).mono hm5
                  refine X_fs rfl rfl F.ok15 rfl (Same_ok M5 ⟨_, _, l9.drop 1⟩ ⟨a10, c10, l10⟩ ((hk9.mono hm5).drop 1 (by omega)) hk10) rfl ?_
                  rintro _ rfl
                  refine X_not rfl rfl rfl rfl ?_; refine Zbf 100 rfl (show _ = Value.bool false from congrArg Value.bool (by simp [hs9, hs10, Err.trail, trailO, hek])) ?_; refine Zau rfl rfl rfl rfl rfl ?_; refine Zc rfl rfl rfl rfl ?_; refine Zc rfl rfl rfl rfl ?_; refine X_fs rfl rfl F.ok18 rfl (bText_o (tellT tb) (tell_short tb) M5 hW5.d (some (.wrap op e9)) v9 (ErrV.mono (hm4.trans hm5) _ hv8) (fun c hc => ⟨hk8 c hc, tell_at M5 tb htb5 c (hk8 c hc)⟩) hz8) rfl ?_
                  rintro _ rfl
                  refine Zc rfl rfl rfl rfl ?_; refine X_cat rfl rfl rfl rfl (by have h8 : (ByteArray.mk #[58, 32]).size = 2 := rfl; omega) rfl rfl ?_; refine Zc rfl rfl rfl rfl ?_; refine Zc rfl rfl rfl rfl ?_; refine Zn rfl rfl rfl rfl F.elem25 (by first | rfl | exact (Int.toNat_of_nonneg (by omega)).symm) (by first | omega | (simp; done) | (simp; omega)) (by first | exact ⟨_, _, rfl⟩ | assumption | exact SlM.plain (by assumption) (by first | (simp; done) | (simp; omega)) | exact RdS.plain (by assumption) (by first | (simp; done) | (simp; omega)) | exact OSl.plain (by assumption) (by first | (simp; done) | (simp; omega))) rfl ?_
                  first | refine Zan rfl rfl rfl (by repeat first | exact List.Mem.head _ | refine List.Mem.tail _ ?_ | refine List.mem_append_right _ ?_) F.lay30 rfl rfl rfl ?_ | refine Zs rfl rfl rfl (by first | assumption | exact SlM.mono (by assumption) (by assumption)) (by first | exact Zg (by omega) | exact List.getElem?_eq_getElem (by omega) | exact rfl | exact Zg (by first | (simp; done) | (simp; omega))) F.lay30 rfl rfl rfl ?_ | refine Zr rfl rfl rfl (by assumption) (by first | exact Zg (by omega) | exact List.getElem?_eq_getElem (by omega) | exact rfl | exact Zg (by first | (simp; done) | (simp; omega))) F.lay30 rfl rfl rfl ?_ | refine Zp rfl rfl rfl (by first | assumption | exact Mem.get_of (by assumption) (by repeat first | assumption | refine Mem.le.trans (by assumption) ?_)) F.lay30 rfl rfl rfl ?_ | refine Zo rfl rfl rfl (by assumption) (by repeat first | exact Rem.here _ | exact Rem.two | apply Rem.skip | apply Rem.over) (by first | exact Zg (by omega) | exact List.getElem?_eq_getElem (by omega) | exact rfl | exact Zg (by first | (simp; done) | (simp; omega))) F.lay30 rfl rfl rfl ?_ | refine Zq rfl rfl rfl (by repeat first | exact List.Mem.head _ | refine List.Mem.tail _ ?_ | refine List.mem_append_right _ ?_) F.lay30 (by first | exact Zbj (by first | omega | decide) | exact Zax (by first | omega | decide)) rfl ?_
                  refine X_fs rfl rfl F.ok18 rfl (bText_o (tellT tb) (tell_short tb) M5 hW5.d es[k] _ ((hvk3.mono hm4).mono hm5) (fun c hc => ⟨hok c hc, tell_at M5 tb htb5 c (hok c hc)⟩) (by omega)) rfl ?_
                  rintro _ rfl
                  have hts : (textO (tellT tb) es[k]).size ≤ 5000 := by
                    rw [hek]
                    have h9 := text_size (tell_short tb) e9 (fun c hc => hok c (by rw [hek]; exact hc))
                    have h8 : e9.wt ≤ 5000 := by rw [hek] at hwk; exact hwk
                    show (e9.text (tellT tb)).size ≤ 5000
                    omega
                  refine X_cat rfl rfl rfl rfl (by simp only [ByteArray.size_append]; have h8 : (ByteArray.mk #[58, 32]).size = 2 := rfl; omega) rfl rfl ?_; refine X_str rfl rfl rfl rfl rfl rfl ?_; refine Zbf 113 rfl (show _ = Value.bool false from congrArg Value.bool (by rw [hek]; simp [textO, Err.text, colB])) ?_; refine Zau rfl rfl rfl rfl rfl ?_; refine Zc rfl rfl rfl rfl ?_; refine Zc rfl rfl rfl rfl ?_
                  obtain ⟨ti, ui, fi, ri, hvi, hmi, hfi, hci⟩ := text_aux (tellT tb) (tell_short tb) M5 hW5.d _ (.wrap op e9) v9 (Nat.le_refl _) (ErrV.mono (hm4.trans hm5) _ hv8) (fun c hc => ⟨hk8 c hc, tell_at M5 tb htb5 c (hk8 c hc)⟩) hz8
                  refine Zbf 116 rfl hvi ?_; refine X_invO rfl rfl rfl hmi hfi rfl hci (Rem.nil _) rfl ?_
                  rintro _ M6 _ ⟨hM6, rfl⟩; obtain rfl := hM6.symm
                  refine Zc rfl rfl rfl rfl ?_; refine X_fs rfl rfl F.ok18 rfl (bText_o (tellT tb) (tell_short tb) M5 hW5.d (some (.wrap op e9)) v9 (ErrV.mono (hm4.trans hm5) _ hv8) (fun c hc => ⟨hk8 c hc, tell_at M5 tb htb5 c (hk8 c hc)⟩) hz8) rfl ?_
                  rintro _ rfl
                  refine X_str rfl rfl rfl rfl rfl rfl ?_; refine Zbf 120 rfl (show _ = Value.bool false from congrArg Value.bool (by simp [textO])) ?_; refine Zau rfl rfl rfl rfl rfl ?_; refine Zf ?_; refine Zb ?_; refine Zbe rfl ?_; refine Zu ?_; refine Zbk ?_; refine Zb ?_; refine Za (l := [0, 1, 2]) rfl ?_; refine Zc rfl rfl rfl rfl ?_; refine Zai rfl rfl rfl rfl rfl (by first | exact Zt (by decide) (by omega) | exact Zz (by decide) (by omega) | exact Zae (by decide) (by omega) | exact Zm (by decide) (by omega) | exact Zah _ | exact Zay _ | exact Zak _ | exact rfl) rfl ?_; refine Ze rfl rfl rfl rfl ?_; refine Zf ?_; refine Zbg (a' := [(9, _)]) (k + 1) ([]) (.cons (k := 9) rfl (.cons (k := 7) rfl (.cons (k := 6) rfl (.cons (k := 1) rfl (.cons (k := 2) rfl (.nil)))))) (hm0.trans (hm3.trans (hm4.trans hm5))) (fun w hw => by first | exact hw | exact hw.cnt (by intro zz; first | exact Nat.le_refl _ | (simp only [Zh, Zd, Zi, cat, List.append_eq, List.append_assoc, List.cons_append, List.nil_append, List.append_nil]; omega) | (simp only [Zh, Zd, Zi, cat, List.append_eq, List.append_assoc, List.cons_append, List.nil_append, List.append_nil, StepL06V.segs]; omega))) ?_ ?_
                  · exact ⟨hle.trans (hm3.trans (hm4.trans hm5)), rfl, rfl, by omega⟩
                  · omega
          · first | replace hc3 := dT hc3 | replace hc3 := dF hc3 | replace hc3 := nT hc3 | replace hc3 := nF hc3 | skip
            first
            | (exfalso; omega)
            | (exfalso; simp [eqX] at hc3; done)
            | contradiction
            | skip
              refine Zbt ?_; refine Zbd ?_; refine Zbd ?_; refine Zca ?_; refine Zb ?_; refine Zk (.cons (k := 6) rfl .nil) ?_; refine Zj ?_; refine Za (l := [0, 1]) rfl ?_; refine X_fn rfl rfl F.ok20 rfl (blamed_ok M2 hW2) rfl ?_
              rintro _ M3 hm3 rfl
              refine Ze rfl rfl rfl rfl ?_; refine Zf ?_; refine Zb ?_; refine Zk (.cons (k := 6) rfl .nil) ?_; refine Zag ?_
              refine Zab (.inr rfl) (.tmp rfl .nil) (fun w hw => ?_)
              first | exact ⟨_, M, rfl, Mem.le.refl M, hw.cnt (by intro zz; first | exact Nat.le_refl _ | (simp only [Zh, Zd, Zi, cat, List.append_eq, List.append_assoc, List.cons_append, List.nil_append, List.append_nil]; omega) | (simp only [Zh, Zd, Zi, cat, List.append_eq, List.append_assoc, List.cons_append, List.nil_append, List.append_nil, StepL06V.segs]; omega)), rfl⟩ | exact ⟨_, _, rfl, hm1.trans (hle.trans hm3), hw.cnt (by intro zz; first | exact Nat.le_refl _ | (simp only [Zh, Zd, Zi, cat, List.append_eq, List.append_assoc, List.cons_append, List.nil_append, List.append_nil]; omega) | (simp only [Zh, Zd, Zi, cat, List.append_eq, List.append_assoc, List.cons_append, List.nil_append, List.append_nil, StepL06V.segs]; omega)), rfl⟩
end Go.Proofs.YtbeahcfghjiogaaDoor
namespace Go.Proofs.YtbeahcfghjiogaaDoor
open Go.Esp
theorem u64_has {n : Int} (h : IntKind.u64.has n) : 0 ≤ n := by
  have h9 := h.1
  have h8 : IntKind.u64.min = 0 := by decide
  rw [h8] at h9
  exact h9
def numV : Value → Nat
  | .int _ n => n.toNat
  | _ => 0
theorem tab_of {W : World} (h : W.ShapedOpen Tryd.prog) : ∃ tb, TabU (memOf W) tb 125 := by
  obtain ⟨cs, h1, h2, h3⟩ := h.1 1 (Array.replicate 20 (.int .u64 0)) 125 (by decide +kernel) (by kernel_rfl)
  obtain ⟨ts, e1, _, e3⟩ := h3 (by kernel_rfl)
  have e2 : Tryd.prog.cellTypes Tryd.prog.depth 125 = some (List.replicate 20 117) := by kernel_rfl
  rw [e2] at e1
  obtain rfl := Option.some.inj e1
  have h20 : cs.size = 20 := h2
  have hv : ∀ v ∈ cs.toList, v = .int .u64 ((numV v : Nat) : Int) := by
    intro v hm
    obtain ⟨i, hi⟩ := List.getElem?_of_mem hm
    have hi2 : cs[i]? = some v := by simpa using hi
    obtain ⟨u, hu, hc⟩ := e3 i v hi2
    have hu2 : u = 117 := by
      rw [List.getElem?_replicate] at hu
      split at hu
      · exact (Option.some.inj hu).symm
      · cases hu
    subst hu2
    unfold Cell.ok at hc
    rw [Tryd.underlying117] at hc
    cases v <;> simp only at hc
    case int k n =>
      obtain ⟨rfl, hr⟩ := hc
      have := u64_has hr
      show Value.int .u64 n = .int .u64 ((n.toNat : Nat) : Int)
      rw [Int.toNat_of_nonneg this]
  refine ⟨cs.toList.map numV, ?_, by simp [h20]⟩
  show W.heap[1]? = _
  rw [h1]
  unfold rowO
  rw [cellsU, List.map_map]
  have e9 : cs.toList.map ((fun n : Nat => Value.int .u64 (n : Int)) ∘ numV) = cs.toList := by
    have h9 : cs.toList.map ((fun n : Nat => Value.int .u64 (n : Int)) ∘ numV) = cs.toList.map id := List.map_congr_left fun v hm => (hv v hm).symm
    rw [h9, List.map_id]
  rw [e9]
theorem lifted_of {H : Type} {enc : TypeId × Value → H} {a : Assume} {C : Checked} {os : Os} {f : FuncId} {fn : Func} {s : ChangeSpec} {conds : List PathCond} {X : World → Array Value → Prop}
    (hX : ∀ (w w' : World) (args : Array Value), w.heap = w'.heap → X w args → X w' args) (own : ownKnob C.prog.godebug = none) (started : os.Started) (noInit : C.prog.inits.idxOf? f = none) (hfn : C.prog.funcs[f]? = some fn)
    (witness : ∃ (w : World) (tape : Tape) (i : Input), w.os = os ∧ (w.forCall tape i).Shaped C.prog ∧ i.vars = [] ∧ Input.okWide C.prog (w.forCall tape i) .any w.heap.size f i ∧
      ((s.pre enc C.prog fn conds false (w.forCall tape i).memory i.args ∧ X (w.forCall tape i).memory i.args) ∧ sizedMet enc C.prog fn (OpenSpec.ofChange s) false (w.forCall tape i).memory i.args) ∧ a.holds C.prog (lone (Frame.enter C.prog f i.args .normal) [] (w.forCall tape i)))
    (run : ∀ (W : World) (base : Nat) (args : Array Value) (ds gs : List (DataW H)) (before : List MemPlace), (∀ (j : Nat) t v, fn.params[j]? = some t → args[j]? = some v → Value.okWide C.prog W .any base t v) →
      DataW.Whole enc C.prog fn.params.toList s.vars false W args.toList ds gs before → (DataW.weightsEach C.prog (fn.params.toList ++ s.plain.varTypes C.prog) (ds ++ gs)).all (· ≤ reachBytes) = true → X W args → W.ShapedOpen C.prog →
      Calls C.prog f args W fun e W' => ∃ v, e = .returned v ∧ s.post enc C.prog fn false true false false W args v W') :
    ReturnsInHanded a C os f .any (fun w args => (s.pre enc C.prog fn conds false w args ∧ X w args) ∧ sizedMet enc C.prog fn (OpenSpec.ofChange s) false w args) (s.post enc C.prog fn false true false false) :=
  returnsInHanded_of_calls own started noInit witness fun w tape i _ hsh _ hok hpre _ => by
    obtain ⟨⟨⟨ds, gs, before, g1, g2⟩, g3⟩, g4⟩ := hpre
    have g5 : DataW.Whole enc C.prog fn.params.toList s.vars false (w.forCall tape i) i.args.toList ds gs before := g1.of_heap (by rfl)
    have g6 : ∀ (j : Nat) t v, fn.params[j]? = some t → i.args[j]? = some v → Value.okWide C.prog (w.forCall tape i) .any w.heap.size t v := by
      obtain ⟨_, _, _, fn', q1, _, _, _, _, q2⟩ := hok
      rw [hfn] at q1
      obtain rfl := Option.some.inj q1
      exact q2
    exact (run (w.forCall tape i) w.heap.size i.args ds gs before g6 g5 (g4.weights g1) (hX _ _ _ (by rfl) g3) hsh).mono fun e W' ⟨v, q1, q2⟩ => by
      subst q1
      exact ChangeSpec.post_blind q2
end Go.Proofs.YtbeahcfghjiogaaDoor
