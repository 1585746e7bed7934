/-
  Texts of this claim, one behind the other: T10, SumL, T11, ItoaL, ItoaM, SortL, SortG, T12, T13, Frz, T14, SmallN, T15, T16, T17.
-/
import Derived.Test.YtbafnjniijodfaaDoorPk4
import Derived.Shelf.Strconv.Itoa3
import Derived.Ground.NamesProg
import Derived.Test.YtbafnjniijodfaaDoorRows
import Derived.Shelf.SlSortCmp.WholeK
import Derived.Shelf.SlGeneric
import Derived.Ground.SlsfProg
/-
  What is added to a text.
-/
set_option linter.unusedSimpArgs false
set_option linter.unusedVariables false
set_option linter.unnecessarySimpa false
set_option maxRecDepth 8000
set_option maxHeartbeats 1000000
namespace Go.Proofs.YtbafnjniijodfaaDoor
open Go.Esp
theorem F.bst0 (w : World) : (Instr.build 71 #[(0, .int .u32 1732584193), (1, .int .u32 4023233417), (2, .int .u32 2562383102), (3, .int .u32 271733878), (4, .int .u32 3285377520)]).run Tryd.prog w = .ok (aggV [stSeg start5]) w := by kernel_rfl
theorem F.ok58 : okFn Tryd.prog 58 = true := by kernel_rfl
theorem F.zero5 : zeroOf Tryd.prog 5 = some ((.int .u8 0)) := by kernel_rfl

theorem Start_ok (M : Mem) : Fs Tryd.prog 47 [] M (fun v => v = aggV ([stSeg start5])) := by
  refine fs_enter Tryd.func47 rfl Tryd.ntmps47 rfl ?_; intro H
  refine C_seq ?_
  refine C_region (l := [0]) rfl ?_
  refine X_alloc rfl rfl F.zero71 (by constructor) rfl ?_; intro b1
  refine XD_end ?_
  refine K_then ?_
  refine C_seq ?_
  refine C_region (l := [0, 1]) rfl ?_
  refine X_buildC rfl rfl (fun a ha => by simp [show a.eval (.const (.int .u32 1732584193)) = .int .u32 1732584193 from ha.ev rfl, show a.eval (.const (.int .u32 4023233417)) = .int .u32 4023233417 from ha.ev rfl, show a.eval (.const (.int .u32 2562383102)) = .int .u32 2562383102 from ha.ev rfl, show a.eval (.const (.int .u32 271733878)) = .int .u32 271733878 from ha.ev rfl, show a.eval (.const (.int .u32 3285377520)) = .int .u32 3285377520 from ha.ev rfl]) (F.bst0) rfl ?_
  refine X_store rfl rfl rfl rfl (by constructor) (by first | ((try simp only [cat, List.cons_append, List.nil_append, List.append_nil]); (repeat (first | exact flat_nil | refine flat_id ?_ | (refine flat_one ?_ ?_; rfl))); done) | exact PeerV.flat _ | exact PeerV.flat ⟨_, _⟩ | exact stFlat _ | exact phS_flat _ | exact phR_flat | (simp [flat, cat, Segs.cells, Seg.cells, Value.oneCell']; done)) (by repeat first | exact Upd.head | apply Upd.tail | apply Upd.over) F.lay71 rfl rfl ?_
  refine XD_end ?_
  refine K_then ?_
  refine C_pick (.cons (k := 0) rfl .nil) ?_
  refine C_ret ?_
  refine K_end (.inr rfl) (.cell rfl (by repeat first | exact List.Mem.head _ | refine List.Mem.tail _ ?_ | refine List.mem_append_right _ ?_) F.lay71 rfl rfl .nil) (fun w hw => ?_)
  refine ⟨_, rfl, (hw.cnt (by intro zz; first | exact Nat.le_refl _ | (simp only [cnt_app, cnt_cons, cnt_nil, cat, List.append_eq, List.append_assoc, List.cons_append, List.nil_append, List.append_nil]; omega) | (simp only [cnt_app, cnt_cons, cnt_nil, cat, List.append_eq, List.append_assoc, List.cons_append, List.nil_append, List.append_nil, PeerV.segs]; omega))), ?_⟩
  clear hw
  rfl

theorem Pad_ok (M : Mem) (s : ByteArray) (hs : s.size ≤ 4096) (hM : M.dr = 0) : Fs Tryd.prog 46 [.string s] M (fun v => ∃ p : ByteArray, v = .tuple #[.string p, .int .i64 0] ∧ natsOf p = padN (natsOf s)) := by
  refine fs_enter Tryd.func46 rfl Tryd.ntmps46 rfl ?_; intro H
  refine C_seq ?_
  refine C_region (l := [0, 1]) rfl ?_
  refine X_assign rfl rfl rfl rfl ?_
  refine X_assign rfl rfl rfl rfl ?_
  refine XD_end ?_
  refine K_then ?_
  refine C_seq ?_
  refine C_seq ?_
  refine C_region (l := [0, 1, 2]) rfl ?_
  refine X_move rfl rfl rfl rfl ?_
  refine X_len_str rfl rfl rfl rfl Tryd.underlying9 rfl ?_
  refine X_cmp rfl rfl rfl rfl rfl rfl ?_
  refine XD_end ?_
  refine K_then ?_
  refine C_pick (.cons (k := 9) rfl (.cons (k := 3) rfl (.cons (k := 2) rfl (.cons (k := 0) rfl .nil)))) ?_
  refine C_cond rfl (fun hc1 => ?_) (fun hc1 => ?_)
  · first | replace hc1 := dT hc1 | replace hc1 := dF hc1 | replace hc1 := nT hc1 | replace hc1 := nF hc1 | skip
    try simp only [PeerV.eta] at hc1
    first | (exfalso; omega) | (exfalso; simp [eqX] at hc1; done) | contradiction
  · first | replace hc1 := dT hc1 | replace hc1 := dF hc1 | replace hc1 := nT hc1 | replace hc1 := nF hc1 | skip
    try simp only [PeerV.eta] at hc1
    first
    | (exfalso; omega)
    | (exfalso; simp [eqX] at hc1; done)
    | contradiction
    | skip
      refine C_skip ?_
      refine K_then ?_
      refine C_pick (.cons (k := 3) rfl (.cons (k := 2) rfl (.cons (k := 0) rfl .nil))) ?_
      refine C_seq ?_
      refine C_region (l := [0, 1, 2, 3, 4, 5]) rfl ?_
      refine X_move rfl rfl rfl rfl ?_
      refine X_len_str rfl rfl rfl rfl Tryd.underlying9 rfl ?_
      refine X_rem rfl rfl rfl rfl (by first | decide | omega) (by first | exact rem_nn (by omega) | rfl) rfl ?_
      refine X_ari rfl rfl rfl rfl rfl (by first | exact wrap_in (by decide) (by omega) | exact wrap_u64_in (by decide) (by omega) | exact wrap_u8_in (by decide) (by omega) | exact wrap_u32_in (by decide) (by omega) | exact wrap_u64 _ | exact wrap_u8 _ | exact wrap_u32 _ | exact rfl) rfl ?_
      refine X_rem rfl rfl rfl rfl (by first | decide | omega) (by first | exact rem_nn (by omega) | rfl) rfl ?_
      rw [show (119 - (s.size : Int) % 64) % 64 = ((((119 - s.size % 64) % 64) : Nat) : Int) by omega]
      refine X_assign rfl rfl rfl rfl ?_
      refine XD_end ?_
      refine K_then ?_
      refine C_pick (.cons (k := 4) rfl (.cons (k := 3) rfl (.cons (k := 2) rfl (.cons (k := 0) rfl .nil)))) ?_
      refine C_seq ?_
      refine C_region (l := [0, 1]) rfl ?_
      refine X_makeSliceO (k := 8) (zr := u8R 0) rfl rfl rfl rfl F.elem65 F.zero5 rfl rfl rfl (by decide) (by decide) rfl ?_; intro b2 hs1 ho1
      refine X_assign rfl rfl rfl rfl ?_
      refine XD_end ?_
      refine K_then ?_
      refine C_pick (.cons (k := 5) rfl (.cons (k := 4) rfl (.cons (k := 3) rfl (.cons (k := 2) rfl (.cons (k := 0) rfl .nil))))) ?_
      refine C_seq ?_
      refine C_seq ?_
      refine C_region (l := [0, 1, 2]) rfl ?_
      refine X_move rfl rfl rfl rfl ?_
      refine X_len_sl rfl rfl rfl rfl F.elem65 rfl ?_
      refine X_move rfl rfl rfl rfl ?_
      refine XD_end ?_
      refine K_then ?_
      refine C_pick (.cons (k := 18) rfl (.cons (k := 17) rfl (.cons (k := 5) rfl (.cons (k := 4) rfl (.cons (k := 3) rfl (.cons (k := 2) rfl (.cons (k := 0) rfl .nil))))))) ?_
      refine C_block ?_
      refine C_pick (.cons (k := 18) rfl (.cons (k := 17) rfl (.cons (k := 5) rfl (.cons (k := 4) rfl (.cons (k := 3) rfl (.cons (k := 2) rfl (.cons (k := 0) rfl .nil))))))) ?_
      refine C_loopO (Hin := hs1) (.succ .zero) (by repeat first | exact Rem.here _ | exact Rem.two | apply Rem.skip | apply Rem.over) (fun (i : Nat) M1 h1 z => M1 = M ∧ z = [(18, .int .i64 (i : Int))] ∧ i ≤ 8 ∧ OSl 5 1 (.slice (some ⟨b2, 0, none⟩) 8 8) h1 ((rowsT (8 * s.size) (i)).map u8R)) (fun i => 8 - i) (0) (⟨rfl, rfl, by omega, ho1⟩) ?_
      rintro i M1 h1 z hm1 ⟨hM1, rfl, hi, ho⟩
      subst hM1
      refine C_seq ?_
      refine C_region (l := [0]) rfl ?_
      refine X_cmp rfl rfl rfl rfl rfl rfl ?_
      refine XD_end ?_
      refine K_then ?_
      refine C_seq ?_
      refine C_cond rfl (fun hc2 => ?_) (fun hc2 => ?_)
      · first | replace hc2 := dT hc2 | replace hc2 := dF hc2 | replace hc2 := nT hc2 | replace hc2 := nF hc2 | skip
        try simp only [PeerV.eta] at hc2
        first
        | (exfalso; omega)
        | (exfalso; simp [eqX] at hc2; done)
        | contradiction
        | skip
          refine C_skip ?_
          refine K_then ?_
          refine C_seq ?_
          refine C_block ?_
          refine C_seq ?_
          refine C_region (l := [0, 1]) rfl ?_
          refine X_move rfl rfl rfl rfl ?_
          refine X_assign rfl rfl rfl rfl ?_
          refine XD_end ?_
          refine K_then ?_
          refine C_region (l := [0, 1, 2, 3, 4, 5, 6, 7, 8, 9, 10, 11, 12]) rfl ?_
          refine X_move rfl rfl rfl rfl ?_
          refine X_move rfl rfl rfl rfl ?_
          refine X_ari rfl rfl rfl rfl rfl (by first | exact wrap_in (by decide) (by omega) | exact wrap_u64_in (by decide) (by omega) | exact wrap_u8_in (by decide) (by omega) | exact wrap_u32_in (by decide) (by omega) | exact wrap_u64 _ | exact wrap_u8 _ | exact wrap_u32 _ | exact rfl) rfl ?_
          rw [show (7 : Int) - (i : Int) = ((7 - i : Nat) : Int) by omega]
          refine X_move rfl rfl rfl rfl ?_
          refine X_len_str rfl rfl rfl rfl Tryd.underlying9 rfl ?_
          refine X_ari rfl rfl rfl rfl rfl (by first | exact wrap_in (by decide) (by omega) | exact wrap_u64_in (by decide) (by omega) | exact wrap_u8_in (by decide) (by omega) | exact wrap_u32_in (by decide) (by omega) | exact wrap_u64 _ | exact wrap_u8 _ | exact wrap_u32 _ | exact rfl) rfl ?_
          rw [show (8 : Int) * (s.size : Int) = ((8 * s.size : Nat) : Int) by omega]
          refine X_conv rfl rfl rfl Tryd.underlying3 Tryd.underlying79 (by first | exact wrap_in (by decide) (by omega) | exact wrap_u64_in (by decide) (by omega) | exact wrap_u8_in (by decide) (by omega) | exact wrap_u32_in (by decide) (by omega) | exact wrap_u64 _ | exact wrap_u8 _ | exact wrap_u32 _ | exact rfl) rfl ?_
          refine X_move rfl rfl rfl rfl ?_
          refine X_ari rfl rfl rfl rfl rfl (by first | exact wrap_in (by decide) (by omega) | exact wrap_u64_in (by decide) (by omega) | exact wrap_u8_in (by decide) (by omega) | exact wrap_u32_in (by decide) (by omega) | exact wrap_u64 _ | exact wrap_u8 _ | exact wrap_u32 _ | exact rfl) rfl ?_
          rw [show (8 : Int) * (i : Int) = ((8 * i : Nat) : Int) by omega]
          refine X_shift rfl rfl rfl rfl (by omega) (shr_lit (8 * i) (by show 8 * i ≤ 64; omega)) rfl rfl ?_
          refine X_conv rfl rfl rfl Tryd.underlying79 Tryd.underlying5 (by first | exact wrap_in (by decide) (by omega) | exact wrap_u64_in (by decide) (by omega) | exact wrap_u8_in (by decide) (by omega) | exact wrap_u32_in (by decide) (by omega) | exact wrap_u64 _ | exact wrap_u8 _ | exact wrap_u32 _ | exact rfl) rfl ?_
          rw [byte_of]
          refine X_indexAddr rfl rfl rfl rfl F.elem65 (by first | rfl | exact (Int.toNat_of_nonneg (by omega)).symm) (by first | omega | (simp; done) | (simp; omega)) (by first | exact ⟨_, _, rfl⟩ | assumption | exact SlM.plain (by assumption) (by first | (simp; done) | (simp; omega)) | exact RdS.plain (by assumption) (by first | (simp; done) | (simp; omega)) | exact OSl.plain (by assumption) (by first | (simp; done) | (simp; omega))) rfl ?_
          refine X_storeO (b := b2) (j := 7 - i) rfl rfl rfl rfl (by constructor) (flat_one rfl flat_nil) F.lay5 rfl rfl ho (by repeat first | exact Rem.here _ | exact Rem.two | apply Rem.skip | apply Rem.over) (by rw [List.length_map, rowsT_len _ _ hi]; omega) ?_; intro hs2 ho2
          replace ho2 : OSl 5 1 (.slice (some ⟨b2, 0, none⟩) 8 8) hs2 ((rowsT (8 * s.size) (i + 1)).map u8R) := by rw [← rowsT_set (by omega), List.map_set]; exact ho2.as (by simp [rowsT_len _ _ hi])
          refine XD_end ?_
          refine K_out ?_
          refine K_then ?_
          refine C_region (l := [0, 1]) rfl ?_
          refine X_ari rfl rfl rfl rfl rfl (by first | exact wrap_in (by decide) (by omega) | exact wrap_u64_in (by decide) (by omega) | exact wrap_u8_in (by decide) (by omega) | exact wrap_u32_in (by decide) (by omega) | exact wrap_u64 _ | exact wrap_u8 _ | exact wrap_u32 _ | exact rfl) rfl ?_
          refine X_move rfl rfl rfl rfl ?_
          refine XD_end ?_
          refine K_roundO (a' := [(18, _)]) (i + 1) (hs2) (.cons (k := 18) rfl (.cons (k := 17) rfl (.cons (k := 5) rfl (.cons (k := 4) rfl (.cons (k := 3) rfl (.cons (k := 2) rfl (.cons (k := 0) rfl (.nil)))))))) (by first | exact Mem.le.refl _ | assumption | (repeat first | assumption | refine Mem.le.trans (by assumption) ?_)) (fun w hw => by first | exact hw | exact hw.cnt (by intro zz; first | exact Nat.le_refl _ | (simp only [cnt_app, cnt_cons, cnt_nil, cat, List.append_eq, List.append_assoc, List.cons_append, List.nil_append, List.append_nil]; omega) | (simp only [cnt_app, cnt_cons, cnt_nil, cat, List.append_eq, List.append_assoc, List.cons_append, List.nil_append, List.append_nil, PeerV.segs]; omega))) ?_ ?_
          · exact ⟨rfl, rfl, by omega, ho2⟩
          · omega
      · first | replace hc2 := dT hc2 | replace hc2 := dF hc2 | replace hc2 := nT hc2 | replace hc2 := nF hc2 | skip
        try simp only [PeerV.eta] at hc2
        first
        | (exfalso; omega)
        | (exfalso; simp [eqX] at hc2; done)
        | contradiction
        | skip
          refine C_exit ?_
          refine K_exit ?_
          refine K_exit ?_
          refine K_hit ?_
          refine K_then ?_
          refine C_pick (.cons (k := 5) rfl (.cons (k := 4) rfl (.cons (k := 3) rfl (.cons (k := 2) rfl (.cons (k := 0) rfl .nil))))) ?_
          refine C_seq ?_
          refine C_region_any (l := [0, 1, 2, 3, 4, 5, 6, 7, 8, 9]) #[0, 1, 0, 4, 15, 0, 32, 127, 255, 511] _ rfl (by kernel_rfl) (by kernel_rfl) St.drawn (fun _ h => h) ?_
          obtain rfl : i = 8 := by omega
          rw [rowsT_all] at ho
          refine X_move rfl rfl rfl rfl ?_
          refine X_cat rfl rfl rfl rfl (by show s.size + 1 ≤ _; omega) rfl rfl ?_
          refine X_move rfl rfl rfl rfl ?_
          refine X_fs rfl rfl F.ok58 rfl (Repeat_ok _ ⟨#[0]⟩ ((119 - s.size % 64) % 64) hM (by omega) (by show 1 * _ ≤ _; omega)) rfl ?_
          rintro _ rfl
          refine X_cat rfl rfl rfl rfl (by rw [rep_size, ByteArray.size_append]; show s.size + 1 + _ ≤ _; omega) rfl rfl ?_
          refine X_move rfl rfl rfl rfl ?_
          refine X_convS (l := tailN (8 * s.size)) rfl rfl rfl (OSl.srcAll ho (by repeat first | exact Rem.here _ | exact Rem.two | apply Rem.skip | apply Rem.over) (fun u hu => by rw [u8_cells] at hu; obtain ⟨z, -, rfl⟩ := List.mem_map.1 hu; rfl)) F.elem65 Tryd.underlying5 Tryd.underlying9 rfl rfl ?_
          refine X_cat rfl rfl rfl rfl (by first | (rw [ByteArray.size_append, rep_size, ByteArray.size_append, strOfNums_size, List.length_map]; show s.size + 1 + _ + 8 ≤ _; omega) | skip) rfl rfl ?_
          refine X_assign rfl rfl rfl rfl ?_
          refine X_assign rfl rfl rfl rfl ?_
          refine XD_end ?_
          refine K_then ?_
          refine C_pick (.cons (k := 3) rfl (.cons (k := 2) rfl .nil)) ?_
          refine C_ret ?_
          refine K_end (.inr rfl) (.tmp rfl (.tmp rfl .nil)) (fun w hw => ?_)
          exact ⟨_, rfl, hw.cnt (by intro zz; first | exact Nat.le_refl _ | (simp only [cnt_app, cnt_cons, cnt_nil, cat, List.append_eq, List.append_assoc, List.cons_append, List.nil_append, List.append_nil]; omega) | (simp only [cnt_app, cnt_cons, cnt_nil, cat, List.append_eq, List.append_assoc, List.cons_append, List.nil_append, List.append_nil, PeerV.segs]; omega)), _, rfl, pad_is s⟩

end Go.Proofs.YtbafnjniijodfaaDoor
/-
  The sum of a text, as a place; plain Lean.
-/
set_option linter.unusedSimpArgs false
set_option linter.unusedVariables false
set_option linter.unnecessarySimpa false
namespace Go.Esp
/-- A state, as a place. -/
def stPlc (h : St5) : Plc := BitVec.ofNat 160 ((((h.a * 4294967296 + h.b) * 4294967296 + h.c) * 4294967296 + h.d) * 4294967296 + h.e)
/-- The place of a text's bytes. -/
def sumP (B : List Nat) : Plc := stPlc (blocksN (B.length / 64 + 2) (padN B) start5)
theorem stPlc_at {h : St5} (hh : h.ok) {i : Nat} (hi : i < 20) : idB (stPlc h) i = h.nth (i / 4) / 2 ^ (24 - 8 * (i % 4)) % 256 := by
  obtain ⟨a, b, c, d, e⟩ := h
  obtain ⟨h1, h2, h3, h4, h5⟩ := hh
  simp only at h1 h2 h3 h4 h5
  have e1 : (stPlc ⟨a, b, c, d, e⟩).toNat = (((a * 4294967296 + b) * 4294967296 + c) * 4294967296 + d) * 4294967296 + e := by
    unfold stPlc
    rw [BitVec.toNat_ofNat]
    exact Nat.mod_eq_of_lt (by show (((a * 4294967296 + b) * 4294967296 + c) * 4294967296 + d) * 4294967296 + e < 2 ^ 160; omega)
  unfold idB
  rw [e1]
  match i, hi with
  | 0, _ => show _ / 256 ^ 19 % 256 = a / 2 ^ 24 % 256; omega
  | 1, _ => show _ / 256 ^ 18 % 256 = a / 2 ^ 16 % 256; omega
  | 2, _ => show _ / 256 ^ 17 % 256 = a / 2 ^ 8 % 256; omega
  | 3, _ => show _ / 256 ^ 16 % 256 = a / 2 ^ 0 % 256; omega
  | 4, _ => show _ / 256 ^ 15 % 256 = b / 2 ^ 24 % 256; omega
  | 5, _ => show _ / 256 ^ 14 % 256 = b / 2 ^ 16 % 256; omega
  | 6, _ => show _ / 256 ^ 13 % 256 = b / 2 ^ 8 % 256; omega
  | 7, _ => show _ / 256 ^ 12 % 256 = b / 2 ^ 0 % 256; omega
  | 8, _ => show _ / 256 ^ 11 % 256 = c / 2 ^ 24 % 256; omega
  | 9, _ => show _ / 256 ^ 10 % 256 = c / 2 ^ 16 % 256; omega
  | 10, _ => show _ / 256 ^ 9 % 256 = c / 2 ^ 8 % 256; omega
  | 11, _ => show _ / 256 ^ 8 % 256 = c / 2 ^ 0 % 256; omega
  | 12, _ => show _ / 256 ^ 7 % 256 = d / 2 ^ 24 % 256; omega
  | 13, _ => show _ / 256 ^ 6 % 256 = d / 2 ^ 16 % 256; omega
  | 14, _ => show _ / 256 ^ 5 % 256 = d / 2 ^ 8 % 256; omega
  | 15, _ => show _ / 256 ^ 4 % 256 = d / 2 ^ 0 % 256; omega
  | 16, _ => show _ / 256 ^ 3 % 256 = e / 2 ^ 24 % 256; omega
  | 17, _ => show _ / 256 ^ 2 % 256 = e / 2 ^ 16 % 256; omega
  | 18, _ => show _ / 256 ^ 1 % 256 = e / 2 ^ 8 % 256; omega
  | 19, _ => show _ / 256 ^ 0 % 256 = e / 2 ^ 0 % 256; omega
  | n + 20, h => omega
theorem byte_at {h : St5} (hh : h.ok) {i : Nat} (hi : i < 20) : w8 (((h.nth (i / 4) : Nat) : Int) / 2 ^ (24 - 8 * (i % 4))) = ((idB (stPlc h) i : Nat) : Int) := by
  rw [stPlc_at hh hi]
  generalize 24 - 8 * (i % 4) = m
  rw [show ((2 : Int) ^ m) = ((2 ^ m : Nat) : Int) by simp]
  unfold w8
  rw [← Int.natCast_ediv]
  generalize h.nth (i / 4) / 2 ^ m = x
  omega
theorem blocksN_nil (n : Nat) (h : St5) : blocksN n [] h = h := by cases n <;> rfl
theorem blocksN_step {n : Nat} {l : List Nat} {h : St5} (hl : l ≠ []) : blocksN (n + 1) l h = blocksN n (l.drop 64) (stepN h (l.take 64)) := by
  cases l with
  | nil => exact absurd rfl hl
  | cons x l => rfl
theorem blocksN_ok : ∀ (n : Nat) (l : List Nat) {h : St5}, h.ok → (blocksN n l h).ok
  | 0, l, h, hh => hh
  | n + 1, [], h, hh => hh
  | n + 1, x :: l, h, hh => by rw [blocksN_step (by simp)]; exact blocksN_ok n _ stepN_ok
theorem padN_len (B : List Nat) : (padN B).length = B.length + 9 + (119 - B.length % 64) % 64 := by
  unfold padN; simp; omega
theorem padN_blocks (B : List Nat) : ∃ m, (padN B).length = 64 * m ∧ m ≤ B.length / 64 + 2 := ⟨(padN B).length / 64, by rw [padN_len]; omega, by rw [padN_len]; omega⟩
theorem natsOf_ext (p : ByteArray) (i j : Nat) : natsOf (p.extract i j) = ((natsOf p).drop i).take (j - i) := by
  unfold natsOf
  rw [ByteArray.data_extract, Array.toList_extract, List.map_drop.symm, List.map_take.symm]
end Go.Esp
/-
  The sum of a text.
-/
set_option linter.unusedSimpArgs false
set_option linter.unusedVariables false
set_option linter.unnecessarySimpa false
set_option maxRecDepth 8000
set_option maxHeartbeats 1000000
namespace Go.Proofs.YtbafnjniijodfaaDoor
open Go.Esp
theorem F.ok46 : okFn Tryd.prog 46 = true := by kernel_rfl
theorem F.ok47 : okFn Tryd.prog 47 = true := by kernel_rfl
theorem F.ok48 : okFn Tryd.prog 48 = true := by kernel_rfl

theorem Sum_ok (M : Mem) (s : ByteArray) (hs : s.size ≤ 4096) (hM : M.dr = 0) : Esp.Fn Tryd.prog 30 [.string s] M (fun M' v => v = .tuple #[aggV [idSeg (sumP (natsOf s))], .int .i64 0]) := by
  refine fn_enter Tryd.func30 rfl Tryd.ntmps30 rfl ?_; intro H
  refine C_seq ?_
  refine C_region (l := [0, 1]) rfl ?_
  refine X_alloc rfl rfl F.zero32 (by constructor) rfl ?_; intro b1
  refine X_assign rfl rfl rfl rfl ?_
  refine XD_end ?_
  refine K_then ?_
  refine C_seq ?_
  refine C_region (l := [0, 1, 2, 3, 4, 5, 6]) rfl ?_
  refine X_move rfl rfl rfl rfl ?_
  refine X_fs rfl rfl F.ok46 rfl (Pad_ok _ s hs hM) rfl ?_
  rintro _ ⟨p, rfl, hp⟩
  obtain ⟨m, hm9, hmf⟩ := padN_blocks (natsOf s)
  have hps : p.size = 64 * m := by rw [← natsOf_len, hp, hm9]
  obtain ⟨f, hf⟩ : ∃ f, f = (natsOf s).length / 64 + 2 := ⟨_, rfl⟩
  obtain ⟨R9, hR⟩ : ∃ R9, blocksN (f - 0) (natsOf p) start5 = R9 := ⟨_, rfl⟩
  refine X_move rfl rfl rfl rfl ?_
  refine X_extract rfl rfl rfl rfl rfl ?_
  refine X_extract rfl rfl rfl rfl rfl ?_
  refine X_assign rfl rfl rfl rfl ?_
  refine X_assign rfl rfl rfl rfl ?_
  refine XD_end ?_
  refine K_then ?_
  refine C_pick (.cons (k := 5) rfl (.cons (k := 4) rfl (.cons (k := 3) rfl (.cons (k := 2) rfl .nil)))) ?_
  refine C_seq ?_
  refine C_seq ?_
  refine C_region (l := [0, 1]) rfl ?_
  refine X_move rfl rfl rfl rfl ?_
  refine X_cmp rfl rfl rfl rfl rfl rfl ?_
  refine XD_end ?_
  refine K_then ?_
  refine C_pick (.cons (k := 15) rfl (.cons (k := 5) rfl (.cons (k := 4) rfl (.cons (k := 3) rfl (.cons (k := 2) rfl .nil))))) ?_
  refine C_cond rfl (fun hc2 => ?_) (fun hc2 => ?_)
  · first | replace hc2 := dT hc2 | replace hc2 := dF hc2 | replace hc2 := nT hc2 | replace hc2 := nF hc2 | skip
    try simp only [PeerV.eta] at hc2
    first | (exfalso; omega) | (exfalso; simp [eqX] at hc2; done) | contradiction
  · first | replace hc2 := dT hc2 | replace hc2 := dF hc2 | replace hc2 := nT hc2 | replace hc2 := nF hc2 | skip
    try simp only [PeerV.eta] at hc2
    first
    | (exfalso; omega)
    | (exfalso; simp [eqX] at hc2; done)
    | contradiction
    | skip
      refine C_skip ?_
      refine K_then ?_
      refine C_pick (.cons (k := 4) rfl (.cons (k := 3) rfl (.cons (k := 2) rfl .nil))) ?_
      refine C_seq ?_
      refine C_region (l := [0, 1, 2]) rfl ?_
      refine X_fs rfl rfl F.ok47 rfl (Start_ok _) rfl ?_
      rintro _ rfl
      refine X_alloc rfl rfl F.zero71 (by constructor) rfl ?_; intro b3
      refine X_store rfl rfl rfl rfl (by constructor) (by first | ((try simp only [cat, List.cons_append, List.nil_append, List.append_nil]); (repeat (first | exact flat_nil | refine flat_id ?_ | (refine flat_one ?_ ?_; rfl))); done) | exact PeerV.flat _ | exact PeerV.flat ⟨_, _⟩ | exact stFlat _ | exact phS_flat _ | exact phR_flat | (simp [flat, cat, Segs.cells, Seg.cells, Value.oneCell']; done)) (by repeat first | exact Upd.head | apply Upd.tail | apply Upd.over) F.lay71 rfl rfl ?_
      refine XD_end ?_
      refine K_then ?_
      refine C_pick (.cons (k := 6) rfl (.cons (k := 4) rfl (.cons (k := 3) rfl (.cons (k := 2) rfl .nil)))) ?_
      refine C_seq ?_
      refine C_block ?_
      refine C_pick (.cons (k := 4) rfl (.cons (k := 6) rfl (.cons (k := 3) rfl (.cons (k := 2) rfl .nil)))) ?_
      refine C_loopO (Hin := [(b3, rowO [stSeg (start5)] 71)]) (.succ .zero) (by repeat first | exact Rem.here _ | exact Rem.two | apply Rem.skip | apply Rem.over) (fun (k : Nat) M2 h1 z => ∃ (q : ByteArray) (g : St5), z = [(4, .string q)] ∧ k ≤ m ∧ q.size = 64 * (m - k) ∧ g.ok ∧ blocksN (f - k) (natsOf q) g = R9 ∧ h1 = [(b3, rowO [stSeg (g)] 71)]) (fun k => m - k) (0) (⟨p, start5, rfl, by omega, by omega, start5_ok, hR, rfl⟩) ?_
      rintro k M2 h1 z hm2 ⟨q, g, rfl, hk, hq, hg, hb, rfl⟩
      refine C_seq ?_
      refine C_seq ?_
      refine C_region (l := [0, 1]) rfl ?_
      refine X_move rfl rfl rfl rfl ?_
      refine X_str rfl rfl rfl rfl rfl rfl ?_
      refine XD_end ?_
      refine K_then ?_
      refine C_cond rfl (fun hc4 => ?_) (fun hc4 => ?_)
      · first | replace hc4 := dT hc4 | replace hc4 := dF hc4 | replace hc4 := nT hc4 | replace hc4 := nF hc4 | skip
        try simp only [PeerV.eta] at hc4
        first
        | (exfalso; omega)
        | (exfalso; simp [eqX] at hc4; done)
        | contradiction
        | skip
          refine C_skip ?_
          refine K_then ?_
          refine C_seq ?_
          refine C_block ?_
          refine C_region_any (l := [0, 1, 2, 3, 4, 5, 6, 7]) #[0, 0, 2, 7, 15, 31, 31, 63] _ rfl (by kernel_rfl) (by kernel_rfl) St.drawn (fun _ h => h) ?_
          have hz9 : q.size ≠ 0 := fun h9 => absurd (show q = ⟨#[]⟩ from ByteArray.ext (Array.eq_empty_of_size_eq_zero h9)) (by simp_all)
          first | refine X_load rfl rfl rfl (by repeat first | exact List.Mem.head _ | refine List.Mem.tail _ ?_ | refine List.mem_append_right _ ?_) F.lay71 rfl rfl rfl ?_ | refine X_load_el rfl rfl rfl (by first | assumption | exact SlM.mono (by assumption) (by assumption)) (by first | exact row_map (by omega) | exact List.getElem?_eq_getElem (by omega) | exact rfl | exact row_map (by first | (simp; done) | (simp; omega))) F.lay71 rfl rfl rfl ?_ | refine X_load_rd rfl rfl rfl (by assumption) (by first | exact row_map (by omega) | exact List.getElem?_eq_getElem (by omega) | exact rfl | exact row_map (by first | (simp; done) | (simp; omega))) F.lay71 rfl rfl rfl ?_ | refine X_load_mem rfl rfl rfl (by first | assumption | exact Mem.get_of (by assumption) (by repeat first | assumption | refine Mem.le.trans (by assumption) ?_)) F.lay71 rfl rfl rfl ?_ | refine X_load_osl rfl rfl rfl (by assumption) (by repeat first | exact Rem.here _ | exact Rem.two | apply Rem.skip | apply Rem.over) (by first | exact row_map (by omega) | exact List.getElem?_eq_getElem (by omega) | exact rfl | exact row_map (by first | (simp; done) | (simp; omega))) F.lay71 rfl rfl rfl ?_
          refine X_move rfl rfl rfl rfl ?_
          refine X_slice_str (olo := none) (ohi := some 64) rfl rfl rfl .none (.some rfl rfl) Tryd.underlying9 (by show 64 ≤ q.size; omega) (Nat.zero_le _) (show _ = q.extract 0 64 from rfl) rfl ?_
          refine X_fn rfl rfl F.ok48 rfl (Step_ok _ g (q.extract 0 64) hg (by rw [← natsOf_len, natsOf_ext]; simp [natsOf_len]; omega)) rfl ?_
          rintro _ M4 hm4 rfl
          refine X_move rfl rfl rfl rfl ?_
          refine X_extract rfl rfl rfl rfl rfl ?_
          refine X_extract rfl rfl rfl rfl rfl ?_
          refine X_store rfl rfl rfl rfl (by constructor) (by first | ((try simp only [cat, List.cons_append, List.nil_append, List.append_nil]); (repeat (first | exact flat_nil | refine flat_id ?_ | (refine flat_one ?_ ?_; rfl))); done) | exact PeerV.flat _ | exact PeerV.flat ⟨_, _⟩ | exact stFlat _ | exact phS_flat _ | exact phR_flat | (simp [flat, cat, Segs.cells, Seg.cells, Value.oneCell']; done)) (by repeat first | exact Upd.head | apply Upd.tail | apply Upd.over) F.lay71 rfl rfl ?_
          refine XD_end ?_
          refine K_out ?_
          refine K_then ?_
          refine C_pick (.cons (k := 28) rfl (.cons (k := 23) rfl (.cons (k := 27) rfl (.cons (k := 26) rfl (.cons (k := 25) rfl (.cons (k := 24) rfl (.cons (k := 20) rfl (.cons (k := 19) rfl (.cons (k := 4) rfl (.cons (k := 6) rfl (.cons (k := 3) rfl (.cons (k := 2) rfl .nil)))))))))))) ?_
          refine C_region (l := [0, 1, 2]) rfl ?_
          refine X_move rfl rfl rfl rfl ?_
          refine X_slice_str (olo := some 64) (ohi := none) rfl rfl rfl (.some rfl rfl) .none Tryd.underlying9 (Nat.le_refl _) (by show 64 ≤ q.size; omega) (show _ = q.extract 64 q.size from rfl) rfl ?_
          refine X_assign rfl rfl rfl rfl ?_
          refine XD_end ?_
          refine K_roundO (a' := [(4, _)]) (k + 1) ([(b3, rowO [stSeg (stepN g (natsOf (q.extract 0 64)))] 71)]) (.cons (k := 4) rfl (.cons (k := 6) rfl (.cons (k := 3) rfl (.cons (k := 2) rfl (.nil))))) (hm2.trans hm4) (fun w hw => by first | exact hw | exact hw.cnt (by intro zz; first | exact Nat.le_refl _ | (simp only [cnt_app, cnt_cons, cnt_nil, cat, List.append_eq, List.append_assoc, List.cons_append, List.nil_append, List.append_nil]; omega) | (simp only [cnt_app, cnt_cons, cnt_nil, cat, List.append_eq, List.append_assoc, List.cons_append, List.nil_append, List.append_nil, PeerV.segs]; omega))) ?_ ?_
          · refine ⟨q.extract 64 q.size, stepN g (natsOf (q.extract 0 64)), rfl, by omega, by rw [← natsOf_len, natsOf_ext]; simp [natsOf_len]; omega, stepN_ok, ?_, rfl⟩
            rw [← hb, show f - k = (f - (k + 1)) + 1 by omega, blocksN_step (by intro h9; have := natsOf_len q; rw [h9] at this; simp at this; omega), natsOf_ext, natsOf_ext]
            congr 1
            exact List.take_of_length_le (by simp [natsOf_len])
          · omega
      · first | replace hc4 := dT hc4 | replace hc4 := dF hc4 | replace hc4 := nT hc4 | replace hc4 := nF hc4 | skip
        try simp only [PeerV.eta] at hc4
        first
        | (exfalso; omega)
        | (exfalso; simp [eqX] at hc4; done)
        | contradiction
        | skip
          refine C_exit ?_
          refine K_exit ?_
          refine K_exit ?_
          refine K_hit ?_
          refine K_then ?_
          refine C_pick (.cons (k := 6) rfl (.cons (k := 3) rfl (.cons (k := 2) rfl .nil))) ?_
          refine C_seq ?_
          refine C_region (l := [0]) rfl ?_
          refine X_alloc rfl rfl F.zero32 (by constructor) rfl ?_; intro b5
          refine XD_end ?_
          refine K_then ?_
          refine C_seq ?_
          refine C_seq ?_
          refine C_region (l := [0]) rfl ?_
          refine X_move rfl rfl rfl rfl ?_
          refine XD_end ?_
          refine K_then ?_
          refine C_block ?_
          refine C_pick (.cons (k := 30) rfl (.cons (k := 7) rfl (.cons (k := 6) rfl (.cons (k := 3) rfl (.cons (k := 2) rfl .nil))))) ?_
          refine C_loopO (Hin := [(b5, rowO [idSeg 0] 32)]) (.succ .zero) (by repeat first | exact Rem.here _ | exact Rem.two | apply Rem.skip | apply Rem.over) (fun (i : Nat) M3 h1 z => M3 = M2 ∧ z = [(30, .int .i64 (i : Int))] ∧ i ≤ 20 ∧ h1 = [(b5, rowO [.arr 20 (frontV (stPlc g) 0 i)] 32)]) (fun i => 20 - i) (0) (⟨rfl, rfl, by omega, by rw [frontV_none]; rfl⟩) ?_
          rintro i M3 h1 z hm3 ⟨hM3, rfl, hi, rfl⟩
          subst hM3
          refine C_seq ?_
          refine C_region (l := [0]) rfl ?_
          refine X_cmp rfl rfl rfl rfl rfl rfl ?_
          refine XD_end ?_
          refine K_then ?_
          refine C_seq ?_
          refine C_cond rfl (fun hc6 => ?_) (fun hc6 => ?_)
          · first | replace hc6 := dT hc6 | replace hc6 := dF hc6 | replace hc6 := nT hc6 | replace hc6 := nF hc6 | skip
            try simp only [PeerV.eta] at hc6
            first
            | (exfalso; omega)
            | (exfalso; simp [eqX] at hc6; done)
            | contradiction
            | skip
              refine C_skip ?_
              refine K_then ?_
              refine C_seq ?_
              refine C_block ?_
              refine C_seq ?_
              refine C_region (l := [0, 1]) rfl ?_
              refine X_move rfl rfl rfl rfl ?_
              refine X_assign rfl rfl rfl rfl ?_
              refine XD_end ?_
              refine K_then ?_
              refine C_region (l := [0, 1, 2, 3, 4, 5, 6, 7, 8, 9, 10, 11, 12]) rfl ?_
              refine X_move rfl rfl rfl rfl ?_
              refine X_move rfl rfl rfl rfl ?_
              refine X_quo rfl rfl rfl rfl (by first | decide | omega) (by first | exact quo_in rfl (by omega) (by omega) (by omega) | rfl) rfl ?_
              rw [show (i : Int) / 4 = ((i / 4 : Nat) : Int) by omega]
              refine X_indexAddr_arr rfl rfl rfl rfl F.arr71 (by first | rfl | exact (Int.toNat_of_nonneg (by omega)).symm) (by first | omega | decide | (simp; omega)) rfl ?_
              refine X_load_cell rfl rfl rfl (by repeat first | exact List.Mem.head _ | refine List.Mem.tail _ ?_ | refine List.mem_append_right _ ?_) F.lay69 (stCell _ (by omega)) rfl ?_
              refine X_move rfl rfl rfl rfl ?_
              refine X_rem rfl rfl rfl rfl (by first | decide | omega) (by first | exact rem_nn (by omega) | rfl) rfl ?_
              rw [show (i : Int) % 4 = ((i % 4 : Nat) : Int) by omega]
              refine X_ari rfl rfl rfl rfl rfl (by first | exact wrap_in (by decide) (by omega) | exact wrap_u64_in (by decide) (by omega) | exact wrap_u8_in (by decide) (by omega) | exact wrap_u32_in (by decide) (by omega) | exact wrap_u64 _ | exact wrap_u8 _ | exact wrap_u32 _ | exact rfl) rfl ?_
              refine X_ari rfl rfl rfl rfl rfl (by first | exact wrap_in (by decide) (by omega) | exact wrap_u64_in (by decide) (by omega) | exact wrap_u8_in (by decide) (by omega) | exact wrap_u32_in (by decide) (by omega) | exact wrap_u64 _ | exact wrap_u8 _ | exact wrap_u32 _ | exact rfl) rfl ?_
              rw [show (24 : Int) - 8 * ((i % 4 : Nat) : Int) = ((24 - 8 * (i % 4) : Nat) : Int) by omega]
              refine X_shift rfl rfl rfl rfl (by omega) (shr_lit (24 - 8 * (i % 4)) (by show _ ≤ 32; omega)) rfl rfl ?_
              refine X_conv rfl rfl rfl Tryd.underlying69 Tryd.underlying5 (by first | exact wrap_in (by decide) (by omega) | exact wrap_u64_in (by decide) (by omega) | exact wrap_u8_in (by decide) (by omega) | exact wrap_u32_in (by decide) (by omega) | exact wrap_u64 _ | exact wrap_u8 _ | exact wrap_u32 _ | exact rfl) rfl ?_
              refine X_indexAddr_arr rfl rfl rfl rfl F.arr32 (by first | rfl | exact (Int.toNat_of_nonneg (by omega)).symm) (by first | omega | decide | (simp; omega)) rfl ?_
              first | refine X_store rfl rfl rfl rfl (by constructor) (by first | ((try simp only [cat, List.cons_append, List.nil_append, List.append_nil]); (repeat (first | exact flat_nil | refine flat_id ?_ | (refine flat_one ?_ ?_; rfl))); done) | (simp [flat, cat, Segs.cells, Seg.cells, Value.oneCell']; done)) (by repeat first | exact Upd.head | apply Upd.tail | apply Upd.over) F.lay5 rfl rfl ?_ | refine X_store_cell rfl rfl rfl rfl rfl rfl (by repeat first | exact Upd.head | apply Upd.tail | apply Upd.over) F.lay5 (arr_len (by first | omega | decide)) (arr_set (by first | omega | decide)) ?_
              rw [frontV_step (stPlc g) 0 (k := i) (by omega) (byte_at hg (by omega))]
              refine XD_end ?_
              refine K_out ?_
              refine K_then ?_
              refine C_region (l := [0, 1]) rfl ?_
              refine X_ari rfl rfl rfl rfl rfl (by first | exact wrap_in (by decide) (by omega) | exact wrap_u64_in (by decide) (by omega) | exact wrap_u8_in (by decide) (by omega) | exact wrap_u32_in (by decide) (by omega) | exact wrap_u64 _ | exact wrap_u8 _ | exact wrap_u32 _ | exact rfl) rfl ?_
              refine X_move rfl rfl rfl rfl ?_
              refine XD_end ?_
              refine K_roundO (a' := [(30, _)]) (i + 1) ([(b5, rowO [.arr 20 (frontV (stPlc g) 0 (i + 1))] 32)]) (.cons (k := 30) rfl (.cons (k := 7) rfl (.cons (k := 6) rfl (.cons (k := 3) rfl (.cons (k := 2) rfl (.nil)))))) (by first | exact Mem.le.refl _ | assumption | (repeat first | assumption | refine Mem.le.trans (by assumption) ?_)) (fun w hw => by first | exact hw | exact hw.cnt (by intro zz; first | exact Nat.le_refl _ | (simp only [cnt_app, cnt_cons, cnt_nil, cat, List.append_eq, List.append_assoc, List.cons_append, List.nil_append, List.append_nil]; omega) | (simp only [cnt_app, cnt_cons, cnt_nil, cat, List.append_eq, List.append_assoc, List.cons_append, List.nil_append, List.append_nil, PeerV.segs]; omega))) ?_ ?_
              · exact ⟨rfl, rfl, by omega, rfl⟩
              · omega
          · first | replace hc6 := dT hc6 | replace hc6 := dF hc6 | replace hc6 := nT hc6 | replace hc6 := nF hc6 | skip
            try simp only [PeerV.eta] at hc6
            first
            | (exfalso; omega)
            | (exfalso; simp [eqX] at hc6; done)
            | contradiction
            | skip
              refine C_exit ?_
              refine K_exit ?_
              refine K_exit ?_
              refine K_hit ?_
              refine K_then ?_
              refine C_pick (.cons (k := 7) rfl (.cons (k := 3) rfl (.cons (k := 2) rfl .nil))) ?_
              refine C_seq ?_
              refine C_region (l := [0, 1, 2]) rfl ?_
              obtain rfl : i = 20 := by omega
              rw [frontV_all]
              rw [show (Seg.arr 20 (idV (stPlc g))) = idSeg (stPlc g) from rfl]
              first | refine X_load rfl rfl rfl (by repeat first | exact List.Mem.head _ | refine List.Mem.tail _ ?_ | refine List.mem_append_right _ ?_) F.lay32 rfl rfl rfl ?_ | refine X_load_el rfl rfl rfl (by first | assumption | exact SlM.mono (by assumption) (by assumption)) (by first | exact row_map (by omega) | exact List.getElem?_eq_getElem (by omega) | exact rfl | exact row_map (by first | (simp; done) | (simp; omega))) F.lay32 rfl rfl rfl ?_ | refine X_load_rd rfl rfl rfl (by assumption) (by first | exact row_map (by omega) | exact List.getElem?_eq_getElem (by omega) | exact rfl | exact row_map (by first | (simp; done) | (simp; omega))) F.lay32 rfl rfl rfl ?_ | refine X_load_mem rfl rfl rfl (by first | assumption | exact Mem.get_of (by assumption) (by repeat first | assumption | refine Mem.le.trans (by assumption) ?_)) F.lay32 rfl rfl rfl ?_ | refine X_load_osl rfl rfl rfl (by assumption) (by repeat first | exact Rem.here _ | exact Rem.two | apply Rem.skip | apply Rem.over) (by first | exact row_map (by omega) | exact List.getElem?_eq_getElem (by omega) | exact rfl | exact row_map (by first | (simp; done) | (simp; omega))) F.lay32 rfl rfl rfl ?_
              refine X_store rfl rfl rfl rfl (by constructor) (by first | ((try simp only [cat, List.cons_append, List.nil_append, List.append_nil]); (repeat (first | exact flat_nil | refine flat_id ?_ | (refine flat_one ?_ ?_; rfl))); done) | exact PeerV.flat _ | exact PeerV.flat ⟨_, _⟩ | exact stFlat _ | exact phS_flat _ | exact phR_flat | (simp [flat, cat, Segs.cells, Seg.cells, Value.oneCell']; done)) (by repeat first | exact Upd.head | apply Upd.tail | apply Upd.over) F.lay32 rfl rfl ?_
              refine X_assign rfl rfl rfl rfl ?_
              refine XD_end ?_
              refine K_then ?_
              refine C_pick (.cons (k := 3) rfl (.cons (k := 2) rfl .nil)) ?_
              refine C_ret ?_
              refine K_end (.inr rfl) (.cell rfl (by repeat first | exact List.Mem.head _ | refine List.Mem.tail _ ?_ | refine List.mem_append_right _ ?_) F.lay32 rfl rfl (.tmp rfl .nil)) (fun w hw => ?_)
              have hq0 : q = ⟨#[]⟩ := by simp_all
              refine ⟨_, M3, rfl, (by first | exact Mem.le.refl _ | assumption | exact Mem.le.trans (by assumption) (by assumption) | exact Mem.le.trans (by assumption) (Mem.le.trans (by assumption) (by assumption))), hw.cnt (by intro zz; first | exact Nat.le_refl _ | (simp only [cnt_app, cnt_cons, cnt_nil, cat, List.append_eq, List.append_assoc, List.cons_append, List.nil_append, List.append_nil]; omega) | (simp only [cnt_app, cnt_cons, cnt_nil, cat, List.append_eq, List.append_assoc, List.cons_append, List.nil_append, List.append_nil, PeerV.segs]; omega)), ?_⟩
              have hg9 : stPlc g = sumP (natsOf s) := by
                unfold sumP; rw [← hf, ← hp, show f = f - 0 by omega, hR, ← hb, hq0]
                show _ = stPlc (blocksN _ [] g)
                rw [blocksN_nil]
              rw [← hg9]
              rfl

end Go.Proofs.YtbafnjniijodfaaDoor
/-
  DERIVED: THE SHELF's CONTRACTS AT THIS DUMP, IN PLAIN WORDS (tools/lay-plain.mjs out of 'YtbafnjniijodfaaDoorLayTmp.lean', which tools/lay-shelf.mjs wrote): THE SAME DECLARATIONS UNDER THE SAME NAMES: 'import', 'namespace', 'open', 'def', 'theorem' AND NOTHING ELSE: no command of the shelf's: FOR A HAND-IN. Each laying: the table of numbers ('.._ren') and one theorem, a field a fact of the dump's own or the kernel's comparison; each contract: ONE APPLICATION.
-/
namespace Go.Proofs
open Go.Shelf
def Tryd.itoaL_ren : Go.Shelf.Ren := ⟨fun | 171 => 31 | 243 => 49 | 246 => 62 | 283 => 86 | 284 => 87 | 285 => 88 | 286 => 89 | 129 => 72 | 317 => 103 | 318 => 104 | 319 => 105 | 320 => 106 | 337 => 110 | 338 => 111 | n => n, fun | 3 => 3 | 9 => 9 | 2 => 2 | 4 => 4 | 171 => 116 | 0 => 0 | 53 => 79 | 37 => 65 | 5 => 5 | 173 => 118 | 212 => 134 | 51 => 69 | 20 => 20 | 213 => 135 | 46 => 63 | 232 => 142 | 233 => 115 | n => n, fun | 17 => 1 | 18 => 2 | 19 => 3 | n => n⟩
theorem Tryd.itoaL : Go.Proofs.Lays.n171 Tryd.prog Tryd.itoaL_ren := {
  mixed := by kernel_rfl
  f129 := Tryd.func72.trans (congrArg some (by kernel_rfl))
  f171 := Tryd.func31.trans (congrArg some (by kernel_rfl))
  f243 := Tryd.func49.trans (congrArg some (by kernel_rfl))
  f246 := Tryd.func62.trans (congrArg some (by kernel_rfl))
  f283 := Tryd.func86.trans (congrArg some (by kernel_rfl))
  f284 := Tryd.func87.trans (congrArg some (by kernel_rfl))
  f285 := Tryd.func88.trans (congrArg some (by kernel_rfl))
  f286 := Tryd.func89.trans (congrArg some (by kernel_rfl))
  f317 := Tryd.func103.trans (congrArg some (by kernel_rfl))
  f318 := Tryd.func104.trans (congrArg some (by kernel_rfl))
  f319 := Tryd.func105.trans (congrArg some (by kernel_rfl))
  f320 := Tryd.func106.trans (congrArg some (by kernel_rfl))
  f337 := Tryd.func110.trans (congrArg some (by kernel_rfl))
  f338 := Tryd.func111.trans (congrArg some (by kernel_rfl))
  t0 := Tryd.underlying0
  a0 := Tryd.isAgg0
  z0 := Tryd.sizeOf0
  v0 := Tryd.zeroValue0
  t2 := Tryd.underlying2
  a2 := Tryd.isAgg2
  z2 := Tryd.sizeOf2
  v2 := Tryd.zeroValue2
  t3 := Tryd.underlying3
  a3 := Tryd.isAgg3
  z3 := Tryd.sizeOf3
  v3 := Tryd.zeroValue3
  t4 := Tryd.underlying4
  a4 := Tryd.isAgg4
  z4 := Tryd.sizeOf4
  v4 := Tryd.zeroValue4
  t5 := Tryd.underlying5
  a5 := Tryd.isAgg5
  z5 := Tryd.sizeOf5
  v5 := Tryd.zeroValue5
  t9 := Tryd.underlying9
  a9 := Tryd.isAgg9
  z9 := Tryd.sizeOf9
  v9 := Tryd.zeroValue9
  t20 := Tryd.underlying20
  a20 := Tryd.isAgg20
  z20 := Tryd.sizeOf20
  v20 := Tryd.zeroValue20
  t37 := Tryd.underlying65
  a37 := Tryd.isAgg65
  z37 := Tryd.sizeOf65
  v37 := Tryd.zeroValue65
  t46 := Tryd.underlying63
  a46 := Tryd.isAgg63
  z46 := Tryd.sizeOf63
  v46 := Tryd.zeroValue63
  t51 := Tryd.underlying69
  a51 := Tryd.isAgg69
  z51 := Tryd.sizeOf69
  v51 := Tryd.zeroValue69
  t53 := Tryd.underlying79
  a53 := Tryd.isAgg79
  z53 := Tryd.sizeOf79
  v53 := Tryd.zeroValue79
  t171 := Tryd.underlying116
  a171 := Tryd.isAgg116
  z171 := Tryd.sizeOf116
  v171 := Tryd.zeroValue116
  t173 := Tryd.underlying118
  a173 := Tryd.isAgg118
  z173 := Tryd.sizeOf118
  v173 := Tryd.zeroValue118
  t212 := Tryd.underlying134
  a212 := Tryd.isAgg134
  z212 := Tryd.sizeOf134
  v212 := Tryd.zeroValue134
  t213 := Tryd.underlying135
  a213 := Tryd.isAgg135
  z213 := Tryd.sizeOf135
  t232 := Tryd.underlying142
  a232 := Tryd.isAgg142
  z232 := Tryd.sizeOf142
  v232 := Tryd.zeroValue142
  t233 := Tryd.underlying115
  a233 := Tryd.isAgg115
  z233 := Tryd.sizeOf115
  v233 := Tryd.zeroValue115
  g17 := by kernel_rfl
  g18 := by kernel_rfl
  g19 := by kernel_rfl }
end Go.Proofs
/-
  strconv.Itoa of a small number, in our terms.
-/
namespace Go.Esp
open Go.Proofs Go.Shelf Go.RowKit Go.Lib
theorem Itoa_ok (M : Mem) (i : Nat) (hi : i < 100) : Fs Tryd.prog (Tryd.itoaL_ren.f 171) [.int .i64 (i : Int)] M (fun v => v = .string ⟨(decDigits i).toArray⟩) := fun H w hw =>
  (Any.strconv_Itoa_small Tryd.itoaL i hi w).mono fun e w' ⟨he, hw'⟩ => ⟨_, he, hw'.symm ▸ hw, rfl⟩
end Go.Esp
/-
  DERIVED: THE SHELF's CONTRACTS AT THIS DUMP, IN PLAIN WORDS (tools/lay-plain.mjs out of 'YtbafnjniijodfaaDoorLayTmp.lean', which tools/lay-shelf.mjs wrote): THE SAME DECLARATIONS UNDER THE SAME NAMES: 'import', 'namespace', 'open', 'def', 'theorem' AND NOTHING ELSE: no command of the shelf's: FOR A HAND-IN. Each laying: the table of numbers ('.._ren') and one theorem, a field a fact of the dump's own or the kernel's comparison; each contract: ONE APPLICATION.
-/
namespace Go.Proofs
open Go.Shelf
def Tryd.sortL_ren : Go.Shelf.Ren := ⟨fun | 6 => 32 | 15 => 51 | 14 => 50 | 28 => 71 | 29 => 72 | 20 => 63 | 21 => 64 | 22 => 65 | 23 => 66 | 24 => 67 | 25 => 68 | 26 => 69 | 27 => 70 | 46 => 90 | 47 => 91 | 48 => 92 | 49 => 93 | 50 => 94 | 57 => 107 | n => n, fun | 22 => 23 | 24 => 38 | 25 => 57 | 3 => 3 | 39 => 63 | 0 => 0 | 53 => 69 | 55 => 79 | 4 => 4 | 46 => 93 | 45 => 92 | 50 => 97 | 5 => 5 | 9 => 9 | 66 => 120 | 70 => 124 | 76 => 136 | 77 => 137 | n => n, fun | n => n⟩
theorem Tryd.sortL : Go.Proofs.SlLaysF0.n6 Tryd.prog Tryd.sortL_ren := {
  mixed := by kernel_rfl
  f6 := ⟨Tryd.f32.name, by decide, Tryd.func32.trans (congrArg some (by kernel_rfl))⟩
  f14 := ⟨Tryd.f50.name, by decide, Tryd.func50.trans (congrArg some (by kernel_rfl))⟩
  f15 := Tryd.func51.trans (congrArg some (by kernel_rfl))
  f20 := ⟨Tryd.f63.name, by decide, Tryd.func63.trans (congrArg some (by kernel_rfl))⟩
  f21 := ⟨Tryd.f64.name, by decide, Tryd.func64.trans (congrArg some (by kernel_rfl))⟩
  f22 := ⟨Tryd.f65.name, by decide, Tryd.func65.trans (congrArg some (by kernel_rfl))⟩
  f23 := ⟨Tryd.f66.name, by decide, Tryd.func66.trans (congrArg some (by kernel_rfl))⟩
  f24 := ⟨Tryd.f67.name, by decide, Tryd.func67.trans (congrArg some (by kernel_rfl))⟩
  f25 := ⟨Tryd.f68.name, by decide, Tryd.func68.trans (congrArg some (by kernel_rfl))⟩
  f26 := ⟨Tryd.f69.name, by decide, Tryd.func69.trans (congrArg some (by kernel_rfl))⟩
  f27 := ⟨Tryd.f70.name, by decide, Tryd.func70.trans (congrArg some (by kernel_rfl))⟩
  f28 := Tryd.func71.trans (congrArg some (by kernel_rfl))
  f29 := Tryd.func72.trans (congrArg some (by kernel_rfl))
  f46 := ⟨Tryd.f90.name, by decide, Tryd.func90.trans (congrArg some (by kernel_rfl))⟩
  f47 := Tryd.func91.trans (congrArg some (by kernel_rfl))
  f48 := Tryd.func92.trans (congrArg some (by kernel_rfl))
  f49 := ⟨Tryd.f93.name, by decide, Tryd.func93.trans (congrArg some (by kernel_rfl))⟩
  f50 := ⟨Tryd.f94.name, by decide, Tryd.func94.trans (congrArg some (by kernel_rfl))⟩
  f57 := ⟨Tryd.f107.name, by decide, Tryd.func107.trans (congrArg some (by kernel_rfl))⟩
  t0 := Tryd.underlying0
  a0 := Tryd.isAgg0
  z0 := Tryd.sizeOf0
  v0 := Tryd.zeroValue0
  t3 := Tryd.underlying3
  a3 := Tryd.isAgg3
  z3 := Tryd.sizeOf3
  v3 := Tryd.zeroValue3
  t4 := Tryd.underlying4
  a4 := Tryd.isAgg4
  z4 := Tryd.sizeOf4
  v4 := Tryd.zeroValue4
  t5 := Tryd.underlying5
  a5 := Tryd.isAgg5
  z5 := Tryd.sizeOf5
  v5 := Tryd.zeroValue5
  t9 := Tryd.underlying9
  a9 := Tryd.isAgg9
  z9 := Tryd.sizeOf9
  v9 := Tryd.zeroValue9
  t22 := Tryd.underlying23
  a22 := Tryd.isAgg23
  z22 := Tryd.sizeOf23
  v22 := Tryd.zeroValue23
  t25 := Tryd.underlying57
  a25 := Tryd.isAgg57
  z25 := Tryd.sizeOf57
  v25 := Tryd.zeroValue57
  t39 := Tryd.underlying63
  a39 := Tryd.isAgg63
  z39 := Tryd.sizeOf63
  v39 := Tryd.zeroValue63
  t45 := Tryd.underlying92
  a45 := Tryd.isAgg92
  z45 := Tryd.sizeOf92
  v45 := Tryd.zeroValue92
  t46 := Tryd.underlying93
  a46 := Tryd.isAgg93
  z46 := Tryd.sizeOf93
  v46 := Tryd.zeroValue93
  t50 := Tryd.underlying97
  a50 := Tryd.isAgg97
  z50 := Tryd.sizeOf97
  v50 := Tryd.zeroValue97
  t53 := Tryd.underlying69
  a53 := Tryd.isAgg69
  z53 := Tryd.sizeOf69
  v53 := Tryd.zeroValue69
  t55 := Tryd.underlying79
  a55 := Tryd.isAgg79
  z55 := Tryd.sizeOf79
  v55 := Tryd.zeroValue79
  t66 := Tryd.underlying120
  a66 := Tryd.isAgg120
  z66 := Tryd.sizeOf120
  v66 := Tryd.zeroValue120
  t70 := Tryd.underlying124
  a70 := Tryd.isAgg124
  z70 := Tryd.sizeOf124
  v70 := Tryd.zeroValue124
  t76 := Tryd.underlying136
  a76 := Tryd.isAgg136
  z76 := Tryd.sizeOf136
  v76 := Tryd.zeroValue136
  t77 := Tryd.underlying137
  a77 := Tryd.isAgg137
  z77 := Tryd.sizeOf137
  v77 := Tryd.zeroValue137 }
end Go.Proofs
/-
  slices.SortFunc, at rows of structs of our own: the shelf's contract, in our terms.
-/
set_option linter.unusedSimpArgs false
set_option linter.unusedVariables false
set_option linter.unnecessarySimpa false
namespace Go.Esp
open Go.Proofs Go.Shelf Go.RowKit Go.Lib Go.Sort

/-- A world's memory, with what was drawn. -/
def memS (W : World) : Mem := ⟨fun b => W.heap[b]?, W.os, W.tape, W.output, W.drawn⟩
theorem St.startS (W : World) : St (memS W) [] W := ⟨fun _ _ h => h, fun _ _ h => (by cases h), fun _ _ h => (by cases h), List.nodup_nil, rfl, rfl, rfl, Nat.le_refl _⟩
theorem lays_of_fs {P : Program} {g : FuncId} {vs : List Value} {r : Value} (h : ∀ M, Fs P g vs M (fun v => v = r)) (W : World) : Calls P g vs.toArray W fun e w' => e = .returned r ∧ ∃ q os', w' = grow (W.drewN q) os' := by
  refine (h (memS W) [] W (St.startS W)).mono ?_
  rintro e w' ⟨v, rfl, hst, rfl⟩
  refine ⟨rfl, w'.drawn - W.drawn, w'.heap.extract W.heap.size w'.heap.size, ?_⟩
  have hp : ∀ b o, W.heap[b]? = some o → w'.heap[b]? = some o := hst.mem
  obtain ⟨h1, h2, h3, h4⟩ := hst.io
  have hle : W.heap.size ≤ w'.heap.size := by
    rcases Nat.eq_zero_or_pos W.heap.size with h0 | h0
    · omega
    · have := hp (W.heap.size - 1) _ (Array.getElem?_eq_getElem (by omega))
      have := (Array.getElem?_eq_some_iff.1 this).1
      omega
  have hh : w'.heap = W.heap ++ w'.heap.extract W.heap.size w'.heap.size := by
    apply Array.ext_getElem?
    intro i
    rw [Array.getElem?_append]
    split
    · rename_i hi
      rw [hp i _ (Array.getElem?_eq_getElem hi), Array.getElem?_eq_getElem hi]
    · rename_i hi
      rw [Array.getElem?_extract]
      rw [show W.heap.size + (i - W.heap.size) = i by omega]
      split
      · rfl
      · rw [Array.getElem?_eq_none]; omega
  cases w' with
  | mk heap tape drawn os output =>
    simp only [grow, World.drewN, World.mk.injEq]
    simp only [memS] at h1 h2 h3 h4
    exact ⟨hh, h2, (Nat.add_sub_cancel' h4).symm, h1, h3⟩

theorem OSl.noneAll {α : Type} {T sz c : Nat} {f : α → Segs} {l : List α} {hs : Hp} (h : OSl T sz (.slice none l.length c) hs (l.map f)) : l = [] ∧ c = 0 ∧ hs = [] := by
  generalize hv : Value.slice none l.length c = v at h
  generalize hr : l.map f = r at h
  cases h with
  | nil => simp only [Value.slice.injEq] at hv; exact ⟨List.map_eq_nil_iff.1 hr, hv.2.2, rfl⟩
  | own => simp at hv
theorem OSl.someAll {T sz l c : Nat} {ad : Addr} {hs : Hp} {rows : List Segs} (h : OSl T sz (.slice (some ad) l c) hs rows) : ∃ b, ad = ⟨b, 0, none⟩ := by
  generalize hv : Value.slice (some ad) l c = v at h
  cases h with
  | nil => simp at hv
  | own b => simp only [Value.slice.injEq, Option.some.injEq] at hv; exact ⟨b, hv.1⟩
section
variable {α : Type} [Inhabited α] {f : α → Segs} {sz : Nat}
theorem rowsCells_get {rows : List Segs} (h : lens sz rows) {j i : Nat} {r : Segs} (hr : rows[j]? = some r) (hi : i < sz) : (rowsCells rows)[j * sz + i]? = (Segs.cells r)[i]? := by
  rw [← rowsCells_at h hr, List.getElem?_take, if_pos hi, List.getElem?_drop]
theorem flat_get (hpos : 0 < sz) (hk : ∀ x, (Segs.cells (f x)).length = sz) {l : List α} (hl : lens sz (l.map f)) {t : Nat} (ht : t < l.length * sz) :
    (rowsCells (l.map f))[t]? = some ((flatK (fun x => Segs.cells (f x)) sz l.toArray)[t]!) := by
  have hj : t / sz < l.length := (Nat.div_lt_iff_lt_mul hpos).2 ht
  have hm := Nat.mod_lt t hpos
  have h := rowsCells_get hl (j := t / sz) (i := t % sz) (r := f l[t / sz]) (by rw [List.getElem?_map, List.getElem?_eq_getElem hj]; rfl) hm
  rw [Nat.div_add_mod'] at h
  rw [h, get_flatK _ _ _ _ (by simpa using ht)]
  have e : l.toArray[t / sz]! = l[t / sz] := by rw [getElem!_pos _ _ (by simpa using hj)]; simp
  rw [e, List.getElem?_eq_getElem (by rw [hk]; exact hm)]
  congr 1
  rw [getElem!_pos _ _ (by rw [hk]; exact hm)]
theorem st_sorted {M : Mem} {H : Hp} {w : World} {b T : Nat} {cur F : Array Value} (hw : St M ((b, .cells cur T (0, 0)) :: H) w) (n : Nat) (os : Array Obj) :
    St M ((b, .cells (putCells id 0 F cur) T (0, 0)) :: H) (grow (putRow id (Sort.ahead w n) b 0 F) os) := by
  have hb := hw.own b _ (.head _)
  have hlt := (Array.getElem?_eq_some_iff.1 hb).1
  refine hw.upd .head ?_ (fun c hc x hx => ?_) ⟨rfl, rfl, rfl, Nat.le_add_right _ _⟩
  · show ((w.heap.modify b _) ++ os)[b]? = _
    rw [Array.getElem?_append_left (by simpa using hlt), Array.getElem?_modify, if_pos rfl, hb]
    rfl
  · show ((w.heap.modify b _) ++ os)[c]? = _
    have hcl := (Array.getElem?_eq_some_iff.1 hx).1
    rw [Array.getElem?_append_left (by simpa using hcl), Array.getElem?_modify, if_neg (Ne.symm hc), hx]

theorem sort_fh {P : Program} {ρ : Ren} (L : SlLaysF0.n6 P ρ) (aE : ∀ w, (isAgg (ρ.t 24)).run P w = .ok true w) (zE : ∀ w, (Go.sizeOf (ρ.t 24)).run P w = .ok sz w) (hpos : 0 < sz) (hk : ∀ x, (Segs.cells (f x)).length = sz)
    (h1 : ∀ x, ∀ v ∈ Segs.cells (f x), v.oneCell' = true) (cf : α → α → Int) (hO : SWO (ltOf cf)) (g : FuncId) (hg : okFn P g = true) (hc : ∀ M x y, Fs P g [aggV (f x), aggV (f y)] M (fun v => v = .int .i64 (cf x y)))
    {T b c : Nat} {l : List α} {hs : Hp} (ho : OSl T sz (.slice (some ⟨b, 0, none⟩) l.length c) hs (l.map f)) (hl : l.length ≤ 1000000) (M : Mem) :
    Fh P (ρ.f 6) [.slice (some ⟨b, 0, none⟩) l.length c, .func (.func g) #[] #[]] M hs (fun M' v Hout => M' = M ∧ v = .tuple #[] ∧ ∃ l' : List α, l'.Perm l ∧ l'.Pairwise (fun x y => ¬ cf y x < 0) ∧ OSl T sz (.slice (some ⟨b, 0, none⟩) l.length c) Hout (l'.map f)) := by
  obtain ⟨cur, rfl, hl0, hlens, hle, hcm, hcs, htk⟩ := ho.inv
  have hml : (l.map f).length = l.length := List.length_map ..
  rw [hml] at hle htk
  intro H w hw
  have hb := hw.own b _ (.head _)
  have hlt := (Array.getElem?_eq_some_iff.1 hb).1
  have hsz : l.length * sz ≤ cur.size := by rw [hcs]; exact Nat.mul_le_mul_right _ hle
  have hH : HoldsK (fun x => Segs.cells (f x)) sz w b 0 l.toArray := by
    intro j hj
    have hj' : j < l.length * sz := by simpa using hj
    refine ⟨?_, ?_⟩
    · unfold World.cell?
      simp only [hb, Option.isSome_none, Bool.false_eq_true, if_false, Nat.zero_add, id]
      rw [← flat_get hpos hk hlens hj', ← htk, List.getElem?_take, if_pos hj']
      simp
    · unfold World.frozen?
      simp only [hb]
      simp
  have hcl : CmpLays P g #[] (fun x => Segs.cells (f x)) sz cf b 0 l.toArray.size w := fun m os dk _ x y => lays_of_fs (fun M => hc M x y) _
  have key := AnyQ.slices_SortFunc L sz aE zE (fun x => Segs.cells (f x)) hk h1 cf hO g #[] b 0 c l.toArray w (fun args w => callFunc_run hg) hcl hH hlt (by simp; omega)
  rw [show l.toArray.size = l.length from by simp] at key
  refine key.mono ?_
  rintro e w' ⟨rfl, d', n, os, ⟨hp1, _, hp3⟩, hs1, rfl⟩
  have hd : d'.size = l.length := by simpa using hp1
  have hst := st_sorted (F := flatK (fun x => Segs.cells (f x)) sz d') hw n os
  have hperm : d'.toList.Perm l := by
    have h9 := hp3
    rw [show d'.extract 0 l.length = d' from by rw [← hd]; simp, show l.toArray.extract 0 l.length = l.toArray from by rw [show l.length = l.toArray.size from by simp]; simp] at h9
    simpa using h9
  have hlens' : lens sz (d'.toList.map f) := fun r hr => by
    obtain ⟨x, hx, rfl⟩ := List.mem_map.1 hr
    rw [← Segs.cells_length]; exact hk x
  refine ⟨_, M, [(b, .cells (putCells id 0 (flatK (fun x => Segs.cells (f x)) sz d') cur) T (0, 0))], rfl, Mem.le.refl M, hst, rfl, rfl, d'.toList, hperm, ?_, ?_⟩
  · rw [List.pairwise_iff_getElem]
    intro i j hi hj hij
    have h9 := hs1 i j (Nat.zero_le _) hij (by rw [← hd]; simpa using hj)
    rw [getElem!_pos _ _ (by simpa using hj), getElem!_pos _ _ (by simpa using hi)] at h9
    unfold ltOf at h9
    simpa using h9
  · have hln : (d'.toList.map f).length = l.length := by simpa using hd
    have := OSl.own (T := T) b c (d'.toList.map f) (putCells id 0 (flatK (fun x => Segs.cells (f x)) sz d') cur) hlens' (by rw [hln]; exact hle) hcm (by simpa [putCells] using hcs) ?_
    · rw [hln] at this; exact this
    · apply List.ext_getElem?
      intro t
      rw [List.getElem?_take]
      by_cases ht : t < (d'.toList.map f).length * sz
      · rw [if_pos ht]
        have ht' : t < d'.toList.length * sz := by simpa using ht
        rw [flat_get hpos hk hlens' ht']
        have htc : t < cur.size := by rw [hln] at ht; omega
        simp only [putCells, Array.getElem?_toList, Array.getElem?_mapIdx, Array.getElem?_eq_getElem htc, Option.map_some]
        rw [if_pos ⟨Nat.zero_le _, by simpa using ht⟩]
        simp
      · rw [if_neg ht, List.getElem?_eq_none]
        rw [rowsCells_len hlens']; omega
end
end Go.Esp
/-
  Circles of addresses.
-/
set_option linter.unusedSimpArgs false
set_option linter.unusedVariables false
set_option linter.unnecessarySimpa false
set_option maxRecDepth 8000
set_option maxHeartbeats 1000000
namespace Go.Proofs.YtbafnjniijodfaaDoor
open Go.Esp
theorem F.ok33 : okFn Tryd.prog 33 = true := by kernel_rfl

def lessF (a b : PeerV) : Int := if a = b then 0 else if LessP a.id b.id then -1 else 1

theorem less_ok (M : Mem) (a : PeerV) (b : PeerV) : Fs Tryd.prog 33 [a.enc, b.enc] M (fun v => v = Value.int .i64 (lessF a b)) := by
  obtain ⟨a_addr, a_id⟩ := a
  obtain ⟨b_addr, b_id⟩ := b
  refine fs_enter Tryd.func33 rfl Tryd.ntmps33 rfl ?_; intro H
  refine C_seq ?_
  refine C_region (l := [0, 1, 2]) rfl ?_
  refine X_box rfl rfl rfl (by constructor) rfl ?_; intro b1
  refine X_box rfl rfl rfl (by constructor) rfl ?_; intro b2
  refine X_assign rfl rfl rfl rfl ?_
  refine XD_end ?_
  refine K_then ?_
  refine C_pick (.cons (k := 4) rfl (.cons (k := 3) rfl (.cons (k := 2) rfl .nil))) ?_
  refine C_seq ?_
  refine C_block ?_
  refine C_seq ?_
  refine C_region (l := [0, 1, 2, 3]) rfl ?_
  first | refine X_load rfl rfl rfl (by repeat first | exact List.Mem.head _ | refine List.Mem.tail _ ?_ | refine List.mem_append_right _ ?_) F.lay38 rfl rfl rfl ?_ | refine X_load_el rfl rfl rfl (by first | assumption | exact SlM.mono (by assumption) (by assumption)) (by first | exact row_map (by omega) | exact List.getElem?_eq_getElem (by omega) | exact rfl | exact row_map (by first | (simp; done) | (simp; omega))) F.lay38 rfl rfl rfl ?_ | refine X_load_rd rfl rfl rfl (by assumption) (by first | exact row_map (by omega) | exact List.getElem?_eq_getElem (by omega) | exact rfl | exact row_map (by first | (simp; done) | (simp; omega))) F.lay38 rfl rfl rfl ?_ | refine X_load_mem rfl rfl rfl (by first | assumption | exact Mem.get_of (by assumption) (by repeat first | assumption | refine Mem.le.trans (by assumption) ?_)) F.lay38 rfl rfl rfl ?_ | refine X_load_osl rfl rfl rfl (by assumption) (by repeat first | exact Rem.here _ | exact Rem.two | apply Rem.skip | apply Rem.over) (by first | exact row_map (by omega) | exact List.getElem?_eq_getElem (by omega) | exact rfl | exact row_map (by first | (simp; done) | (simp; omega))) F.lay38 rfl rfl rfl ?_
  first | refine X_load rfl rfl rfl (by repeat first | exact List.Mem.head _ | refine List.Mem.tail _ ?_ | refine List.mem_append_right _ ?_) F.lay38 rfl rfl rfl ?_ | refine X_load_el rfl rfl rfl (by first | assumption | exact SlM.mono (by assumption) (by assumption)) (by first | exact row_map (by omega) | exact List.getElem?_eq_getElem (by omega) | exact rfl | exact row_map (by first | (simp; done) | (simp; omega))) F.lay38 rfl rfl rfl ?_ | refine X_load_rd rfl rfl rfl (by assumption) (by first | exact row_map (by omega) | exact List.getElem?_eq_getElem (by omega) | exact rfl | exact row_map (by first | (simp; done) | (simp; omega))) F.lay38 rfl rfl rfl ?_ | refine X_load_mem rfl rfl rfl (by first | assumption | exact Mem.get_of (by assumption) (by repeat first | assumption | refine Mem.le.trans (by assumption) ?_)) F.lay38 rfl rfl rfl ?_ | refine X_load_osl rfl rfl rfl (by assumption) (by repeat first | exact Rem.here _ | exact Rem.two | apply Rem.skip | apply Rem.over) (by first | exact row_map (by omega) | exact List.getElem?_eq_getElem (by omega) | exact rfl | exact row_map (by first | (simp; done) | (simp; omega))) F.lay38 rfl rfl rfl ?_
  refine X_same (m := 20) rfl rfl rfl rfl rfl (by constructor) (by constructor) F.lay38 F.kinds38 rfl F.guard38 (by first | exact FitPeerV _ | exact FitPeerV (⟨_, _⟩) | (repeat first | exact trivial | exact rfl | refine And.intro ?_ ?_ | refine idFits _ ?_)) (by first | exact FitPeerV _ | exact FitPeerV (⟨_, _⟩) | (repeat first | exact trivial | exact rfl | refine And.intro ?_ ?_ | refine idFits _ ?_)) rfl rfl rfl ?_; intro c3 he4
  replace he4 : c3 = true ↔ Segs.cells _ = Segs.cells _ := he4
  obtain rfl := eqD he4 (PeerV.inj (x := ⟨_, _⟩) (y := ⟨_, _⟩)); clear he4
  refine X_assign rfl rfl rfl rfl ?_
  refine XD_end ?_
  refine K_then ?_
  refine C_pick (.cons (k := 5) rfl (.cons (k := 4) rfl (.cons (k := 3) rfl (.cons (k := 2) rfl .nil)))) ?_
  refine C_cond rfl (fun hc5 => ?_) (fun hc5 => ?_)
  · first | replace hc5 := dT hc5 | replace hc5 := dF hc5 | replace hc5 := nT hc5 | replace hc5 := nF hc5 | skip
    try simp only [PeerV.eta] at hc5
    first
    | (exfalso; omega)
    | (exfalso; simp [eqX] at hc5; done)
    | contradiction
    | skip
      refine C_seq ?_
      refine C_region (l := [0]) rfl ?_
      refine X_assign rfl rfl rfl rfl ?_
      refine XD_end ?_
      refine K_then ?_
      refine C_pick (.cons (k := 4) rfl .nil) ?_
      refine C_ret ?_
      refine K_retB ?_
      refine K_ret ?_
      refine K_end (.inr rfl) (.tmp rfl .nil) (fun w hw => ?_)
      refine ⟨_, rfl, (hw.cnt (by intro zz; first | exact Nat.le_refl _ | (simp only [cnt_app, cnt_cons, cnt_nil, cat, List.append_eq, List.append_assoc, List.cons_append, List.nil_append, List.append_nil]; omega) | (simp only [cnt_app, cnt_cons, cnt_nil, cat, List.append_eq, List.append_assoc, List.cons_append, List.nil_append, List.append_nil, PeerV.segs]; omega))), ?_⟩
      clear hw
      refine congrArg (Value.int .i64) ?_
      unfold lessF
      simp_all
  · first | replace hc5 := dT hc5 | replace hc5 := dF hc5 | replace hc5 := nT hc5 | replace hc5 := nF hc5 | skip
    try simp only [PeerV.eta] at hc5
    first
    | (exfalso; omega)
    | (exfalso; simp [eqX] at hc5; done)
    | contradiction
    | skip
      refine C_seq ?_
      refine C_region (l := [0, 1, 2, 3, 4, 5]) rfl ?_
      first | refine X_fieldAddr rfl rfl rfl F.foff38_1 rfl ?_ | refine X_fieldAddr_el rfl rfl rfl (by first | exact ⟨_, _, rfl⟩ | assumption | exact SlM.plain (by assumption) (by first | (simp; done) | (simp; omega)) | exact RdS.plain (by assumption) (by first | (simp; done) | (simp; omega)) | exact OSl.plain (by assumption) (by first | (simp; done) | (simp; omega))) F.foff38_1 rfl ?_
      first | refine X_load rfl rfl rfl (by repeat first | exact List.Mem.head _ | refine List.Mem.tail _ ?_ | refine List.mem_append_right _ ?_) F.lay32 rfl rfl rfl ?_ | refine X_load_el rfl rfl rfl (by first | assumption | exact SlM.mono (by assumption) (by assumption)) (by first | exact row_map (by omega) | exact List.getElem?_eq_getElem (by omega) | exact rfl | exact row_map (by first | (simp; done) | (simp; omega))) F.lay32 rfl rfl rfl ?_ | refine X_load_rd rfl rfl rfl (by assumption) (by first | exact row_map (by omega) | exact List.getElem?_eq_getElem (by omega) | exact rfl | exact row_map (by first | (simp; done) | (simp; omega))) F.lay32 rfl rfl rfl ?_ | refine X_load_mem rfl rfl rfl (by first | assumption | exact Mem.get_of (by assumption) (by repeat first | assumption | refine Mem.le.trans (by assumption) ?_)) F.lay32 rfl rfl rfl ?_ | refine X_load_osl rfl rfl rfl (by assumption) (by repeat first | exact Rem.here _ | exact Rem.two | apply Rem.skip | apply Rem.over) (by first | exact row_map (by omega) | exact List.getElem?_eq_getElem (by omega) | exact rfl | exact row_map (by first | (simp; done) | (simp; omega))) F.lay32 rfl rfl rfl ?_
      first | refine X_fieldAddr rfl rfl rfl F.foff38_1 rfl ?_ | refine X_fieldAddr_el rfl rfl rfl (by first | exact ⟨_, _, rfl⟩ | assumption | exact SlM.plain (by assumption) (by first | (simp; done) | (simp; omega)) | exact RdS.plain (by assumption) (by first | (simp; done) | (simp; omega)) | exact OSl.plain (by assumption) (by first | (simp; done) | (simp; omega))) F.foff38_1 rfl ?_
      first | refine X_load rfl rfl rfl (by repeat first | exact List.Mem.head _ | refine List.Mem.tail _ ?_ | refine List.mem_append_right _ ?_) F.lay32 rfl rfl rfl ?_ | refine X_load_el rfl rfl rfl (by first | assumption | exact SlM.mono (by assumption) (by assumption)) (by first | exact row_map (by omega) | exact List.getElem?_eq_getElem (by omega) | exact rfl | exact row_map (by first | (simp; done) | (simp; omega))) F.lay32 rfl rfl rfl ?_ | refine X_load_rd rfl rfl rfl (by assumption) (by first | exact row_map (by omega) | exact List.getElem?_eq_getElem (by omega) | exact rfl | exact row_map (by first | (simp; done) | (simp; omega))) F.lay32 rfl rfl rfl ?_ | refine X_load_mem rfl rfl rfl (by first | assumption | exact Mem.get_of (by assumption) (by repeat first | assumption | refine Mem.le.trans (by assumption) ?_)) F.lay32 rfl rfl rfl ?_ | refine X_load_osl rfl rfl rfl (by assumption) (by repeat first | exact Rem.here _ | exact Rem.two | apply Rem.skip | apply Rem.over) (by first | exact row_map (by omega) | exact List.getElem?_eq_getElem (by omega) | exact rfl | exact row_map (by first | (simp; done) | (simp; omega))) F.lay32 rfl rfl rfl ?_
      refine X_fs rfl rfl F.ok27 rfl (Less_ok _ _ _) rfl ?_
      rintro _ rfl
      refine X_assign rfl rfl rfl rfl ?_
      refine XD_end ?_
      refine K_then ?_
      refine C_pick (.cons (k := 9) rfl (.cons (k := 4) rfl .nil)) ?_
      refine C_cond rfl (fun hc6 => ?_) (fun hc6 => ?_)
      · first | replace hc6 := dT hc6 | replace hc6 := dF hc6 | replace hc6 := nT hc6 | replace hc6 := nF hc6 | skip
        try simp only [PeerV.eta] at hc6
        first
        | (exfalso; omega)
        | (exfalso; simp [eqX] at hc6; done)
        | contradiction
        | skip
          refine C_seq ?_
          refine C_region (l := [0]) rfl ?_
          refine X_assign rfl rfl rfl rfl ?_
          refine XD_end ?_
          refine K_then ?_
          refine C_pick (.cons (k := 4) rfl .nil) ?_
          refine C_ret ?_
          refine K_retB ?_
          refine K_ret ?_
          refine K_end (.inr rfl) (.tmp rfl .nil) (fun w hw => ?_)
          refine ⟨_, rfl, (hw.cnt (by intro zz; first | exact Nat.le_refl _ | (simp only [cnt_app, cnt_cons, cnt_nil, cat, List.append_eq, List.append_assoc, List.cons_append, List.nil_append, List.append_nil]; omega) | (simp only [cnt_app, cnt_cons, cnt_nil, cat, List.append_eq, List.append_assoc, List.cons_append, List.nil_append, List.append_nil, PeerV.segs]; omega))), ?_⟩
          clear hw
          refine congrArg (Value.int .i64) ?_
          unfold lessF
          simp_all
      · first | replace hc6 := dT hc6 | replace hc6 := dF hc6 | replace hc6 := nT hc6 | replace hc6 := nF hc6 | skip
        try simp only [PeerV.eta] at hc6
        first
        | (exfalso; omega)
        | (exfalso; simp [eqX] at hc6; done)
        | contradiction
        | skip
          refine C_skip ?_
          refine K_out ?_
          refine K_then ?_
          refine C_pick (.cons (k := 4) rfl .nil) ?_
          refine C_seq ?_
          refine C_region (l := [0]) rfl ?_
          refine X_assign rfl rfl rfl rfl ?_
          refine XD_end ?_
          refine K_then ?_
          refine C_ret ?_
          refine K_end (.inr rfl) (.tmp rfl .nil) (fun w hw => ?_)
          refine ⟨_, rfl, (hw.cnt (by intro zz; first | exact Nat.le_refl _ | (simp only [cnt_app, cnt_cons, cnt_nil, cat, List.append_eq, List.append_assoc, List.cons_append, List.nil_append, List.append_nil]; omega) | (simp only [cnt_app, cnt_cons, cnt_nil, cat, List.append_eq, List.append_assoc, List.cons_append, List.nil_append, List.append_nil, PeerV.segs]; omega))), ?_⟩
          clear hw
          refine congrArg (Value.int .i64) ?_
          unfold lessF
          simp_all

theorem less_swo : Sort.SWO (ltOf lessF) := by
  have e : ∀ x y : PeerV, ltOf lessF x y = decide (LessP x.id y.id) := by
    intro x y; unfold ltOf lessF
    by_cases h0 : x = y
    · subst h0; simp [LessP]
    · by_cases h : LessP x.id y.id <;> simp [h, h0]
  exact ⟨fun x => by rw [e]; simp [LessP], fun x y z h1 h2 => by rw [e] at h1 h2 ⊢; exact decide_eq_true (Nat.lt_trans (of_decide_eq_true h1) (of_decide_eq_true h2)), fun x y z h1 h2 => by rw [e] at h1 h2 ⊢; exact decide_eq_false (Nat.not_lt.2 (Nat.le_trans (Nat.not_lt.1 (of_decide_eq_false h2)) (Nat.not_lt.1 (of_decide_eq_false h1))))⟩

instance : Inhabited PeerV := ⟨⟨0, 0⟩⟩
theorem SortC_ok (M : Mem) (b c : Nat) (l : List PeerV) (hs : Hp) (ho : OSl 38 21 (.slice (some ⟨b, 0, none⟩) l.length c) hs (l.map PeerV.segs)) (hl : l.length ≤ 1000000) : Fh Tryd.prog 32 [.slice (some ⟨b, 0, none⟩) l.length c, .func (.func 33) #[] #[]] M hs (fun M' v Hout => M' = M ∧ v = .tuple #[] ∧ ∃ l' : List PeerV, l'.Perm l ∧ l'.Pairwise (fun x y => ¬ lessF y x < 0) ∧ OSl 38 21 (.slice (some ⟨b, 0, none⟩) l.length c) Hout (l'.map PeerV.segs)) :=
  sort_fh (f := PeerV.segs) (sz := 21) Tryd.sortL Tryd.isAgg38 Tryd.sizeOf38 (by decide) (fun x => (Segs.cells_length _).trans (PeerV.len x)) (fun x => PeerV.flat x) lessF less_swo 33 F.ok33 (fun M x y => less_ok M x y) ho hl M

end Go.Proofs.YtbafnjniijodfaaDoor
/-
  Addresses that are odd.
-/
set_option linter.unusedSimpArgs false
set_option linter.unusedVariables false
set_option linter.unnecessarySimpa false
set_option maxRecDepth 8000
set_option maxHeartbeats 1000000
namespace Go.Proofs.YtbafnjniijodfaaDoor
open Go.Esp
theorem F.ok28 : okFn Tryd.prog 28 = true := by kernel_rfl
theorem F.ok45 : okFn Tryd.prog 45 = true := by kernel_rfl

def OddA (z : Int) : Prop := z < 0 ∨ 999 < z
instance (z : Int) : Decidable (OddA z) := by unfold OddA; exact inferInstance

theorem odd_ok (M : Mem) (addr : Int) : Fs Tryd.prog 28 [.int .i64 addr] M (fun v => v = Value.bool (decide (OddA addr))) := by
  refine fs_enter Tryd.func28 rfl Tryd.ntmps28 rfl ?_; intro H
  refine C_seq ?_
  refine C_region (l := [0]) rfl ?_
  refine X_assign rfl rfl rfl rfl ?_
  refine XD_end ?_
  refine K_then ?_
  refine C_seq ?_
  refine C_region (l := [0, 1, 2, 3, 4, 5, 6]) rfl ?_
  refine X_move rfl rfl rfl rfl ?_
  refine X_cmp rfl rfl rfl rfl rfl rfl ?_
  refine X_move rfl rfl rfl rfl ?_
  refine XD_part 5 rfl (fun hc1 => ?_) (fun hc1 => ?_)
  · first | replace hc1 := dT hc1 | replace hc1 := dF hc1 | replace hc1 := nT hc1 | replace hc1 := nF hc1 | skip
    try simp only [PeerV.eta] at hc1
    first
    | (exfalso; omega)
    | (exfalso; simp [eqX] at hc1; done)
    | contradiction
    | skip
      refine X_skip rfl rfl rfl ?_
      refine X_skip rfl rfl rfl ?_
      refine X_pick rfl rfl rfl rfl rfl ?_
      refine X_assign rfl rfl rfl rfl ?_
      refine XD_end ?_
      refine K_then ?_
      refine C_pick (.cons (k := 2) rfl .nil) ?_
      refine C_ret ?_
      refine K_end (.inr rfl) (.tmp rfl .nil) (fun w hw => ?_)
      refine ⟨_, rfl, (hw.cnt (by intro zz; first | exact Nat.le_refl _ | (simp only [cnt_app, cnt_cons, cnt_nil, cat, List.append_eq, List.append_assoc, List.cons_append, List.nil_append, List.append_nil]; omega) | (simp only [cnt_app, cnt_cons, cnt_nil, cat, List.append_eq, List.append_assoc, List.cons_append, List.nil_append, List.append_nil, PeerV.segs]; omega))), ?_⟩
      clear hw
      refine congrArg Value.bool ?_
      first | exact (decide_eq_true (by unfold OddA; omega)).symm | exact decide_eq_decide.2 (by unfold OddA; omega)
  · first | replace hc1 := dT hc1 | replace hc1 := dF hc1 | replace hc1 := nT hc1 | replace hc1 := nF hc1 | skip
    try simp only [PeerV.eta] at hc1
    first
    | (exfalso; omega)
    | (exfalso; simp [eqX] at hc1; done)
    | contradiction
    | skip
      refine X_move rfl rfl rfl rfl ?_
      refine X_cmp rfl rfl rfl rfl rfl rfl ?_
      refine X_pick rfl rfl rfl rfl rfl ?_
      refine X_assign rfl rfl rfl rfl ?_
      refine XD_end ?_
      refine K_then ?_
      refine C_pick (.cons (k := 2) rfl .nil) ?_
      refine C_ret ?_
      refine K_end (.inr rfl) (.tmp rfl .nil) (fun w hw => ?_)
      refine ⟨_, rfl, (hw.cnt (by intro zz; first | exact Nat.le_refl _ | (simp only [cnt_app, cnt_cons, cnt_nil, cat, List.append_eq, List.append_assoc, List.cons_append, List.nil_append, List.append_nil]; omega) | (simp only [cnt_app, cnt_cons, cnt_nil, cat, List.append_eq, List.append_assoc, List.cons_append, List.nil_append, List.append_nil, PeerV.segs]; omega))), ?_⟩
      clear hw
      refine congrArg Value.bool ?_
      first | exact (decide_eq_true (by unfold OddA; omega)).symm | exact decide_eq_decide.2 (by unfold OddA; omega)

theorem IndexOdd_ok (M : Mem) (l : (Sl Int))  (hl0 : SlK M (oneI .i64) 1 l) : Fs Tryd.prog 45 [Sl.val l, .func (.func 28) #[] #[]] M (fun v => ∃ z : Int, v = .int .i64 z ∧ (0 ≤ z ↔ ∃ a ∈ l.l, OddA a)) := by
  obtain ⟨l_a, l_c, l_l⟩ := l
  have k_l : SlK M (oneI .i64) 1 ⟨l_a, l_c, l_l⟩ := hl0
  have s_l : SlM M l_a (l_l.map (oneI .i64)) 1 := k_l.h1
  have n_l : (l_l.map (oneI .i64)).length = l_l.length := List.length_map ..
  have m_l : l_l.length ≤ 9223372036854775807 := k_l.h2
  have c_l : l_l.length ≤ l_c := k_l.h3
  refine fs_enter Tryd.func45 rfl Tryd.ntmps45 rfl ?_; intro H
  refine C_seq ?_
  refine C_region (l := [0]) rfl ?_
  refine X_assign rfl rfl rfl rfl ?_
  refine XD_end ?_
  refine K_then ?_
  refine C_seq ?_
  refine C_seq ?_
  refine C_region (l := [0, 1, 2]) rfl ?_
  refine X_move rfl rfl rfl rfl ?_
  refine X_len_sl rfl rfl rfl rfl F.elem22 rfl ?_
  refine X_move rfl rfl rfl rfl ?_
  refine XD_end ?_
  refine K_then ?_
  refine C_pick (.cons (k := 8) rfl (.cons (k := 7) rfl (.cons (k := 4) rfl (.cons (k := 0) rfl (.cons (k := 1) rfl .nil))))) ?_
  refine C_block ?_
  refine C_pick (.cons (k := 8) rfl (.cons (k := 7) rfl (.cons (k := 4) rfl (.cons (k := 0) rfl (.cons (k := 1) rfl .nil))))) ?_
  refine C_loopS (.succ .zero) (fun (k : Nat) z => z = [(8, .int .i64 (k : Int))] ∧ k ≤ l_l.length ∧ (∀ j (hj : j < l_l.length), j < k → ¬ OddA l_l[j])) (fun k => l_l.length - k) (0) (⟨rfl, by omega, by (intro j h2 hj; omega)⟩) ?_
  rintro k _ ⟨rfl, hk, hI⟩
  refine C_seq ?_
  refine C_region (l := [0]) rfl ?_
  refine X_cmp rfl rfl rfl rfl rfl rfl ?_
  refine XD_end ?_
  refine K_then ?_
  refine C_seq ?_
  refine C_cond rfl (fun hc1 => ?_) (fun hc1 => ?_)
  · first | replace hc1 := dT hc1 | replace hc1 := dF hc1 | replace hc1 := nT hc1 | replace hc1 := nF hc1 | skip
    try simp only [PeerV.eta] at hc1
    first
    | (exfalso; omega)
    | (exfalso; simp [eqX] at hc1; done)
    | contradiction
    | skip
      refine C_skip ?_
      refine K_then ?_
      refine C_seq ?_
      refine C_block ?_
      refine C_seq ?_
      refine C_region (l := [0, 1]) rfl ?_
      refine X_move rfl rfl rfl rfl ?_
      refine X_assign rfl rfl rfl rfl ?_
      refine XD_end ?_
      refine K_then ?_
      refine C_seq ?_
      refine C_region (l := [0, 1, 2, 3, 4, 5]) rfl ?_
      refine X_move rfl rfl rfl rfl ?_
      refine X_move rfl rfl rfl rfl ?_
      refine X_move rfl rfl rfl rfl ?_
      refine X_indexAddr rfl rfl rfl rfl F.elem22 (by first | rfl | exact (Int.toNat_of_nonneg (by omega)).symm) (by first | omega | (simp; done) | (simp; omega)) (by first | exact ⟨_, _, rfl⟩ | assumption | exact SlM.plain (by assumption) (by first | (simp; done) | (simp; omega)) | exact RdS.plain (by assumption) (by first | (simp; done) | (simp; omega)) | exact OSl.plain (by assumption) (by first | (simp; done) | (simp; omega))) rfl ?_
      first | refine X_load rfl rfl rfl (by repeat first | exact List.Mem.head _ | refine List.Mem.tail _ ?_ | refine List.mem_append_right _ ?_) F.lay3 rfl rfl rfl ?_ | refine X_load_el rfl rfl rfl (by first | assumption | exact SlM.mono (by assumption) (by assumption)) (by first | exact row_map (by omega) | exact List.getElem?_eq_getElem (by omega) | exact rfl | exact row_map (by first | (simp; done) | (simp; omega))) F.lay3 rfl rfl rfl ?_ | refine X_load_rd rfl rfl rfl (by assumption) (by first | exact row_map (by omega) | exact List.getElem?_eq_getElem (by omega) | exact rfl | exact row_map (by first | (simp; done) | (simp; omega))) F.lay3 rfl rfl rfl ?_ | refine X_load_mem rfl rfl rfl (by first | assumption | exact Mem.get_of (by assumption) (by repeat first | assumption | refine Mem.le.trans (by assumption) ?_)) F.lay3 rfl rfl rfl ?_ | refine X_load_osl rfl rfl rfl (by assumption) (by repeat first | exact Rem.here _ | exact Rem.two | apply Rem.skip | apply Rem.over) (by first | exact row_map (by omega) | exact List.getElem?_eq_getElem (by omega) | exact rfl | exact row_map (by first | (simp; done) | (simp; omega))) F.lay3 rfl rfl rfl ?_ | refine X_load_cell rfl rfl rfl (by repeat first | exact List.Mem.head _ | refine List.Mem.tail _ ?_ | refine List.mem_append_right _ ?_) F.lay3 (by first | exact id_at (by first | omega | decide) | exact arr_at (by first | omega | decide)) rfl ?_
      refine X_fsV rfl rfl rfl F.ok28 rfl rfl (odd_ok M _) rfl ?_
      rintro _ rfl
      refine XD_end ?_
      refine K_then ?_
      refine C_cond rfl (fun hc2 => ?_) (fun hc2 => ?_)
      · first | replace hc2 := dT hc2 | replace hc2 := dF hc2 | replace hc2 := nT hc2 | replace hc2 := nF hc2 | skip
        try simp only [PeerV.eta] at hc2
        first
        | (exfalso; omega)
        | (exfalso; simp [eqX] at hc2; done)
        | contradiction
        | skip
          refine C_seq ?_
          refine C_region (l := [0, 1]) rfl ?_
          refine X_move rfl rfl rfl rfl ?_
          refine X_assign rfl rfl rfl rfl ?_
          refine XD_end ?_
          refine K_then ?_
          refine C_ret ?_
          refine K_retB ?_
          refine K_ret ?_
          refine K_ret ?_
          refine K_retB ?_
          refine K_ret ?_
          refine K_end (.inr rfl) (.tmp rfl .nil) (fun w hw => ?_)
          refine ⟨_, rfl, hw.cnt (by intro zz; first | exact Nat.le_refl _ | (simp only [cnt_app, cnt_cons, cnt_nil, cat, List.append_eq, List.append_assoc, List.cons_append, List.nil_append, List.append_nil]; omega) | (simp only [cnt_app, cnt_cons, cnt_nil, cat, List.append_eq, List.append_assoc, List.cons_append, List.nil_append, List.append_nil, PeerV.segs]; omega)), _, rfl, ?_⟩
          show _ ↔ ∃ a ∈ l_l, OddA a
          first | exact ⟨fun _ => ⟨l_l[k]'(by omega), List.getElem_mem (by omega), by first | assumption | simp_all⟩, fun _ => by omega⟩ | exact ⟨fun h9 => by omega, fun ⟨x9, h8, h9⟩ => by obtain ⟨j, hj, rfl⟩ := List.getElem_of_mem h8; exact absurd h9 (hI j (show j < l_l.length from hj) (by have : j < l_l.length := hj; omega))⟩
      · first | replace hc2 := dT hc2 | replace hc2 := dF hc2 | replace hc2 := nT hc2 | replace hc2 := nF hc2 | skip
        try simp only [PeerV.eta] at hc2
        first
        | (exfalso; omega)
        | (exfalso; simp [eqX] at hc2; done)
        | contradiction
        | skip
          refine C_skip ?_
          refine K_out ?_
          refine K_then ?_
          refine C_region (l := [0, 1]) rfl ?_
          refine X_ari rfl rfl rfl rfl rfl (by first | exact wrap_in (by decide) (by omega) | exact wrap_u64_in (by decide) (by omega) | exact wrap_u8_in (by decide) (by omega) | exact wrap_u32_in (by decide) (by omega) | exact wrap_u64 _ | exact wrap_u8 _ | exact wrap_u32 _ | exact rfl) rfl ?_
          refine X_move rfl rfl rfl rfl ?_
          refine XD_end ?_
          refine K_roundS (a' := [(8, _)]) (k + 1) (.cons (k := 8) rfl (.cons (k := 7) rfl (.cons (k := 4) rfl (.cons (k := 0) rfl (.cons (k := 1) rfl (.nil)))))) (fun w hw => by first | exact hw | exact hw.cnt (by intro zz; first | exact Nat.le_refl _ | (simp only [cnt_app, cnt_cons, cnt_nil, cat, List.append_eq, List.append_assoc, List.cons_append, List.nil_append, List.append_nil]; omega) | (simp only [cnt_app, cnt_cons, cnt_nil, cat, List.append_eq, List.append_assoc, List.cons_append, List.nil_append, List.append_nil, PeerV.segs]; omega))) ?_ ?_
          · refine ⟨rfl, by omega, ?_⟩
            (intro j h2 hj; rcases Nat.lt_or_ge j k with h9 | h9; exact hI j h2 h9; obtain rfl : j = k := (by omega); simp_all)
          · omega
  · first | replace hc1 := dT hc1 | replace hc1 := dF hc1 | replace hc1 := nT hc1 | replace hc1 := nF hc1 | skip
    try simp only [PeerV.eta] at hc1
    first
    | (exfalso; omega)
    | (exfalso; simp [eqX] at hc1; done)
    | contradiction
    | skip
      refine C_exit ?_
      refine K_exit ?_
      refine K_exit ?_
      refine K_hit ?_
      refine K_then ?_
      refine C_pick (.cons (k := 4) rfl .nil) ?_
      refine C_seq ?_
      refine C_region (l := [0]) rfl ?_
      refine X_assign rfl rfl rfl rfl ?_
      refine XD_end ?_
      refine K_then ?_
      refine C_ret ?_
      refine K_end (.inr rfl) (.tmp rfl .nil) (fun w hw => ?_)
      refine ⟨_, rfl, hw.cnt (by intro zz; first | exact Nat.le_refl _ | (simp only [cnt_app, cnt_cons, cnt_nil, cat, List.append_eq, List.append_assoc, List.cons_append, List.nil_append, List.append_nil]; omega) | (simp only [cnt_app, cnt_cons, cnt_nil, cat, List.append_eq, List.append_assoc, List.cons_append, List.nil_append, List.append_nil, PeerV.segs]; omega)), _, rfl, ?_⟩
      show _ ↔ ∃ a ∈ l_l, OddA a
      first | exact ⟨fun _ => ⟨l_l[k]'(by omega), List.getElem_mem (by omega), by first | assumption | simp_all⟩, fun _ => by omega⟩ | exact ⟨fun h9 => by omega, fun ⟨x9, h8, h9⟩ => by obtain ⟨j, hj, rfl⟩ := List.getElem_of_mem h8; exact absurd h9 (hI j (show j < l_l.length from hj) (by have : j < l_l.length := hj; omega))⟩

theorem ContainsOdd_ok (M : Mem) (l : (Sl Int))  (hl0 : SlK M (oneI .i64) 1 l) : Fs Tryd.prog 29 [Sl.val l, .func (.func 28) #[] #[]] M (fun v => v = .bool (decide (∃ a ∈ l.l, OddA a))) := by
  obtain ⟨l_a, l_c, l_l⟩ := l
  have k_l : SlK M (oneI .i64) 1 ⟨l_a, l_c, l_l⟩ := hl0
  have s_l : SlM M l_a (l_l.map (oneI .i64)) 1 := k_l.h1
  have n_l : (l_l.map (oneI .i64)).length = l_l.length := List.length_map ..
  have m_l : l_l.length ≤ 9223372036854775807 := k_l.h2
  have c_l : l_l.length ≤ l_c := k_l.h3
  refine fs_enter Tryd.func29 rfl Tryd.ntmps29 rfl ?_; intro H
  refine C_seq ?_
  refine C_region (l := [0]) rfl ?_
  refine X_assign rfl rfl rfl rfl ?_
  refine XD_end ?_
  refine K_then ?_
  refine C_seq ?_
  refine C_region (l := [0, 1, 2, 3, 4]) rfl ?_
  refine X_move rfl rfl rfl rfl ?_
  refine X_move rfl rfl rfl rfl ?_
  refine X_fs rfl rfl F.ok45 rfl (IndexOdd_ok _ ⟨l_a, l_c, l_l⟩ k_l) rfl ?_
  rintro _ ⟨z9, rfl, hz9⟩
  refine X_cmp rfl rfl rfl rfl rfl rfl ?_
  refine X_assign rfl rfl rfl rfl ?_
  refine XD_end ?_
  refine K_then ?_
  refine C_pick (.cons (k := 4) rfl .nil) ?_
  refine C_ret ?_
  refine K_end (.inr rfl) (.tmp rfl .nil) (fun w hw => ?_)
  exact ⟨_, rfl, hw.cnt (by intro zz; first | exact Nat.le_refl _ | (simp only [cnt_app, cnt_cons, cnt_nil, cat, List.append_eq, List.append_assoc, List.cons_append, List.nil_append, List.append_nil]; omega) | (simp only [cnt_app, cnt_cons, cnt_nil, cat, List.append_eq, List.append_assoc, List.cons_append, List.nil_append, List.append_nil, PeerV.segs]; omega)), congrArg Value.bool (decide_eq_decide.2 hz9)⟩

end Go.Proofs.YtbafnjniijodfaaDoor
/-
  What was one's own, and from here on never changes.
-/
set_option linter.unusedSimpArgs false
set_option linter.unusedVariables false
set_option linter.unnecessarySimpa false
namespace Go.Esp
section
variable {P : Program} {n : Sh} {Q : Exit → Act → World → Prop} {M : Mem} {H H0 : Hp} {e : Env} {x : Exit} {c : Code}
theorem OSl.frz {α : Type} {T sz k cp : Nat} {f : α → Segs} {l : List α} {ad : Option Addr} {hs : Hp} (ho : OSl T sz (.slice ad k cp) hs (l.map f)) {w : World} (hw : St M (hs ++ H) w) : ∃ M', M.le M' ∧ St M' H w ∧ SlK M' f sz ⟨ad, cp, l⟩ := by
  obtain ⟨M', ⟨a', c', l'⟩, h1, h2, h3, h4, h5⟩ := ho.freezeK hw
  simp only [Sl.val, Value.slice.injEq] at h3
  obtain ⟨rfl, _, rfl⟩ := h3
  simp only at h4
  subst h4
  exact ⟨M', h1, h2, h5⟩
/-- What was one's own never changes from here on. -/
theorem K_frz {α : Type} {T sz k cp : Nat} {f : α → Segs} {l : List α} {ad : Option Addr} {hs : Hp} (ho : OSl T sz (.slice ad k cp) hs (l.map f)) (hR : Rem hs H H0) (h : ∀ M', M.le M' → SlK M' f sz ⟨ad, cp, l⟩ → K n Q x (St M' H0) e) : K n Q x (St M H) e := by
  intro a w ha hw
  obtain ⟨M', h1, h2, h3⟩ := ho.frz (hw.perm hR.perm)
  exact h M' h1 h3 a w ha h2
theorem C_frz {α : Type} {T sz k cp : Nat} {f : α → Segs} {l : List α} {ad : Option Addr} {hs : Hp} (ho : OSl T sz (.slice ad k cp) hs (l.map f)) (hR : Rem hs H H0) (h : ∀ M', M.le M' → SlK M' f sz ⟨ad, cp, l⟩ → C P n c Q (St M' H0) e) : C P n c Q (St M H) e := by
  intro a w ha hw
  obtain ⟨M', h1, h2, h3⟩ := ho.frz (hw.perm hR.perm)
  exact h M' h1 h3 a w ha h2
end
end Go.Esp
/-
  A circle of addresses.
-/
set_option linter.unusedSimpArgs false
set_option linter.unusedVariables false
set_option linter.unnecessarySimpa false
set_option maxRecDepth 8000
set_option maxHeartbeats 1000000
namespace Go.Proofs.YtbafnjniijodfaaDoor
open Go.Esp
theorem F.ok29 : okFn Tryd.prog 29 = true := by kernel_rfl
theorem F.ok30 : okFn Tryd.prog 30 = true := by kernel_rfl
theorem F.ok31 : okFn Tryd.prog 31 = true := by kernel_rfl
theorem F.ok32 : okFn Tryd.prog 32 = true := by kernel_rfl

def digS (a : Int) : ByteArray := ⟨(Lib.decDigits a.toNat).toArray⟩
def nodeS : ByteArray := ⟨#[110, 111, 100, 101]⟩
def peerN (a : Int) : PeerV := ⟨a, sumP (natsOf (nodeS ++ digS a))⟩
theorem dec_len {u : Nat} (h : u < 1000) : (Lib.decDigits u).length ≤ 3 := by
  rw [Lib.decDigits]; split
  · simp
  · rw [Lib.decDigits]; split
    · simp
    · rw [Lib.decDigits]; split
      · simp
      · omega
theorem digS_size {a : Int} (h : ¬ OddA a) : (nodeS ++ digS a).size ≤ 7 := by
  unfold OddA at h
  have h9 : (digS a).size ≤ 3 := by
    show (Lib.decDigits a.toNat).toArray.size ≤ 3
    rw [List.size_toArray]; exact dec_len (by omega)
  rw [ByteArray.size_append]; show 4 + _ ≤ 7; omega
/-- Itoa answers the digits of some numbers. -/
def Digs (l : List Int) : Prop := ∀ (M : Mem) (a : Int), a ∈ l → ¬ OddA a → Fs Tryd.prog 31 [.int .i64 a] M (fun v => v = .string (digS a))
/-- What a circle of addresses is. -/
def OfR (M : Mem) (l : List Int) (v : Value) : Prop := ∃ (s : Sl PeerV) (c : Int), v = .tuple #[s.val, .int .i64 c] ∧ SlK M PeerV.segs 21 s ∧
  (if l.length < 1 ∨ 16 < l.length then s.l = [] ∧ c = 2 else if ∃ a ∈ l, OddA a then s.l = [] ∧ c = 1 else ∃ l' : List PeerV, l'.Perm (l.map peerN) ∧ l'.Pairwise (fun x y => ¬ lessF y x < 0) ∧ if IsCircle l' then s.l = l' ∧ c = 0 else s.l = [] ∧ c = 9)

theorem Of_ok (M : Mem) (l : (Sl Int)) (hl0 : SlK M (oneI .i64) 1 l) (hM : M.dr = 0) (hI : Digs l.l) : Esp.Fn Tryd.prog 8 [Sl.val l] M (fun M' v => OfR M' l.l v) := by
  obtain ⟨l_a, l_c, l_l⟩ := l
  have k_l : SlK M (oneI .i64) 1 ⟨l_a, l_c, l_l⟩ := hl0
  have s_l : SlM M l_a (l_l.map (oneI .i64)) 1 := k_l.h1
  have n_l : (l_l.map (oneI .i64)).length = l_l.length := List.length_map ..
  have m_l : l_l.length ≤ 9223372036854775807 := k_l.h2
  have c_l : l_l.length ≤ l_c := k_l.h3
  replace hI : Digs l_l := hI
  refine fn_enter Tryd.func8 rfl Tryd.ntmps8 rfl ?_; intro H
  refine C_seq ?_
  refine C_region (l := [0, 1]) rfl ?_
  refine X_assign rfl rfl rfl rfl ?_
  refine X_assign rfl rfl rfl rfl ?_
  refine XD_end ?_
  refine K_then ?_
  refine C_seq ?_
  refine C_seq ?_
  refine C_region (l := [0, 1, 2, 3, 4, 5, 6, 7]) rfl ?_
  refine X_move rfl rfl rfl rfl ?_
  refine X_len_sl rfl rfl rfl rfl F.elem22 rfl ?_
  refine X_cmp rfl rfl rfl rfl rfl rfl ?_
  refine X_move rfl rfl rfl rfl ?_
  refine XD_part 13 rfl (fun hc1 => ?_) (fun hc1 => ?_)
  · first | replace hc1 := dT hc1 | replace hc1 := dF hc1 | replace hc1 := nT hc1 | replace hc1 := nF hc1 | skip
    try simp only [PeerV.eta] at hc1
    first
    | (exfalso; omega)
    | (exfalso; simp [eqX] at hc1; done)
    | contradiction
    | skip
      refine X_skip rfl rfl rfl ?_
      refine X_skip rfl rfl rfl ?_
      refine X_skip rfl rfl rfl ?_
      refine X_pick rfl rfl rfl rfl rfl ?_
      refine XD_end ?_
      refine K_then ?_
      refine C_pick (.cons (k := 17) rfl (.cons (k := 3) rfl (.cons (k := 2) rfl (.cons (k := 0) rfl .nil)))) ?_
      refine C_true rfl ?_
      refine C_seq ?_
      refine C_region (l := [0, 1]) rfl ?_
      refine X_assign rfl rfl rfl rfl ?_
      refine X_assign rfl rfl rfl rfl ?_
      refine XD_end ?_
      refine K_then ?_
      refine C_pick (.cons (k := 3) rfl (.cons (k := 2) rfl (.cons (k := 0) rfl .nil))) ?_
      refine C_ret ?_
      refine K_ret ?_
      refine K_end (.inr rfl) (.tmp rfl (.tmp rfl .nil)) (fun w hw => ?_)
      refine ⟨_, M, rfl, Mem.le.refl M, hw.cnt (by intro zz; first | exact Nat.le_refl _ | (simp only [cnt_app, cnt_cons, cnt_nil, cat, List.append_eq, List.append_assoc, List.cons_append, List.nil_append, List.append_nil]; omega) | (simp only [cnt_app, cnt_cons, cnt_nil, cat, List.append_eq, List.append_assoc, List.cons_append, List.nil_append, List.append_nil, PeerV.segs]; omega)), ?_⟩
      show OfR _ l_l _
      refine ⟨⟨none, 0, []⟩, _, rfl, SlK.nil, ?_⟩
      rw [if_pos (by omega)]
      exact ⟨rfl, rfl⟩
  · first | replace hc1 := dT hc1 | replace hc1 := dF hc1 | replace hc1 := nT hc1 | replace hc1 := nF hc1 | skip
    try simp only [PeerV.eta] at hc1
    first
    | (exfalso; omega)
    | (exfalso; simp [eqX] at hc1; done)
    | contradiction
    | skip
      refine X_move rfl rfl rfl rfl ?_
      refine X_len_sl rfl rfl rfl rfl F.elem22 rfl ?_
      refine X_cmp rfl rfl rfl rfl rfl rfl ?_
      refine X_pick rfl rfl rfl rfl rfl ?_
      refine XD_end ?_
      refine K_then ?_
      refine C_pick (.cons (k := 17) rfl (.cons (k := 3) rfl (.cons (k := 2) rfl (.cons (k := 0) rfl .nil)))) ?_
      refine C_cond rfl (fun hc2 => ?_) (fun hc2 => ?_)
      · first | replace hc2 := dT hc2 | replace hc2 := dF hc2 | replace hc2 := nT hc2 | replace hc2 := nF hc2 | skip
        try simp only [PeerV.eta] at hc2
        first
        | (exfalso; omega)
        | (exfalso; simp [eqX] at hc2; done)
        | contradiction
        | skip
          refine C_seq ?_
          refine C_region (l := [0, 1]) rfl ?_
          refine X_assign rfl rfl rfl rfl ?_
          refine X_assign rfl rfl rfl rfl ?_
          refine XD_end ?_
          refine K_then ?_
          refine C_pick (.cons (k := 3) rfl (.cons (k := 2) rfl (.cons (k := 0) rfl .nil))) ?_
          refine C_ret ?_
          refine K_ret ?_
          refine K_end (.inr rfl) (.tmp rfl (.tmp rfl .nil)) (fun w hw => ?_)
          refine ⟨_, M, rfl, Mem.le.refl M, hw.cnt (by intro zz; first | exact Nat.le_refl _ | (simp only [cnt_app, cnt_cons, cnt_nil, cat, List.append_eq, List.append_assoc, List.cons_append, List.nil_append, List.append_nil]; omega) | (simp only [cnt_app, cnt_cons, cnt_nil, cat, List.append_eq, List.append_assoc, List.cons_append, List.nil_append, List.append_nil, PeerV.segs]; omega)), ?_⟩
          show OfR _ l_l _
          refine ⟨⟨none, 0, []⟩, _, rfl, SlK.nil, ?_⟩
          rw [if_pos (by omega)]
          exact ⟨rfl, rfl⟩
      · first | replace hc2 := dT hc2 | replace hc2 := dF hc2 | replace hc2 := nT hc2 | replace hc2 := nF hc2 | skip
        try simp only [PeerV.eta] at hc2
        first
        | (exfalso; omega)
        | (exfalso; simp [eqX] at hc2; done)
        | contradiction
        | skip
          refine C_skip ?_
          refine K_then ?_
          refine C_pick (.cons (k := 3) rfl (.cons (k := 2) rfl (.cons (k := 0) rfl .nil))) ?_
          refine C_seq ?_
          refine C_region (l := [0]) rfl ?_
          refine X_assign rfl rfl rfl rfl ?_
          refine XD_end ?_
          refine K_then ?_
          refine C_seq ?_
          refine C_seq ?_
          refine C_region (l := [0, 1, 2]) rfl ?_
          refine X_move rfl rfl rfl rfl ?_
          refine X_move rfl rfl rfl rfl ?_
          refine X_fs rfl rfl F.ok29 rfl (ContainsOdd_ok _ ⟨l_a, l_c, l_l⟩ k_l) rfl ?_
          rintro _ rfl
          refine XD_end ?_
          refine K_then ?_
          refine C_pick (.cons (k := 20) rfl (.cons (k := 3) rfl (.cons (k := 2) rfl (.cons (k := 0) rfl .nil)))) ?_
          refine C_cond rfl (fun hc3 => ?_) (fun hc3 => ?_)
          · first | replace hc3 := dT hc3 | replace hc3 := dF hc3 | replace hc3 := nT hc3 | replace hc3 := nF hc3 | skip
            try simp only [PeerV.eta] at hc3
            first
            | (exfalso; omega)
            | (exfalso; simp [eqX] at hc3; done)
            | contradiction
            | skip
              refine C_seq ?_
              refine C_region (l := [0, 1]) rfl ?_
              refine X_assign rfl rfl rfl rfl ?_
              refine X_assign rfl rfl rfl rfl ?_
              refine XD_end ?_
              refine K_then ?_
              refine C_pick (.cons (k := 3) rfl (.cons (k := 2) rfl (.cons (k := 0) rfl .nil))) ?_
              refine C_ret ?_
              refine K_ret ?_
              refine K_end (.inr rfl) (.tmp rfl (.tmp rfl .nil)) (fun w hw => ?_)
              refine ⟨_, M, rfl, Mem.le.refl M, hw.cnt (by intro zz; first | exact Nat.le_refl _ | (simp only [cnt_app, cnt_cons, cnt_nil, cat, List.append_eq, List.append_assoc, List.cons_append, List.nil_append, List.append_nil]; omega) | (simp only [cnt_app, cnt_cons, cnt_nil, cat, List.append_eq, List.append_assoc, List.cons_append, List.nil_append, List.append_nil, PeerV.segs]; omega)), ?_⟩
              show OfR _ l_l _
              refine ⟨⟨none, 0, []⟩, _, rfl, SlK.nil, ?_⟩
              rw [if_neg (by omega), if_pos (by assumption)]
              exact ⟨rfl, rfl⟩
          · first | replace hc3 := dT hc3 | replace hc3 := dF hc3 | replace hc3 := nT hc3 | replace hc3 := nF hc3 | skip
            try simp only [PeerV.eta] at hc3
            first
            | (exfalso; omega)
            | (exfalso; simp [eqX] at hc3; done)
            | contradiction
            | skip
              refine C_skip ?_
              refine K_then ?_
              refine C_pick (.cons (k := 3) rfl (.cons (k := 2) rfl (.cons (k := 0) rfl .nil))) ?_
              refine C_seq ?_
              refine C_region (l := [0]) rfl ?_
              have hodd : ¬ ∃ a ∈ l_l, OddA a := by assumption
              refine X_assign rfl rfl rfl rfl ?_
              refine XD_end ?_
              refine K_then ?_
              refine C_seq ?_
              refine C_seq ?_
              refine C_region (l := [0, 1, 2]) rfl ?_
              refine X_move rfl rfl rfl rfl ?_
              refine X_len_sl rfl rfl rfl rfl F.elem22 rfl ?_
              refine X_move rfl rfl rfl rfl ?_
              refine XD_end ?_
              refine K_then ?_
              refine C_pick (.cons (k := 23) rfl (.cons (k := 22) rfl (.cons (k := 21) rfl (.cons (k := 5) rfl (.cons (k := 3) rfl (.cons (k := 2) rfl .nil)))))) ?_
              refine C_block ?_
              refine C_pick (.cons (k := 23) rfl (.cons (k := 5) rfl (.cons (k := 22) rfl (.cons (k := 21) rfl (.cons (k := 3) rfl (.cons (k := 2) rfl .nil)))))) ?_
              refine C_loopO (Hin := []) (.succ (.succ .zero)) (by repeat first | exact Rem.here _ | exact Rem.two | apply Rem.skip | apply Rem.over) (fun (k : Nat) M1 h1 z => ∃ v, z = [(23, .int .i64 (k : Int)), (5, v)] ∧ k ≤ l_l.length ∧ OSl 38 21 v h1 (((l_l.take k).map peerN).map PeerV.segs)) (fun k => l_l.length - k) (0) (⟨_, rfl, by omega, OSl.nil⟩) ?_
              rintro k M1 h1 z hm1 ⟨v0, rfl, hk, ho⟩
              obtain ⟨ad0, cp0, rfl⟩ := ho.val
              have hml : (((l_l.take k).map peerN).map PeerV.segs).length = k := by simp; omega
              rw [hml] at ho ⊢
              refine C_seq ?_
              refine C_region (l := [0]) rfl ?_
              refine X_cmp rfl rfl rfl rfl rfl rfl ?_
              refine XD_end ?_
              refine K_then ?_
              refine C_seq ?_
              refine C_cond rfl (fun hc4 => ?_) (fun hc4 => ?_)
              · first | replace hc4 := dT hc4 | replace hc4 := dF hc4 | replace hc4 := nT hc4 | replace hc4 := nF hc4 | skip
                try simp only [PeerV.eta] at hc4
                first
                | (exfalso; omega)
                | (exfalso; simp [eqX] at hc4; done)
                | contradiction
                | skip
                  refine C_skip ?_
                  refine K_then ?_
                  refine C_seq ?_
                  refine C_block ?_
                  refine C_seq ?_
                  refine C_region (l := [0, 1, 2]) rfl ?_
                  refine X_indexAddr rfl rfl rfl rfl F.elem22 (by first | rfl | exact (Int.toNat_of_nonneg (by omega)).symm) (by first | omega | (simp; done) | (simp; omega)) (by first | exact ⟨_, _, rfl⟩ | assumption | exact SlM.plain (by assumption) (by first | (simp; done) | (simp; omega)) | exact RdS.plain (by assumption) (by first | (simp; done) | (simp; omega)) | exact OSl.plain (by assumption) (by first | (simp; done) | (simp; omega))) rfl ?_
                  first | refine X_load rfl rfl rfl (by repeat first | exact List.Mem.head _ | refine List.Mem.tail _ ?_ | refine List.mem_append_right _ ?_) F.lay3 rfl rfl rfl ?_ | refine X_load_el rfl rfl rfl (by first | assumption | exact SlM.mono (by assumption) (by assumption)) (by first | exact row_map (by omega) | exact List.getElem?_eq_getElem (by omega) | exact rfl | exact row_map (by first | (simp; done) | (simp; omega))) F.lay3 rfl rfl rfl ?_ | refine X_load_rd rfl rfl rfl (by assumption) (by first | exact row_map (by omega) | exact List.getElem?_eq_getElem (by omega) | exact rfl | exact row_map (by first | (simp; done) | (simp; omega))) F.lay3 rfl rfl rfl ?_ | refine X_load_mem rfl rfl rfl (by first | assumption | exact Mem.get_of (by assumption) (by repeat first | assumption | refine Mem.le.trans (by assumption) ?_)) F.lay3 rfl rfl rfl ?_ | refine X_load_osl rfl rfl rfl (by assumption) (by repeat first | exact Rem.here _ | exact Rem.two | apply Rem.skip | apply Rem.over) (by first | exact row_map (by omega) | exact List.getElem?_eq_getElem (by omega) | exact rfl | exact row_map (by first | (simp; done) | (simp; omega))) F.lay3 rfl rfl rfl ?_ | refine X_load_cell rfl rfl rfl (by repeat first | exact List.Mem.head _ | refine List.Mem.tail _ ?_ | refine List.mem_append_right _ ?_) F.lay3 (by first | exact id_at (by first | omega | decide) | exact arr_at (by first | omega | decide)) rfl ?_
                  refine X_assign rfl rfl rfl rfl ?_
                  refine XD_end ?_
                  refine K_then ?_
                  refine C_seq ?_
                  refine C_region (l := [0, 1, 2, 3, 4, 5, 6, 7, 8, 9]) rfl ?_
                  refine X_move rfl rfl rfl rfl ?_
                  refine X_fs rfl rfl F.ok31 rfl (hI _ l_l[k] (List.getElem_mem (by omega)) (fun h9 => hodd ⟨_, List.getElem_mem (by omega), h9⟩)) rfl ?_
                  rintro _ rfl
                  refine X_cat (a := nodeS) rfl rfl rfl rfl (by have := digS_size (show ¬ OddA l_l[k] from fun h9 => hodd ⟨_, List.getElem_mem (by omega), h9⟩); rw [ByteArray.size_append] at this; omega) rfl rfl ?_
                  refine X_fn rfl rfl F.ok30 rfl (Sum_ok _ (nodeS ++ digS l_l[k]) (Nat.le_trans (digS_size (fun h9 => hodd ⟨_, List.getElem_mem (by omega), h9⟩)) (by decide)) (hm1.loose hM)) rfl ?_
                  rintro _ M2 hm2 rfl
                  refine X_move rfl rfl rfl rfl ?_
                  refine X_extract rfl rfl rfl rfl rfl ?_
                  refine X_extract rfl rfl rfl rfl rfl ?_
                  refine X_alloc rfl rfl F.zero32 (by constructor) rfl ?_; intro b5
                  refine X_store rfl rfl rfl rfl (by constructor) (by first | ((try simp only [cat, List.cons_append, List.nil_append, List.append_nil]); (repeat (first | exact flat_nil | refine flat_id ?_ | (refine flat_one ?_ ?_; rfl))); done) | exact PeerV.flat _ | exact PeerV.flat ⟨_, _⟩ | exact stFlat _ | exact phS_flat _ | exact phR_flat | (simp [flat, cat, Segs.cells, Seg.cells, Value.oneCell']; done)) (by repeat first | exact Upd.head | apply Upd.tail | apply Upd.over) F.lay32 rfl rfl ?_
                  refine X_assign rfl rfl rfl rfl ?_
                  refine XD_end ?_
                  refine K_then ?_
                  refine C_seq ?_
                  refine C_seq ?_
                  refine C_region (l := [0, 1]) rfl ?_
                  refine X_move rfl rfl rfl rfl ?_
                  refine X_cmp rfl rfl rfl rfl rfl rfl ?_
                  refine XD_end ?_
                  refine K_then ?_
                  refine C_cond rfl (fun hc6 => ?_) (fun hc6 => ?_)
                  · first | replace hc6 := dT hc6 | replace hc6 := dF hc6 | replace hc6 := nT hc6 | replace hc6 := nF hc6 | skip
                    try simp only [PeerV.eta] at hc6
                    first | (exfalso; omega) | (exfalso; simp [eqX] at hc6; done) | contradiction
                  · first | replace hc6 := dT hc6 | replace hc6 := dF hc6 | replace hc6 := nT hc6 | replace hc6 := nF hc6 | skip
                    try simp only [PeerV.eta] at hc6
                    first
                    | (exfalso; omega)
                    | (exfalso; simp [eqX] at hc6; done)
                    | contradiction
                    | skip
                      refine C_skip ?_
                      refine K_then ?_
                      refine C_region (l := [0, 1, 2, 3, 4, 5, 6]) rfl ?_
                      refine X_move rfl rfl rfl rfl ?_
                      refine X_move rfl rfl rfl rfl ?_
                      first | refine X_load rfl rfl rfl (by repeat first | exact List.Mem.head _ | refine List.Mem.tail _ ?_ | refine List.mem_append_right _ ?_) F.lay32 rfl rfl rfl ?_ | refine X_load_el rfl rfl rfl (by first | assumption | exact SlM.mono (by assumption) (by assumption)) (by first | exact row_map (by omega) | exact List.getElem?_eq_getElem (by omega) | exact rfl | exact row_map (by first | (simp; done) | (simp; omega))) F.lay32 rfl rfl rfl ?_ | refine X_load_rd rfl rfl rfl (by assumption) (by first | exact row_map (by omega) | exact List.getElem?_eq_getElem (by omega) | exact rfl | exact row_map (by first | (simp; done) | (simp; omega))) F.lay32 rfl rfl rfl ?_ | refine X_load_mem rfl rfl rfl (by first | assumption | exact Mem.get_of (by assumption) (by repeat first | assumption | refine Mem.le.trans (by assumption) ?_)) F.lay32 rfl rfl rfl ?_ | refine X_load_osl rfl rfl rfl (by assumption) (by repeat first | exact Rem.here _ | exact Rem.two | apply Rem.skip | apply Rem.over) (by first | exact row_map (by omega) | exact List.getElem?_eq_getElem (by omega) | exact rfl | exact row_map (by first | (simp; done) | (simp; omega))) F.lay32 rfl rfl rfl ?_
                      refine X_build rfl rfl F.bld38 (.cons rfl (by constructor) (.cons rfl (by constructor) .nil)) rfl rfl ?_
                      refine X_buildSliceF rfl rfl F.elem23 F.zero38 rfl rfl (.cons rfl (by constructor) .nil) rfl rfl (by simp only [List.map_cons, List.map_nil] <;> rfl) rfl ?_; intro b7 hob8
                      refine X_append (m := 1000000) rfl rfl rfl rfl rfl F.elem23 F.zero38 (by first | rfl | exact agg_size rfl) rfl (by first | assumption | exact OSl.nil) (by repeat first | exact Rem.here _ | exact Rem.two | apply Rem.skip | apply Rem.over) (Src.own hob8.lens (by first | exact PeerV.flat1 _ | exact PeerV.flat1 ⟨_, _⟩ | exact stFlat _ | exact phS_flat _ | exact phR_flat | (refine rows_one1 ?_; (repeat (first | exact flat_nil | refine flat_id ?_ | (refine flat_one ?_ ?_; rfl))); done) | (refine rows_one1 ?_; exact PeerV.flat _) | (simp [rowsCells, Segs.cells, Seg.cells, Value.oneCell']; done)) rfl (by repeat first | exact List.Mem.head _ | refine List.Mem.tail _ ?_ | refine List.mem_append_right _ ?_)) (by first | omega | (simp; done) | (simp; omega)) (by decide) rfl ?_; intro v11 hs10 ho9; obtain ⟨adv11, cpv11, rfl⟩ := ho9.val
                      refine X_assign rfl rfl rfl rfl ?_
                      refine XD_end ?_
                      refine K_out ?_
                      refine K_then ?_
                      refine C_region (l := [0, 1]) rfl ?_
                      refine X_ari rfl rfl rfl rfl rfl (by first | exact wrap_in (by decide) (by omega) | exact wrap_u64_in (by decide) (by omega) | exact wrap_u8_in (by decide) (by omega) | exact wrap_u32_in (by decide) (by omega) | exact wrap_u64 _ | exact wrap_u8 _ | exact wrap_u32 _ | exact rfl) rfl ?_
                      refine X_move rfl rfl rfl rfl ?_
                      refine XD_end ?_
                      refine K_roundO (a' := [(23, _), (5, _)]) (k + 1) (hs10) (.cons (k := 23) rfl (.cons (k := 5) rfl (.cons (k := 22) rfl (.cons (k := 21) rfl (.cons (k := 3) rfl (.cons (k := 2) rfl (.nil))))))) (hm1.trans hm2) (fun w hw => by first | exact hw | exact hw.cnt (by intro zz; first | exact Nat.le_refl _ | (simp only [cnt_app, cnt_cons, cnt_nil, cat, List.append_eq, List.append_assoc, List.cons_append, List.nil_append, List.append_nil]; omega) | (simp only [cnt_app, cnt_cons, cnt_nil, cat, List.append_eq, List.append_assoc, List.cons_append, List.nil_append, List.append_nil, PeerV.segs]; omega))) ?_ ?_
                      · refine ⟨_, rfl, by omega, ?_⟩
                        rw [List.take_succ_eq_append_getElem (by omega), List.map_append, List.map_append]
                        exact ho9
                      · omega
              · first | replace hc4 := dT hc4 | replace hc4 := dF hc4 | replace hc4 := nT hc4 | replace hc4 := nF hc4 | skip
                try simp only [PeerV.eta] at hc4
                first
                | (exfalso; omega)
                | (exfalso; simp [eqX] at hc4; done)
                | contradiction
                | skip
                  refine C_exit ?_
                  refine K_exit ?_
                  refine K_exit ?_
                  refine K_hit ?_
                  refine K_then ?_
                  refine C_pick (.cons (k := 5) rfl (.cons (k := 3) rfl (.cons (k := 2) rfl .nil))) ?_
                  refine C_seq ?_
                  obtain rfl : k = l_l.length := by omega
                  rw [List.take_length] at ho
                  obtain ⟨pl, hpl⟩ : ∃ pl, pl = l_l.map peerN := ⟨_, rfl⟩
                  have hpn : l_l.length = pl.length := by rw [hpl, List.length_map]
                  rw [hpn]
                  rw [hpn, ← hpl] at ho
                  obtain ⟨b9, rfl⟩ : ∃ b, ad0 = some ⟨b, 0, none⟩ := by
                    cases ad0 with
                    | none =>
                      have h9 := ho.noneAll.1
                      rw [h9] at hpn
                      exact absurd hpn (by show l_l.length ≠ 0; omega)
                    | some ad => obtain ⟨b, rfl⟩ := ho.someAll; exact ⟨b, rfl⟩
                  refine C_regionR (l := [0, 1]) (Hin := h1) (by repeat first | exact Rem.here _ | exact Rem.two | apply Rem.skip | apply Rem.over) rfl ?_
                  refine X_move rfl rfl rfl rfl ?_
                  refine X_fhR rfl rfl F.ok32 rfl (SortC_ok _ b9 cp0 pl h1 ho (by omega)) (by repeat first | exact Rem.here _ | exact Rem.two | apply Rem.skip | apply Rem.over) (fun _ _ _ hm hw => (hw.lower (by first | exact hm | exact Mem.le.trans (by assumption) hm)).cnt (by intro zz; first | exact Nat.le_refl _ | (simp only [cnt_app, cnt_cons, cnt_nil, cat, List.append_eq, List.append_assoc, List.cons_append, List.nil_append, List.append_nil]; omega) | (simp only [cnt_app, cnt_cons, cnt_nil, cat, List.append_eq, List.append_assoc, List.cons_append, List.nil_append, List.append_nil, PeerV.segs]; omega))) (putE_some rfl) ?_
                  rintro _ M3 hs9 hm3 ⟨hM3, rfl, l9, hp9, hsw9, ho9⟩; subst M3
                  refine XD_end ?_
                  refine K_then ?_
                  refine C_pick (.cons (k := 5) rfl (.cons (k := 3) rfl (.cons (k := 2) rfl .nil))) ?_
                  refine C_seq ?_
                  refine C_seq ?_
                  have hl9 := hp9.length_eq
                  rw [← hl9]
                  rw [← hl9] at ho9
                  refine C_frz ho9 (by repeat first | exact Rem.here _ | exact Rem.two | apply Rem.skip | apply Rem.over) (fun M4 hm4 k_s => ?_)
                  refine C_region (l := [0, 1, 2]) rfl ?_
                  refine X_move rfl rfl rfl rfl ?_
                  refine X_fs rfl rfl F.ok12 rfl (Circ_ok _ ⟨_, _, _⟩ (by first | assumption | omega | exact SlK.mono (by assumption) (by assumption) | exact SlM.mono (by assumption) (by assumption) | exact SlM.mono (by assumption) (by repeat first | assumption | refine Mem.le.trans (by assumption) ?_))) rfl ?_
                  rintro _ rfl
                  refine X_not rfl rfl rfl rfl ?_
                  refine XD_end ?_
                  refine K_then ?_
                  refine C_pick (.cons (k := 48) rfl (.cons (k := 5) rfl (.cons (k := 3) rfl (.cons (k := 2) rfl .nil)))) ?_
                  refine C_cond rfl (fun hc12 => ?_) (fun hc12 => ?_)
                  · first | replace hc12 := dT hc12 | replace hc12 := dF hc12 | replace hc12 := nT hc12 | replace hc12 := nF hc12 | skip
                    try simp only [PeerV.eta] at hc12
                    first
                    | (exfalso; omega)
                    | (exfalso; simp [eqX] at hc12; done)
                    | contradiction
                    | skip
                      refine C_seq ?_
                      refine C_region (l := [0, 1]) rfl ?_
                      refine X_assign rfl rfl rfl rfl ?_
                      refine X_assign rfl rfl rfl rfl ?_
                      refine XD_end ?_
                      refine K_then ?_
                      refine C_pick (.cons (k := 3) rfl (.cons (k := 2) rfl (.cons (k := 5) rfl .nil))) ?_
                      refine C_ret ?_
                      refine K_ret ?_
                      refine K_end (.inr rfl) (.tmp rfl (.tmp rfl .nil)) (fun w hw => ?_)
                      refine ⟨_, M4, rfl, hm1.trans hm4, hw.cnt (by intro zz; first | exact Nat.le_refl _ | (simp only [cnt_app, cnt_cons, cnt_nil, cat, List.append_eq, List.append_assoc, List.cons_append, List.nil_append, List.append_nil]; omega) | (simp only [cnt_app, cnt_cons, cnt_nil, cat, List.append_eq, List.append_assoc, List.cons_append, List.nil_append, List.append_nil, PeerV.segs]; omega)), ?_⟩
                      show OfR _ l_l _
                      refine ⟨⟨none, 0, []⟩, _, rfl, SlK.nil, ?_⟩
                      rw [if_neg (by omega), if_neg hodd]
                      refine ⟨l9, by rw [← hpl]; exact hp9, hsw9, ?_⟩
                      rw [if_neg (by assumption)]
                      exact ⟨rfl, rfl⟩
                  · first | replace hc12 := dT hc12 | replace hc12 := dF hc12 | replace hc12 := nT hc12 | replace hc12 := nF hc12 | skip
                    try simp only [PeerV.eta] at hc12
                    first
                    | (exfalso; omega)
                    | (exfalso; simp [eqX] at hc12; done)
                    | contradiction
                    | skip
                      refine C_skip ?_
                      refine K_then ?_
                      refine C_pick (.cons (k := 5) rfl (.cons (k := 3) rfl (.cons (k := 2) rfl .nil))) ?_
                      refine C_seq ?_
                      refine C_region (l := [0, 1, 2]) rfl ?_
                      refine X_move rfl rfl rfl rfl ?_
                      refine X_assign rfl rfl rfl rfl ?_
                      refine X_assign rfl rfl rfl rfl ?_
                      refine XD_end ?_
                      refine K_then ?_
                      refine C_pick (.cons (k := 3) rfl (.cons (k := 2) rfl .nil)) ?_
                      refine C_ret ?_
                      refine K_end (.inr rfl) (.tmp rfl (.tmp rfl .nil)) (fun w hw => ?_)
                      refine ⟨_, M4, rfl, hm1.trans hm4, hw.cnt (by intro zz; first | exact Nat.le_refl _ | (simp only [cnt_app, cnt_cons, cnt_nil, cat, List.append_eq, List.append_assoc, List.cons_append, List.nil_append, List.append_nil]; omega) | (simp only [cnt_app, cnt_cons, cnt_nil, cat, List.append_eq, List.append_assoc, List.cons_append, List.nil_append, List.append_nil, PeerV.segs]; omega)), ?_⟩
                      show OfR _ l_l _
                      refine ⟨⟨_, cp0, l9⟩, _, rfl, k_s, ?_⟩
                      rw [if_neg (by omega), if_neg hodd]
                      refine ⟨l9, by rw [← hpl]; exact hp9, hsw9, ?_⟩
                      rw [if_pos (by assumption)]
                      exact ⟨rfl, rfl⟩

end Go.Proofs.YtbafnjniijodfaaDoor
/-
  Small places.
-/
set_option linter.unusedSimpArgs false
set_option linter.unusedVariables false
set_option linter.unnecessarySimpa false
namespace Go.Esp
/-- A small number's place. -/
def smallP (n : Int) : Plc := ofBytes fun i => if i = 19 then (n % 256).toNat else if i = 18 then (n / 256 % 256).toNat else 0
theorem smallP_lt (n : Int) : ∀ i, (if i = 19 then (n % 256).toNat else if i = 18 then (n / 256 % 256).toNat else 0) < 256 := fun i => by
  split
  · omega
  · split
    · omega
    · decide
theorem idV0 {i : Nat} (h : i < 20) : (idV 0)[i] = .int .u8 0 := by rw [idV_get _ h]; simp [idB]
theorem small_seg (n : Int) : idV (smallP n) = ((idV 0).set 19 (.int .u8 (n % 256))).set 18 (.int .u8 (n / 256 % 256)) := by
  apply Vector.ext
  intro i hi
  rw [idV_get _ hi]
  unfold smallP
  rw [idB_ofBytes (smallP_lt n) hi]
  by_cases e8 : i = 18
  · subst e8
    rw [Vector.getElem_set_self]
    simp
    omega
  · rw [Vector.getElem_set_ne _ _ (Ne.symm e8)]
    by_cases e9 : i = 19
    · subst e9
      rw [Vector.getElem_set_self]
      simp
      omega
    · rw [Vector.getElem_set_ne _ _ (Ne.symm e9), idV0 hi]
      simp [e8, e9]

/-! The document's example. -/
end Go.Esp
/-
  The example of the document.
-/
set_option linter.unusedSimpArgs false
set_option linter.unusedVariables false
set_option linter.unnecessarySimpa false
set_option maxRecDepth 8000
set_option maxHeartbeats 1000000
namespace Go.Proofs.YtbafnjniijodfaaDoor
open Go.Esp
theorem F.ok14 : okFn Tryd.prog 14 = true := by kernel_rfl
theorem F.ok15 : okFn Tryd.prog 15 = true := by kernel_rfl
theorem F.ok23 : okFn Tryd.prog 23 = true := by kernel_rfl
theorem F.ok36 : okFn Tryd.prog 36 = true := by kernel_rfl
theorem F.ok37 : okFn Tryd.prog 37 = true := by kernel_rfl
theorem F.ok38 : okFn Tryd.prog 38 = true := by kernel_rfl
theorem F.ok8 : okFn Tryd.prog 8 = true := by kernel_rfl

theorem Small_ok (M : Mem) (n : Int) (hn : 0 ≤ n ∧ n ≤ 1000000) : Fs Tryd.prog 37 [.int .i64 n] M (fun v => v = (fun x => aggV [idSeg x]) (smallP n)) := by
  refine fs_enter Tryd.func37 rfl Tryd.ntmps37 rfl ?_; intro H
  refine C_seq ?_
  refine C_region (l := [0]) rfl ?_
  refine X_alloc rfl rfl F.zero32 (by constructor) rfl ?_; intro b1
  refine XD_end ?_
  refine K_then ?_
  refine C_seq ?_
  refine C_region (l := [0]) rfl ?_
  refine X_alloc rfl rfl F.zero32 (by constructor) rfl ?_; intro b2
  refine XD_end ?_
  refine K_then ?_
  refine C_seq ?_
  refine C_region (l := [0, 1, 2, 3, 4]) rfl ?_
  refine X_move rfl rfl rfl rfl ?_
  refine X_rem rfl rfl rfl rfl (by first | decide | omega) (by first | exact rem_nn (by omega) | rfl) rfl ?_
  refine X_conv rfl rfl rfl Tryd.underlying3 Tryd.underlying5 (by first | exact wrap_in (by decide) (by omega) | exact wrap_u64_in (by decide) (by omega) | exact wrap_u8_in (by decide) (by omega) | exact wrap_u32_in (by decide) (by omega) | exact wrap_u64 _ | exact wrap_u8 _ | exact wrap_u32 _ | exact rfl) rfl ?_
  refine X_indexAddr_arr rfl rfl rfl rfl F.arr32 (by first | rfl | exact (Int.toNat_of_nonneg (by omega)).symm) (by first | omega | decide | (simp; omega)) rfl ?_
  first | refine X_store rfl rfl rfl rfl (by constructor) (by first | ((try simp only [cat, List.cons_append, List.nil_append, List.append_nil]); (repeat (first | exact flat_nil | refine flat_id ?_ | (refine flat_one ?_ ?_; rfl))); done) | (simp [flat, cat, Segs.cells, Seg.cells, Value.oneCell']; done)) (by repeat first | exact Upd.head | apply Upd.tail | apply Upd.over) F.lay5 rfl rfl ?_ | refine X_store_cell rfl rfl rfl rfl rfl rfl (by repeat first | exact Upd.head | apply Upd.tail | apply Upd.over) F.lay5 (arr_len (by first | omega | decide)) (arr_set (by first | omega | decide)) ?_
  refine XD_end ?_
  refine K_then ?_
  refine C_pick (.cons (k := 3) rfl (.cons (k := 2) rfl (.cons (k := 0) rfl .nil))) ?_
  refine C_seq ?_
  refine C_region (l := [0, 1, 2, 3, 4, 5]) rfl ?_
  refine X_move rfl rfl rfl rfl ?_
  refine X_quo rfl rfl rfl rfl (by first | decide | omega) (by first | exact quo_in rfl (by omega) (by omega) (by omega) | rfl) rfl ?_
  refine X_rem rfl rfl rfl rfl (by first | decide | omega) (by first | exact rem_nn (by omega) | rfl) rfl ?_
  refine X_conv rfl rfl rfl Tryd.underlying3 Tryd.underlying5 (by first | exact wrap_in (by decide) (by omega) | exact wrap_u64_in (by decide) (by omega) | exact wrap_u8_in (by decide) (by omega) | exact wrap_u32_in (by decide) (by omega) | exact wrap_u64 _ | exact wrap_u8 _ | exact wrap_u32 _ | exact rfl) rfl ?_
  refine X_indexAddr_arr rfl rfl rfl rfl F.arr32 (by first | rfl | exact (Int.toNat_of_nonneg (by omega)).symm) (by first | omega | decide | (simp; omega)) rfl ?_
  first | refine X_store rfl rfl rfl rfl (by constructor) (by first | ((try simp only [cat, List.cons_append, List.nil_append, List.append_nil]); (repeat (first | exact flat_nil | refine flat_id ?_ | (refine flat_one ?_ ?_; rfl))); done) | (simp [flat, cat, Segs.cells, Seg.cells, Value.oneCell']; done)) (by repeat first | exact Upd.head | apply Upd.tail | apply Upd.over) F.lay5 rfl rfl ?_ | refine X_store_cell rfl rfl rfl rfl rfl rfl (by repeat first | exact Upd.head | apply Upd.tail | apply Upd.over) F.lay5 (arr_len (by first | omega | decide)) (arr_set (by first | omega | decide)) ?_
  refine XD_end ?_
  refine K_then ?_
  refine C_pick (.cons (k := 3) rfl (.cons (k := 2) rfl .nil)) ?_
  refine C_seq ?_
  refine C_region (l := [0, 1]) rfl ?_
  first | refine X_load rfl rfl rfl (by repeat first | exact List.Mem.head _ | refine List.Mem.tail _ ?_ | refine List.mem_append_right _ ?_) F.lay32 rfl rfl rfl ?_ | refine X_load_el rfl rfl rfl (by first | assumption | exact SlM.mono (by assumption) (by assumption)) (by first | exact row_map (by omega) | exact List.getElem?_eq_getElem (by omega) | exact rfl | exact row_map (by first | (simp; done) | (simp; omega))) F.lay32 rfl rfl rfl ?_ | refine X_load_rd rfl rfl rfl (by assumption) (by first | exact row_map (by omega) | exact List.getElem?_eq_getElem (by omega) | exact rfl | exact row_map (by first | (simp; done) | (simp; omega))) F.lay32 rfl rfl rfl ?_ | refine X_load_mem rfl rfl rfl (by first | assumption | exact Mem.get_of (by assumption) (by repeat first | assumption | refine Mem.le.trans (by assumption) ?_)) F.lay32 rfl rfl rfl ?_ | refine X_load_osl rfl rfl rfl (by assumption) (by repeat first | exact Rem.here _ | exact Rem.two | apply Rem.skip | apply Rem.over) (by first | exact row_map (by omega) | exact List.getElem?_eq_getElem (by omega) | exact rfl | exact row_map (by first | (simp; done) | (simp; omega))) F.lay32 rfl rfl rfl ?_
  refine XD_is 13 rfl (show aggV [.arr 20 _] = aggV [idSeg (smallP n)] from by unfold idSeg; rw [small_seg]) ?_
  refine X_store rfl rfl rfl rfl (by constructor) (by first | ((try simp only [cat, List.cons_append, List.nil_append, List.append_nil]); (repeat (first | exact flat_nil | refine flat_id ?_ | (refine flat_one ?_ ?_; rfl))); done) | exact PeerV.flat _ | exact PeerV.flat ⟨_, _⟩ | exact stFlat _ | exact phS_flat _ | exact phR_flat | (simp [flat, cat, Segs.cells, Seg.cells, Value.oneCell']; done)) (by repeat first | exact Upd.head | apply Upd.tail | apply Upd.over) F.lay32 rfl rfl ?_
  refine XD_end ?_
  refine K_then ?_
  refine C_pick (.cons (k := 2) rfl .nil) ?_
  refine C_ret ?_
  refine K_end (.inr rfl) (.cell rfl (by repeat first | exact List.Mem.head _ | refine List.Mem.tail _ ?_ | refine List.mem_append_right _ ?_) F.lay32 rfl rfl .nil) (fun w hw => ?_)
  refine ⟨_, rfl, (hw.cnt (by intro zz; first | exact Nat.le_refl _ | (simp only [cnt_app, cnt_cons, cnt_nil, cat, List.append_eq, List.append_assoc, List.cons_append, List.nil_append, List.append_nil]; omega) | (simp only [cnt_app, cnt_cons, cnt_nil, cat, List.append_eq, List.append_assoc, List.cons_append, List.nil_append, List.append_nil, PeerV.segs]; omega))), ?_⟩
  clear hw
  rfl

theorem xs10 : smallP 10 = 10#160 := by kernel_rfl
theorem small10_ok (M : Mem) : Fs Tryd.prog 37 [.int .i64 10] M (fun v => v = aggV [idSeg 10#160]) := by
  have h := Small_ok M 10 (by decide)
  rw [xs10] at h
  exact h

theorem xs20 : smallP 20 = 20#160 := by kernel_rfl
theorem small20_ok (M : Mem) : Fs Tryd.prog 37 [.int .i64 20] M (fun v => v = aggV [idSeg 20#160]) := by
  have h := Small_ok M 20 (by decide)
  rw [xs20] at h
  exact h

theorem xs21 : smallP 21 = 21#160 := by kernel_rfl
theorem small21_ok (M : Mem) : Fs Tryd.prog 37 [.int .i64 21] M (fun v => v = aggV [idSeg 21#160]) := by
  have h := Small_ok M 21 (by decide)
  rw [xs21] at h
  exact h

theorem xs25 : smallP 25 = 25#160 := by kernel_rfl
theorem small25_ok (M : Mem) : Fs Tryd.prog 37 [.int .i64 25] M (fun v => v = aggV [idSeg 25#160]) := by
  have h := Small_ok M 25 (by decide)
  rw [xs25] at h
  exact h

theorem xs30 : smallP 30 = 30#160 := by kernel_rfl
theorem small30_ok (M : Mem) : Fs Tryd.prog 37 [.int .i64 30] M (fun v => v = aggV [idSeg 30#160]) := by
  have h := Small_ok M 30 (by decide)
  rw [xs30] at h
  exact h

theorem xs31 : smallP 31 = 31#160 := by kernel_rfl
theorem small31_ok (M : Mem) : Fs Tryd.prog 37 [.int .i64 31] M (fun v => v = aggV [idSeg 31#160]) := by
  have h := Small_ok M 31 (by decide)
  rw [xs31] at h
  exact h

def threeL : List PeerV := [⟨1, 10#160⟩, ⟨2, 20#160⟩, ⟨3, 30#160⟩]
theorem own20 : ownerR threeL 20#160 = (1, 0) := by kernel_rfl
theorem own21 : ownerR threeL 21#160 = (2, 0) := by kernel_rfl
theorem own31 : ownerR threeL 31#160 = (0, 0) := by kernel_rfl
theorem cop25 : copiesR threeL 25#160 2 = ([2, 0], 0) := by kernel_rfl
theorem isc3 : IsCircle threeL := of_decide_eq_true (by kernel_rfl)

theorem three_ok (M : Mem) : Esp.Fn Tryd.prog 36 [] M (fun M' v => ∃ s : Sl PeerV, v = s.val ∧ s.l = threeL ∧ SlK M' PeerV.segs 21 s) := by
  refine fn_enter Tryd.func36 rfl Tryd.ntmps36 rfl ?_; intro H
  refine C_seq ?_
  refine C_region (l := [0]) rfl ?_
  refine X_assign rfl rfl rfl rfl ?_
  refine XD_end ?_
  refine K_then ?_
  refine C_seq ?_
  refine C_region (l := [0, 1, 2, 3, 4, 5, 6, 7]) rfl ?_
  refine X_fs rfl rfl F.ok37 rfl (small10_ok _) rfl ?_
  rintro _ rfl
  refine X_build rfl rfl F.bld38 (.cons rfl (by constructor) (.cons rfl (by constructor) .nil)) rfl rfl ?_
  refine X_fs rfl rfl F.ok37 rfl (small20_ok _) rfl ?_
  rintro _ rfl
  refine X_build rfl rfl F.bld38 (.cons rfl (by constructor) (.cons rfl (by constructor) .nil)) rfl rfl ?_
  refine X_fs rfl rfl F.ok37 rfl (small30_ok _) rfl ?_
  rintro _ rfl
  refine X_build rfl rfl F.bld38 (.cons rfl (by constructor) (.cons rfl (by constructor) .nil)) rfl rfl ?_
  refine X_buildSliceF rfl rfl F.elem23 F.zero38 rfl rfl (.cons rfl (by constructor) (.cons rfl (by constructor) (.cons rfl (by constructor) .nil))) rfl rfl (by simp only [List.map_cons, List.map_nil] <;> rfl) rfl ?_; intro b1 hob2
  refine X_assign rfl rfl rfl rfl ?_
  refine XD_end ?_
  refine K_then ?_
  refine C_pick (.cons (k := 0) rfl .nil) ?_
  refine C_ret ?_
  refine K_end (.inr rfl) (.tmp rfl .nil) (fun w hw => ?_)
  obtain ⟨M9, j1, j2, j3⟩ := OSl.frz (l := threeL) (f := PeerV.segs) (show OSl 38 21 _ _ (threeL.map PeerV.segs) from hob2) hw
  exact ⟨_, M9, rfl, j1, j2, ⟨_, 3, threeL⟩, rfl, rfl, j3⟩

theorem IntsF_ok (M : Mem) (x : Sl Int) (a : Option Addr) (c : Nat) (l : List Int) (hs : Hp) (hx : SlK M (oneI .i64) 1 x) (ho : OSl 3 1 (.slice a l.length c) hs (l.map (oneI .i64))) : Fh Tryd.prog 23 [Sl.val x, .slice a l.length c] M hs (fun M' v Hout => Hout = [] ∧ v = .bool (decide (x.l = l))) := fun H w hw => by
  obtain ⟨M1, h1, h2, h3⟩ := ho.frz hw
  exact (Ints_ok M1 x ⟨a, c, l⟩ (hx.mono h1) h3 H w h2).mono fun e w2 ⟨v, g1, g2, g3⟩ => ⟨v, M1, [], g1, h1, g2, rfl, g3⟩
theorem OfF_ok (M : Mem) (a : Option Addr) (c : Nat) (l : List Int) (hs : Hp) (ho : OSl 3 1 (.slice a l.length c) hs (l.map (oneI .i64))) (hM : M.dr = 0) (hI : Digs l) : Fh Tryd.prog 8 [.slice a l.length c] M hs (fun M' v Hout => Hout = [] ∧ OfR M' l v) := fun H w hw => by
  obtain ⟨M1, h1, h2, h3⟩ := ho.frz hw
  exact (Of_ok M1 ⟨a, c, l⟩ h3 (h1.loose hM) hI H w h2).mono fun e w2 ⟨v, M2, g1, g2, g3, g4⟩ => ⟨v, M2, [], g1, h1.trans g2, g3, rfl, g4⟩
theorem digs575 : Digs [5, 7, 5] := by
  intro M a ha ho
  have h9 : a = 5 ∨ a = 7 ∨ a = 5 := by simpa using ha
  have h : a = 5 ∨ a = 7 := by omega
  rcases h with rfl | rfl
  · exact Itoa_ok M 5 (by decide)
  · exact Itoa_ok M 7 (by decide)
theorem of575 {M : Mem} {v : Value} (h : OfR M [5, 7, 5] v) : ∃ s : Sl PeerV, v = .tuple #[s.val, .int .i64 9] := by
  obtain ⟨s, c, rfl, _, h⟩ := h
  rw [if_neg (by decide), if_neg (by decide)] at h
  obtain ⟨l', hp, _, h⟩ := h
  have hn : ¬ IsCircle l' := fun hc => by
    have h1 : (l'.map PeerV.addr).Perm (([5, 7, 5].map peerN).map PeerV.addr) := hp.map _
    have h2 : (([5, 7, 5].map peerN).map PeerV.addr).Nodup := (h1.nodup_iff).1 hc.2.2.1
    have h3 : ([5, 7, 5] : List Int).Nodup := h2
    exact absurd h3 (by decide)
  rw [if_neg hn] at h
  obtain ⟨_, rfl⟩ := h
  exact ⟨s, rfl⟩

theorem rounded_ok (M : Mem) (hM : M.dr = 0) : Esp.Fn Tryd.prog 10 [] M (fun _ v => v = .bool true) := by
  refine fn_enter Tryd.func10 rfl Tryd.ntmps10 rfl ?_; intro H
  refine C_seq ?_
  refine C_region (l := [0]) rfl ?_
  refine X_assign rfl rfl rfl rfl ?_
  refine XD_end ?_
  refine K_then ?_
  refine C_seq ?_
  refine C_region (l := [0, 1, 2, 3, 4, 5, 6, 7]) rfl ?_
  refine X_fn rfl rfl F.ok36 rfl (three_ok _) rfl ?_
  rintro _ M1 hm1 ⟨⟨a1, c1, l1⟩, rfl, h1, k1⟩
  simp only at h1
  subst h1
  refine X_fs rfl rfl F.ok37 rfl (small20_ok _) rfl ?_
  rintro _ rfl
  refine X_fs rfl rfl F.ok14 rfl (Owner_ok _ ⟨a1, c1, threeL⟩ 20#160 k1) rfl ?_
  rintro _ hv
  replace hv : _ = ofII (ownerR threeL 20#160) := hv
  rw [own20] at hv
  subst hv
  refine X_move rfl rfl rfl rfl ?_
  refine X_extract rfl rfl rfl rfl rfl ?_
  refine X_extract rfl rfl rfl rfl rfl ?_
  refine X_assign rfl rfl rfl rfl ?_
  refine X_assign rfl rfl rfl rfl ?_
  refine XD_end ?_
  refine K_then ?_
  refine C_pick (.cons (k := 2) rfl (.cons (k := 1) rfl (.cons (k := 0) rfl .nil))) ?_
  refine C_seq ?_
  refine C_region (l := [0, 1, 2, 3, 4, 5, 6, 7]) rfl ?_
  refine X_fn rfl rfl F.ok36 rfl (three_ok _) rfl ?_
  rintro _ M2 hm2 ⟨⟨a2, c2, l2⟩, rfl, h2, k2⟩
  simp only at h2
  subst h2
  refine X_fs rfl rfl F.ok37 rfl (small21_ok _) rfl ?_
  rintro _ rfl
  refine X_fs rfl rfl F.ok14 rfl (Owner_ok _ ⟨a2, c2, threeL⟩ 21#160 k2) rfl ?_
  rintro _ hv
  replace hv : _ = ofII (ownerR threeL 21#160) := hv
  rw [own21] at hv
  subst hv
  refine X_move rfl rfl rfl rfl ?_
  refine X_extract rfl rfl rfl rfl rfl ?_
  refine X_extract rfl rfl rfl rfl rfl ?_
  refine X_assign rfl rfl rfl rfl ?_
  refine X_assign rfl rfl rfl rfl ?_
  refine XD_end ?_
  refine K_then ?_
  refine C_pick (.cons (k := 4) rfl (.cons (k := 3) rfl (.cons (k := 2) rfl (.cons (k := 1) rfl (.cons (k := 0) rfl .nil))))) ?_
  refine C_seq ?_
  refine C_region (l := [0, 1, 2, 3, 4, 5, 6, 7]) rfl ?_
  refine X_fn rfl rfl F.ok36 rfl (three_ok _) rfl ?_
  rintro _ M3 hm3 ⟨⟨a3, c3, l3⟩, rfl, h3, k3⟩
  simp only at h3
  subst h3
  refine X_fs rfl rfl F.ok37 rfl (small31_ok _) rfl ?_
  rintro _ rfl
  refine X_fs rfl rfl F.ok14 rfl (Owner_ok _ ⟨a3, c3, threeL⟩ 31#160 k3) rfl ?_
  rintro _ hv
  replace hv : _ = ofII (ownerR threeL 31#160) := hv
  rw [own31] at hv
  subst hv
  refine X_move rfl rfl rfl rfl ?_
  refine X_extract rfl rfl rfl rfl rfl ?_
  refine X_extract rfl rfl rfl rfl rfl ?_
  refine X_assign rfl rfl rfl rfl ?_
  refine X_assign rfl rfl rfl rfl ?_
  refine XD_end ?_
  refine K_then ?_
  refine C_pick (.cons (k := 6) rfl (.cons (k := 5) rfl (.cons (k := 4) rfl (.cons (k := 3) rfl (.cons (k := 2) rfl (.cons (k := 1) rfl (.cons (k := 0) rfl .nil))))))) ?_
  refine C_seq ?_
  refine C_region (l := [0, 1, 2, 3, 4, 5, 6, 7]) rfl ?_
  refine X_fn rfl rfl F.ok36 rfl (three_ok _) rfl ?_
  rintro _ M4 hm4 ⟨⟨a4, c4, l4⟩, rfl, h4, k4⟩
  simp only at h4
  subst h4
  refine X_fs rfl rfl F.ok37 rfl (small25_ok _) rfl ?_
  rintro _ rfl
  refine X_fn rfl rfl F.ok15 rfl (Copies_ok _ ⟨a4, c4, threeL⟩ 25#160 2 k4) rfl ?_
  rintro _ M6 hm6 hv
  replace hv : IntsE _ _ (copiesR threeL 25#160 2) := hv
  rw [cop25] at hv
  obtain ⟨⟨a6, c6, l6⟩, rfl, h6, k6⟩ := hv
  simp only at h6
  subst h6
  refine X_move rfl rfl rfl rfl ?_
  refine X_extract rfl rfl rfl rfl rfl ?_
  refine X_extract rfl rfl rfl rfl rfl ?_
  refine X_assign rfl rfl rfl rfl ?_
  refine X_assign rfl rfl rfl rfl ?_
  refine XD_end ?_
  refine K_then ?_
  refine C_pick (.cons (k := 8) rfl (.cons (k := 7) rfl (.cons (k := 6) rfl (.cons (k := 5) rfl (.cons (k := 4) rfl (.cons (k := 3) rfl (.cons (k := 2) rfl (.cons (k := 1) rfl (.cons (k := 0) rfl .nil))))))))) ?_
  refine C_seq ?_
  refine C_region (l := [0, 1, 2, 3, 4, 5, 6]) rfl ?_
  refine X_buildSliceF rfl rfl F.elem22 F.zero3 rfl rfl (.cons rfl (by constructor) (.cons rfl (by constructor) (.cons rfl (by constructor) .nil))) rfl rfl (by simp only [List.map_cons, List.map_nil] <;> rfl) rfl ?_; intro b1 hob2
  refine X_fhR rfl rfl F.ok8 rfl (OfF_ok _ _ _ [5, 7, 5] _ hob2 (Mem.le.loose (by first | exact Mem.le.refl _ | assumption | (repeat first | assumption | refine Mem.le.trans (by assumption) ?_)) hM) digs575) (by repeat first | exact Rem.here _ | exact Rem.two | apply Rem.skip | apply Rem.over) (fun _ _ _ hm hw => (hw.lower (by first | exact hm | exact Mem.le.trans (by assumption) hm)).cnt (by intro zz; first | exact Nat.le_refl _ | (simp only [cnt_app, cnt_cons, cnt_nil, cat, List.append_eq, List.append_assoc, List.cons_append, List.nil_append, List.append_nil]; omega) | (simp only [cnt_app, cnt_cons, cnt_nil, cat, List.append_eq, List.append_assoc, List.cons_append, List.nil_append, List.append_nil, PeerV.segs]; omega))) (putE_some rfl) ?_
  rintro _ M7 _ hm7 ⟨rfl, h7⟩
  obtain ⟨⟨a7, c7, l7⟩, rfl⟩ := of575 h7
  refine X_move rfl rfl rfl rfl ?_
  refine X_extract rfl rfl rfl rfl rfl ?_
  refine X_extract rfl rfl rfl rfl rfl ?_
  refine X_assign rfl rfl rfl rfl ?_
  refine X_assign rfl rfl rfl rfl ?_
  refine XD_end ?_
  refine K_then ?_
  refine C_pick (.cons (k := 10) rfl (.cons (k := 8) rfl (.cons (k := 7) rfl (.cons (k := 6) rfl (.cons (k := 5) rfl (.cons (k := 4) rfl (.cons (k := 3) rfl (.cons (k := 2) rfl (.cons (k := 1) rfl (.cons (k := 0) rfl .nil)))))))))) ?_
  refine C_seq ?_
  refine C_region (l := [0, 1, 2, 3, 4, 5, 6, 7, 8, 9, 10, 11, 12, 13, 14, 15, 16, 17, 18, 19, 20, 21, 22, 23, 24, 25, 26, 27, 28, 29, 30, 31, 32, 33, 34, 35, 36, 37, 38, 39, 40, 41, 42, 43, 44, 45, 46, 47]) rfl ?_
  refine X_fs rfl rfl F.ok38 rfl (None_ok _) rfl ?_
  rintro _ rfl
  refine XD_is 40 rfl (show _ = aggV [.one (.int .i64 (-1)), idSeg 0] from rfl) ?_
  refine X_build rfl rfl F.bld38 (.cons rfl (by constructor) .nil) rfl rfl ?_
  refine X_same (m := 20) rfl rfl rfl rfl rfl (by constructor) (by constructor) F.lay38 F.kinds38 rfl F.guard38 (by first | exact FitPeerV _ | exact FitPeerV (⟨_, _⟩) | (repeat first | exact trivial | exact rfl | refine And.intro ?_ ?_ | refine idFits _ ?_)) (by first | exact FitPeerV _ | exact FitPeerV (⟨_, _⟩) | (repeat first | exact trivial | exact rfl | refine And.intro ?_ ?_ | refine idFits _ ?_)) rfl rfl rfl ?_; intro c3 he4
  replace he4 : c3 = true ↔ Segs.cells _ = Segs.cells _ := he4
  obtain rfl := eqD he4 (PeerV.inj (x := ⟨_, _⟩) (y := ⟨_, _⟩)); clear he4
  refine X_move rfl rfl rfl rfl ?_
  refine XD_part 43 rfl (fun hc5 => ?_) (fun hc5 => ?_)
  · first | replace hc5 := dT hc5 | replace hc5 := dF hc5 | replace hc5 := nT hc5 | replace hc5 := nF hc5 | skip
    try simp only [PeerV.eta] at hc5
    first
    | (exfalso; omega)
    | (exfalso; simp [eqX] at hc5; done)
    | contradiction
    | skip
      refine X_fn rfl rfl F.ok36 rfl (three_ok _) rfl ?_
      rintro _ M5 hm5 ⟨⟨a5, c5, l5⟩, rfl, h5, k5⟩
      simp only at h5
      subst h5
      refine X_fs rfl rfl F.ok12 rfl (Circ_ok _ ⟨a5, c5, threeL⟩ k5) rfl ?_
      rintro _ hv
      replace hv : _ = Value.bool (decide (IsCircle threeL)) := hv
      rw [decide_eq_true isc3] at hv
      subst hv
      refine X_pick rfl rfl rfl rfl rfl ?_
      refine X_move rfl rfl rfl rfl ?_
      refine XD_part 47 rfl (fun hc6 => ?_) (fun hc6 => ?_)
      · first | replace hc6 := dT hc6 | replace hc6 := dF hc6 | replace hc6 := nT hc6 | replace hc6 := nF hc6 | skip
        try simp only [PeerV.eta] at hc6
        first
        | (exfalso; omega)
        | (exfalso; simp [eqX] at hc6; done)
        | contradiction
        | skip
          refine X_move rfl rfl rfl rfl ?_
          refine X_cmp rfl rfl rfl rfl rfl rfl ?_
          refine X_pick rfl rfl rfl rfl rfl ?_
          refine X_move rfl rfl rfl rfl ?_
          refine XD_part 51 rfl (fun hc7 => ?_) (fun hc7 => ?_)
          · first | replace hc7 := dT hc7 | replace hc7 := dF hc7 | replace hc7 := nT hc7 | replace hc7 := nF hc7 | skip
            try simp only [PeerV.eta] at hc7
            first
            | (exfalso; omega)
            | (exfalso; simp [eqX] at hc7; done)
            | contradiction
            | skip
              refine X_move rfl rfl rfl rfl ?_
              refine X_cmp rfl rfl rfl rfl rfl rfl ?_
              refine X_pick rfl rfl rfl rfl rfl ?_
              refine X_move rfl rfl rfl rfl ?_
              refine XD_part 55 rfl (fun hc8 => ?_) (fun hc8 => ?_)
              · first | replace hc8 := dT hc8 | replace hc8 := dF hc8 | replace hc8 := nT hc8 | replace hc8 := nF hc8 | skip
                try simp only [PeerV.eta] at hc8
                first
                | (exfalso; omega)
                | (exfalso; simp [eqX] at hc8; done)
                | contradiction
                | skip
                  refine X_move rfl rfl rfl rfl ?_
                  refine X_move rfl rfl rfl rfl ?_
                  refine X_cmp rfl rfl rfl rfl rfl rfl ?_
                  refine X_pick rfl rfl rfl rfl rfl ?_
                  refine X_move rfl rfl rfl rfl ?_
                  refine XD_part 60 rfl (fun hc9 => ?_) (fun hc9 => ?_)
                  · first | replace hc9 := dT hc9 | replace hc9 := dF hc9 | replace hc9 := nT hc9 | replace hc9 := nF hc9 | skip
                    try simp only [PeerV.eta] at hc9
                    first
                    | (exfalso; omega)
                    | (exfalso; simp [eqX] at hc9; done)
                    | contradiction
                    | skip
                      refine X_move rfl rfl rfl rfl ?_
                      refine X_cmp rfl rfl rfl rfl rfl rfl ?_
                      refine X_pick rfl rfl rfl rfl rfl ?_
                      refine X_move rfl rfl rfl rfl ?_
                      refine XD_part 64 rfl (fun hc10 => ?_) (fun hc10 => ?_)
                      · first | replace hc10 := dT hc10 | replace hc10 := dF hc10 | replace hc10 := nT hc10 | replace hc10 := nF hc10 | skip
                        try simp only [PeerV.eta] at hc10
                        first
                        | (exfalso; omega)
                        | (exfalso; simp [eqX] at hc10; done)
                        | contradiction
                        | skip
                          refine X_move rfl rfl rfl rfl ?_
                          refine X_move rfl rfl rfl rfl ?_
                          refine X_cmp rfl rfl rfl rfl rfl rfl ?_
                          refine X_pick rfl rfl rfl rfl rfl ?_
                          refine X_move rfl rfl rfl rfl ?_
                          refine XD_part 69 rfl (fun hc11 => ?_) (fun hc11 => ?_)
                          · first | replace hc11 := dT hc11 | replace hc11 := dF hc11 | replace hc11 := nT hc11 | replace hc11 := nF hc11 | skip
                            try simp only [PeerV.eta] at hc11
                            first
                            | (exfalso; omega)
                            | (exfalso; simp [eqX] at hc11; done)
                            | contradiction
                            | skip
                              refine X_move rfl rfl rfl rfl ?_
                              refine X_cmp rfl rfl rfl rfl rfl rfl ?_
                              refine X_pick rfl rfl rfl rfl rfl ?_
                              refine X_move rfl rfl rfl rfl ?_
                              refine XD_part 73 rfl (fun hc12 => ?_) (fun hc12 => ?_)
                              · first | replace hc12 := dT hc12 | replace hc12 := dF hc12 | replace hc12 := nT hc12 | replace hc12 := nF hc12 | skip
                                try simp only [PeerV.eta] at hc12
                                first
                                | (exfalso; omega)
                                | (exfalso; simp [eqX] at hc12; done)
                                | contradiction
                                | skip
                                  refine X_move rfl rfl rfl rfl ?_
                                  refine X_move rfl rfl rfl rfl ?_
                                  refine X_cmp rfl rfl rfl rfl rfl rfl ?_
                                  refine X_pick rfl rfl rfl rfl rfl ?_
                                  refine X_move rfl rfl rfl rfl ?_
                                  refine XD_part 78 rfl (fun hc13 => ?_) (fun hc13 => ?_)
                                  · first | replace hc13 := dT hc13 | replace hc13 := dF hc13 | replace hc13 := nT hc13 | replace hc13 := nF hc13 | skip
                                    try simp only [PeerV.eta] at hc13
                                    first
                                    | (exfalso; omega)
                                    | (exfalso; simp [eqX] at hc13; done)
                                    | contradiction
                                    | skip
                                      refine X_move rfl rfl rfl rfl ?_
                                      refine X_buildSliceF rfl rfl F.elem22 F.zero3 rfl rfl (.cons rfl (by constructor) (.cons rfl (by constructor) .nil)) rfl rfl (by simp only [List.map_cons, List.map_nil] <;> rfl) rfl ?_; intro b14 hob15
                                      refine X_fhR rfl rfl F.ok23 rfl (IntsF_ok _ ⟨a6, c6, [2, 0]⟩ _ _ [2, 0] _ (k6.mono (by first | exact Mem.le.refl _ | assumption | (repeat first | assumption | refine Mem.le.trans (by assumption) ?_))) hob15) (by repeat first | exact Rem.here _ | exact Rem.two | apply Rem.skip | apply Rem.over) (fun _ _ _ hm hw => (hw.lower (by first | exact hm | exact Mem.le.trans (by assumption) hm)).cnt (by intro zz; first | exact Nat.le_refl _ | (simp only [cnt_app, cnt_cons, cnt_nil, cat, List.append_eq, List.append_assoc, List.cons_append, List.nil_append, List.append_nil]; omega) | (simp only [cnt_app, cnt_cons, cnt_nil, cat, List.append_eq, List.append_assoc, List.cons_append, List.nil_append, List.append_nil, PeerV.segs]; omega))) (putE_some rfl) ?_
                                      rintro _ M8 _ hm8 ⟨rfl, hv⟩
                                      replace hv : _ = Value.bool (decide (([2, 0] : List Int) = [2, 0])) := hv
                                      rw [decide_eq_true rfl] at hv
                                      subst hv
                                      refine X_pick rfl rfl rfl rfl rfl ?_
                                      refine X_move rfl rfl rfl rfl ?_
                                      refine XD_part 83 rfl (fun hc16 => ?_) (fun hc16 => ?_)
                                      · first | replace hc16 := dT hc16 | replace hc16 := dF hc16 | replace hc16 := nT hc16 | replace hc16 := nF hc16 | skip
                                        try simp only [PeerV.eta] at hc16
                                        first
                                        | (exfalso; omega)
                                        | (exfalso; simp [eqX] at hc16; done)
                                        | contradiction
                                        | skip
                                          refine X_move rfl rfl rfl rfl ?_
                                          refine X_cmp rfl rfl rfl rfl rfl rfl ?_
                                          refine X_pick rfl rfl rfl rfl rfl ?_
                                          refine X_assign rfl rfl rfl rfl ?_
                                          refine XD_end ?_
                                          refine K_then ?_
                                          refine C_pick (.cons (k := 0) rfl .nil) ?_
                                          refine C_ret ?_
                                          refine K_end (.inr rfl) (.tmp rfl .nil) (fun w hw => ?_)
                                          refine ⟨_, _, rfl, (by first | exact Mem.le.refl _ | assumption | (repeat first | assumption | refine Mem.le.trans (by assumption) ?_)), hw.cnt (by intro zz; first | exact Nat.le_refl _ | (simp only [cnt_app, cnt_cons, cnt_nil, cat, List.append_eq, List.append_assoc, List.cons_append, List.nil_append, List.append_nil]; omega) | (simp only [cnt_app, cnt_cons, cnt_nil, cat, List.append_eq, List.append_assoc, List.cons_append, List.nil_append, List.append_nil, PeerV.segs]; omega)), ?_⟩
                                          clear hw
                                          first | rfl | (simp; done)
                                      · first | replace hc16 := dT hc16 | replace hc16 := dF hc16 | replace hc16 := nT hc16 | replace hc16 := nF hc16 | skip
                                        try simp only [PeerV.eta] at hc16
                                        first
                                        | (exfalso; omega)
                                        | (exfalso; simp [eqX] at hc16; done)
                                        | contradiction
                                        | skip
                                          refine X_skip rfl rfl rfl ?_
                                          refine X_skip rfl rfl rfl ?_
                                          refine X_pick rfl rfl rfl rfl rfl ?_
                                          refine X_assign rfl rfl rfl rfl ?_
                                          refine XD_end ?_
                                          refine K_then ?_
                                          refine C_pick (.cons (k := 0) rfl .nil) ?_
                                          refine C_ret ?_
                                          refine K_end (.inr rfl) (.tmp rfl .nil) (fun w hw => ?_)
                                          refine ⟨_, _, rfl, (by first | exact Mem.le.refl _ | assumption | (repeat first | assumption | refine Mem.le.trans (by assumption) ?_)), hw.cnt (by intro zz; first | exact Nat.le_refl _ | (simp only [cnt_app, cnt_cons, cnt_nil, cat, List.append_eq, List.append_assoc, List.cons_append, List.nil_append, List.append_nil]; omega) | (simp only [cnt_app, cnt_cons, cnt_nil, cat, List.append_eq, List.append_assoc, List.cons_append, List.nil_append, List.append_nil, PeerV.segs]; omega)), ?_⟩
                                          clear hw
                                          first | rfl | (simp; done)
                                  · first | replace hc13 := dT hc13 | replace hc13 := dF hc13 | replace hc13 := nT hc13 | replace hc13 := nF hc13 | skip
                                    try simp only [PeerV.eta] at hc13
                                    first
                                    | (exfalso; omega)
                                    | (exfalso; simp [eqX] at hc13; done)
                                    | contradiction
                                    | skip
                                      refine X_skip rfl rfl rfl ?_
                                      refine X_skip rfl rfl rfl ?_
                                      refine X_skip rfl rfl rfl ?_
                                      refine X_pick rfl rfl rfl rfl rfl ?_
                                      refine X_move rfl rfl rfl rfl ?_
                                      refine X_skip rfl rfl rfl ?_
                                      refine X_skip rfl rfl rfl ?_
                                      refine X_pick rfl rfl rfl rfl rfl ?_
                                      refine X_assign rfl rfl rfl rfl ?_
                                      refine XD_end ?_
                                      refine K_then ?_
                                      refine C_pick (.cons (k := 0) rfl .nil) ?_
                                      refine C_ret ?_
                                      refine K_end (.inr rfl) (.tmp rfl .nil) (fun w hw => ?_)
                                      refine ⟨_, _, rfl, (by first | exact Mem.le.refl _ | assumption | (repeat first | assumption | refine Mem.le.trans (by assumption) ?_)), hw.cnt (by intro zz; first | exact Nat.le_refl _ | (simp only [cnt_app, cnt_cons, cnt_nil, cat, List.append_eq, List.append_assoc, List.cons_append, List.nil_append, List.append_nil]; omega) | (simp only [cnt_app, cnt_cons, cnt_nil, cat, List.append_eq, List.append_assoc, List.cons_append, List.nil_append, List.append_nil, PeerV.segs]; omega)), ?_⟩
                                      clear hw
                                      first | rfl | (simp; done)
                              · first | replace hc12 := dT hc12 | replace hc12 := dF hc12 | replace hc12 := nT hc12 | replace hc12 := nF hc12 | skip
                                try simp only [PeerV.eta] at hc12
                                first
                                | (exfalso; omega)
                                | (exfalso; simp [eqX] at hc12; done)
                                | contradiction
                                | skip
                                  refine X_skip rfl rfl rfl ?_
                                  refine X_skip rfl rfl rfl ?_
                                  refine X_skip rfl rfl rfl ?_
                                  refine X_pick rfl rfl rfl rfl rfl ?_
                                  refine X_move rfl rfl rfl rfl ?_
                                  refine X_skip rfl rfl rfl ?_
                                  refine X_skip rfl rfl rfl ?_
                                  refine X_skip rfl rfl rfl ?_
                                  refine X_pick rfl rfl rfl rfl rfl ?_
                                  refine X_move rfl rfl rfl rfl ?_
                                  refine X_skip rfl rfl rfl ?_
                                  refine X_skip rfl rfl rfl ?_
                                  refine X_pick rfl rfl rfl rfl rfl ?_
                                  refine X_assign rfl rfl rfl rfl ?_
                                  refine XD_end ?_
                                  refine K_then ?_
                                  refine C_pick (.cons (k := 0) rfl .nil) ?_
                                  refine C_ret ?_
                                  refine K_end (.inr rfl) (.tmp rfl .nil) (fun w hw => ?_)
                                  refine ⟨_, _, rfl, (by first | exact Mem.le.refl _ | assumption | (repeat first | assumption | refine Mem.le.trans (by assumption) ?_)), hw.cnt (by intro zz; first | exact Nat.le_refl _ | (simp only [cnt_app, cnt_cons, cnt_nil, cat, List.append_eq, List.append_assoc, List.cons_append, List.nil_append, List.append_nil]; omega) | (simp only [cnt_app, cnt_cons, cnt_nil, cat, List.append_eq, List.append_assoc, List.cons_append, List.nil_append, List.append_nil, PeerV.segs]; omega)), ?_⟩
                                  clear hw
                                  first | rfl | (simp; done)
                          · first | replace hc11 := dT hc11 | replace hc11 := dF hc11 | replace hc11 := nT hc11 | replace hc11 := nF hc11 | skip
                            try simp only [PeerV.eta] at hc11
                            first
                            | (exfalso; omega)
                            | (exfalso; simp [eqX] at hc11; done)
                            | contradiction
                            | skip
                              refine X_skip rfl rfl rfl ?_
                              refine X_skip rfl rfl rfl ?_
                              refine X_pick rfl rfl rfl rfl rfl ?_
                              refine X_move rfl rfl rfl rfl ?_
                              refine X_skip rfl rfl rfl ?_
                              refine X_skip rfl rfl rfl ?_
                              refine X_skip rfl rfl rfl ?_
                              refine X_pick rfl rfl rfl rfl rfl ?_
                              refine X_move rfl rfl rfl rfl ?_
                              refine X_skip rfl rfl rfl ?_
                              refine X_skip rfl rfl rfl ?_
                              refine X_skip rfl rfl rfl ?_
                              refine X_pick rfl rfl rfl rfl rfl ?_
                              refine X_move rfl rfl rfl rfl ?_
                              refine X_skip rfl rfl rfl ?_
                              refine X_skip rfl rfl rfl ?_
                              refine X_pick rfl rfl rfl rfl rfl ?_
                              refine X_assign rfl rfl rfl rfl ?_
                              refine XD_end ?_
                              refine K_then ?_
                              refine C_pick (.cons (k := 0) rfl .nil) ?_
                              refine C_ret ?_
                              refine K_end (.inr rfl) (.tmp rfl .nil) (fun w hw => ?_)
                              refine ⟨_, _, rfl, (by first | exact Mem.le.refl _ | assumption | (repeat first | assumption | refine Mem.le.trans (by assumption) ?_)), hw.cnt (by intro zz; first | exact Nat.le_refl _ | (simp only [cnt_app, cnt_cons, cnt_nil, cat, List.append_eq, List.append_assoc, List.cons_append, List.nil_append, List.append_nil]; omega) | (simp only [cnt_app, cnt_cons, cnt_nil, cat, List.append_eq, List.append_assoc, List.cons_append, List.nil_append, List.append_nil, PeerV.segs]; omega)), ?_⟩
                              clear hw
                              first | rfl | (simp; done)
                      · first | replace hc10 := dT hc10 | replace hc10 := dF hc10 | replace hc10 := nT hc10 | replace hc10 := nF hc10 | skip
                        try simp only [PeerV.eta] at hc10
                        first
                        | (exfalso; omega)
                        | (exfalso; simp [eqX] at hc10; done)
                        | contradiction
                        | skip
                          refine X_skip rfl rfl rfl ?_
                          refine X_skip rfl rfl rfl ?_
                          refine X_skip rfl rfl rfl ?_
                          refine X_pick rfl rfl rfl rfl rfl ?_
                          refine X_move rfl rfl rfl rfl ?_
                          refine X_skip rfl rfl rfl ?_
                          refine X_skip rfl rfl rfl ?_
                          refine X_pick rfl rfl rfl rfl rfl ?_
                          refine X_move rfl rfl rfl rfl ?_
                          refine X_skip rfl rfl rfl ?_
                          refine X_skip rfl rfl rfl ?_
                          refine X_skip rfl rfl rfl ?_
                          refine X_pick rfl rfl rfl rfl rfl ?_
                          refine X_move rfl rfl rfl rfl ?_
                          refine X_skip rfl rfl rfl ?_
                          refine X_skip rfl rfl rfl ?_
                          refine X_skip rfl rfl rfl ?_
                          refine X_pick rfl rfl rfl rfl rfl ?_
                          refine X_move rfl rfl rfl rfl ?_
                          refine X_skip rfl rfl rfl ?_
                          refine X_skip rfl rfl rfl ?_
                          refine X_pick rfl rfl rfl rfl rfl ?_
                          refine X_assign rfl rfl rfl rfl ?_
                          refine XD_end ?_
                          refine K_then ?_
                          refine C_pick (.cons (k := 0) rfl .nil) ?_
                          refine C_ret ?_
                          refine K_end (.inr rfl) (.tmp rfl .nil) (fun w hw => ?_)
                          refine ⟨_, _, rfl, (by first | exact Mem.le.refl _ | assumption | (repeat first | assumption | refine Mem.le.trans (by assumption) ?_)), hw.cnt (by intro zz; first | exact Nat.le_refl _ | (simp only [cnt_app, cnt_cons, cnt_nil, cat, List.append_eq, List.append_assoc, List.cons_append, List.nil_append, List.append_nil]; omega) | (simp only [cnt_app, cnt_cons, cnt_nil, cat, List.append_eq, List.append_assoc, List.cons_append, List.nil_append, List.append_nil, PeerV.segs]; omega)), ?_⟩
                          clear hw
                          first | rfl | (simp; done)
                  · first | replace hc9 := dT hc9 | replace hc9 := dF hc9 | replace hc9 := nT hc9 | replace hc9 := nF hc9 | skip
                    try simp only [PeerV.eta] at hc9
                    first
                    | (exfalso; omega)
                    | (exfalso; simp [eqX] at hc9; done)
                    | contradiction
                    | skip
                      refine X_skip rfl rfl rfl ?_
                      refine X_skip rfl rfl rfl ?_
                      refine X_pick rfl rfl rfl rfl rfl ?_
                      refine X_move rfl rfl rfl rfl ?_
                      refine X_skip rfl rfl rfl ?_
                      refine X_skip rfl rfl rfl ?_
                      refine X_skip rfl rfl rfl ?_
                      refine X_pick rfl rfl rfl rfl rfl ?_
                      refine X_move rfl rfl rfl rfl ?_
                      refine X_skip rfl rfl rfl ?_
                      refine X_skip rfl rfl rfl ?_
                      refine X_pick rfl rfl rfl rfl rfl ?_
                      refine X_move rfl rfl rfl rfl ?_
                      refine X_skip rfl rfl rfl ?_
                      refine X_skip rfl rfl rfl ?_
                      refine X_skip rfl rfl rfl ?_
                      refine X_pick rfl rfl rfl rfl rfl ?_
                      refine X_move rfl rfl rfl rfl ?_
                      refine X_skip rfl rfl rfl ?_
                      refine X_skip rfl rfl rfl ?_
                      refine X_skip rfl rfl rfl ?_
                      refine X_pick rfl rfl rfl rfl rfl ?_
                      refine X_move rfl rfl rfl rfl ?_
                      refine X_skip rfl rfl rfl ?_
                      refine X_skip rfl rfl rfl ?_
                      refine X_pick rfl rfl rfl rfl rfl ?_
                      refine X_assign rfl rfl rfl rfl ?_
                      refine XD_end ?_
                      refine K_then ?_
                      refine C_pick (.cons (k := 0) rfl .nil) ?_
                      refine C_ret ?_
                      refine K_end (.inr rfl) (.tmp rfl .nil) (fun w hw => ?_)
                      refine ⟨_, _, rfl, (by first | exact Mem.le.refl _ | assumption | (repeat first | assumption | refine Mem.le.trans (by assumption) ?_)), hw.cnt (by intro zz; first | exact Nat.le_refl _ | (simp only [cnt_app, cnt_cons, cnt_nil, cat, List.append_eq, List.append_assoc, List.cons_append, List.nil_append, List.append_nil]; omega) | (simp only [cnt_app, cnt_cons, cnt_nil, cat, List.append_eq, List.append_assoc, List.cons_append, List.nil_append, List.append_nil, PeerV.segs]; omega)), ?_⟩
                      clear hw
                      first | rfl | (simp; done)
              · first | replace hc8 := dT hc8 | replace hc8 := dF hc8 | replace hc8 := nT hc8 | replace hc8 := nF hc8 | skip
                try simp only [PeerV.eta] at hc8
                first
                | (exfalso; omega)
                | (exfalso; simp [eqX] at hc8; done)
                | contradiction
                | skip
                  refine X_skip rfl rfl rfl ?_
                  refine X_skip rfl rfl rfl ?_
                  refine X_skip rfl rfl rfl ?_
                  refine X_pick rfl rfl rfl rfl rfl ?_
                  refine X_move rfl rfl rfl rfl ?_
                  refine X_skip rfl rfl rfl ?_
                  refine X_skip rfl rfl rfl ?_
                  refine X_pick rfl rfl rfl rfl rfl ?_
                  refine X_move rfl rfl rfl rfl ?_
                  refine X_skip rfl rfl rfl ?_
                  refine X_skip rfl rfl rfl ?_
                  refine X_skip rfl rfl rfl ?_
                  refine X_pick rfl rfl rfl rfl rfl ?_
                  refine X_move rfl rfl rfl rfl ?_
                  refine X_skip rfl rfl rfl ?_
                  refine X_skip rfl rfl rfl ?_
                  refine X_pick rfl rfl rfl rfl rfl ?_
                  refine X_move rfl rfl rfl rfl ?_
                  refine X_skip rfl rfl rfl ?_
                  refine X_skip rfl rfl rfl ?_
                  refine X_skip rfl rfl rfl ?_
                  refine X_pick rfl rfl rfl rfl rfl ?_
                  refine X_move rfl rfl rfl rfl ?_
                  refine X_skip rfl rfl rfl ?_
                  refine X_skip rfl rfl rfl ?_
                  refine X_skip rfl rfl rfl ?_
                  refine X_pick rfl rfl rfl rfl rfl ?_
                  refine X_move rfl rfl rfl rfl ?_
                  refine X_skip rfl rfl rfl ?_
                  refine X_skip rfl rfl rfl ?_
                  refine X_pick rfl rfl rfl rfl rfl ?_
                  refine X_assign rfl rfl rfl rfl ?_
                  refine XD_end ?_
                  refine K_then ?_
                  refine C_pick (.cons (k := 0) rfl .nil) ?_
                  refine C_ret ?_
                  refine K_end (.inr rfl) (.tmp rfl .nil) (fun w hw => ?_)
                  refine ⟨_, _, rfl, (by first | exact Mem.le.refl _ | assumption | (repeat first | assumption | refine Mem.le.trans (by assumption) ?_)), hw.cnt (by intro zz; first | exact Nat.le_refl _ | (simp only [cnt_app, cnt_cons, cnt_nil, cat, List.append_eq, List.append_assoc, List.cons_append, List.nil_append, List.append_nil]; omega) | (simp only [cnt_app, cnt_cons, cnt_nil, cat, List.append_eq, List.append_assoc, List.cons_append, List.nil_append, List.append_nil, PeerV.segs]; omega)), ?_⟩
                  clear hw
                  first | rfl | (simp; done)
          · first | replace hc7 := dT hc7 | replace hc7 := dF hc7 | replace hc7 := nT hc7 | replace hc7 := nF hc7 | skip
            try simp only [PeerV.eta] at hc7
            first
            | (exfalso; omega)
            | (exfalso; simp [eqX] at hc7; done)
            | contradiction
            | skip
              refine X_skip rfl rfl rfl ?_
              refine X_skip rfl rfl rfl ?_
              refine X_pick rfl rfl rfl rfl rfl ?_
              refine X_move rfl rfl rfl rfl ?_
              refine X_skip rfl rfl rfl ?_
              refine X_skip rfl rfl rfl ?_
              refine X_skip rfl rfl rfl ?_
              refine X_pick rfl rfl rfl rfl rfl ?_
              refine X_move rfl rfl rfl rfl ?_
              refine X_skip rfl rfl rfl ?_
              refine X_skip rfl rfl rfl ?_
              refine X_pick rfl rfl rfl rfl rfl ?_
              refine X_move rfl rfl rfl rfl ?_
              refine X_skip rfl rfl rfl ?_
              refine X_skip rfl rfl rfl ?_
              refine X_skip rfl rfl rfl ?_
              refine X_pick rfl rfl rfl rfl rfl ?_
              refine X_move rfl rfl rfl rfl ?_
              refine X_skip rfl rfl rfl ?_
              refine X_skip rfl rfl rfl ?_
              refine X_pick rfl rfl rfl rfl rfl ?_
              refine X_move rfl rfl rfl rfl ?_
              refine X_skip rfl rfl rfl ?_
              refine X_skip rfl rfl rfl ?_
              refine X_skip rfl rfl rfl ?_
              refine X_pick rfl rfl rfl rfl rfl ?_
              refine X_move rfl rfl rfl rfl ?_
              refine X_skip rfl rfl rfl ?_
              refine X_skip rfl rfl rfl ?_
              refine X_skip rfl rfl rfl ?_
              refine X_pick rfl rfl rfl rfl rfl ?_
              refine X_move rfl rfl rfl rfl ?_
              refine X_skip rfl rfl rfl ?_
              refine X_skip rfl rfl rfl ?_
              refine X_pick rfl rfl rfl rfl rfl ?_
              refine X_assign rfl rfl rfl rfl ?_
              refine XD_end ?_
              refine K_then ?_
              refine C_pick (.cons (k := 0) rfl .nil) ?_
              refine C_ret ?_
              refine K_end (.inr rfl) (.tmp rfl .nil) (fun w hw => ?_)
              refine ⟨_, _, rfl, (by first | exact Mem.le.refl _ | assumption | (repeat first | assumption | refine Mem.le.trans (by assumption) ?_)), hw.cnt (by intro zz; first | exact Nat.le_refl _ | (simp only [cnt_app, cnt_cons, cnt_nil, cat, List.append_eq, List.append_assoc, List.cons_append, List.nil_append, List.append_nil]; omega) | (simp only [cnt_app, cnt_cons, cnt_nil, cat, List.append_eq, List.append_assoc, List.cons_append, List.nil_append, List.append_nil, PeerV.segs]; omega)), ?_⟩
              clear hw
              first | rfl | (simp; done)
      · first | replace hc6 := dT hc6 | replace hc6 := dF hc6 | replace hc6 := nT hc6 | replace hc6 := nF hc6 | skip
        try simp only [PeerV.eta] at hc6
        first
        | (exfalso; omega)
        | (exfalso; simp [eqX] at hc6; done)
        | contradiction
        | skip
          refine X_skip rfl rfl rfl ?_
          refine X_skip rfl rfl rfl ?_
          refine X_pick rfl rfl rfl rfl rfl ?_
          refine X_move rfl rfl rfl rfl ?_
          refine X_skip rfl rfl rfl ?_
          refine X_skip rfl rfl rfl ?_
          refine X_pick rfl rfl rfl rfl rfl ?_
          refine X_move rfl rfl rfl rfl ?_
          refine X_skip rfl rfl rfl ?_
          refine X_skip rfl rfl rfl ?_
          refine X_skip rfl rfl rfl ?_
          refine X_pick rfl rfl rfl rfl rfl ?_
          refine X_move rfl rfl rfl rfl ?_
          refine X_skip rfl rfl rfl ?_
          refine X_skip rfl rfl rfl ?_
          refine X_pick rfl rfl rfl rfl rfl ?_
          refine X_move rfl rfl rfl rfl ?_
          refine X_skip rfl rfl rfl ?_
          refine X_skip rfl rfl rfl ?_
          refine X_skip rfl rfl rfl ?_
          refine X_pick rfl rfl rfl rfl rfl ?_
          refine X_move rfl rfl rfl rfl ?_
          refine X_skip rfl rfl rfl ?_
          refine X_skip rfl rfl rfl ?_
          refine X_pick rfl rfl rfl rfl rfl ?_
          refine X_move rfl rfl rfl rfl ?_
          refine X_skip rfl rfl rfl ?_
          refine X_skip rfl rfl rfl ?_
          refine X_skip rfl rfl rfl ?_
          refine X_pick rfl rfl rfl rfl rfl ?_
          refine X_move rfl rfl rfl rfl ?_
          refine X_skip rfl rfl rfl ?_
          refine X_skip rfl rfl rfl ?_
          refine X_skip rfl rfl rfl ?_
          refine X_pick rfl rfl rfl rfl rfl ?_
          refine X_move rfl rfl rfl rfl ?_
          refine X_skip rfl rfl rfl ?_
          refine X_skip rfl rfl rfl ?_
          refine X_pick rfl rfl rfl rfl rfl ?_
          refine X_assign rfl rfl rfl rfl ?_
          refine XD_end ?_
          refine K_then ?_
          refine C_pick (.cons (k := 0) rfl .nil) ?_
          refine C_ret ?_
          refine K_end (.inr rfl) (.tmp rfl .nil) (fun w hw => ?_)
          refine ⟨_, _, rfl, (by first | exact Mem.le.refl _ | assumption | (repeat first | assumption | refine Mem.le.trans (by assumption) ?_)), hw.cnt (by intro zz; first | exact Nat.le_refl _ | (simp only [cnt_app, cnt_cons, cnt_nil, cat, List.append_eq, List.append_assoc, List.cons_append, List.nil_append, List.append_nil]; omega) | (simp only [cnt_app, cnt_cons, cnt_nil, cat, List.append_eq, List.append_assoc, List.cons_append, List.nil_append, List.append_nil, PeerV.segs]; omega)), ?_⟩
          clear hw
          first | rfl | (simp; done)
  · first | replace hc5 := dT hc5 | replace hc5 := dF hc5 | replace hc5 := nT hc5 | replace hc5 := nF hc5 | skip
    try simp only [PeerV.eta] at hc5
    first
    | (exfalso; omega)
    | (exfalso; simp [eqX] at hc5; done)
    | contradiction
    | skip
      refine X_skip rfl rfl rfl ?_
      refine X_skip rfl rfl rfl ?_
      refine X_pick rfl rfl rfl rfl rfl ?_
      refine X_move rfl rfl rfl rfl ?_
      refine X_skip rfl rfl rfl ?_
      refine X_skip rfl rfl rfl ?_
      refine X_pick rfl rfl rfl rfl rfl ?_
      refine X_move rfl rfl rfl rfl ?_
      refine X_skip rfl rfl rfl ?_
      refine X_skip rfl rfl rfl ?_
      refine X_pick rfl rfl rfl rfl rfl ?_
      refine X_move rfl rfl rfl rfl ?_
      refine X_skip rfl rfl rfl ?_
      refine X_skip rfl rfl rfl ?_
      refine X_skip rfl rfl rfl ?_
      refine X_pick rfl rfl rfl rfl rfl ?_
      refine X_move rfl rfl rfl rfl ?_
      refine X_skip rfl rfl rfl ?_
      refine X_skip rfl rfl rfl ?_
      refine X_pick rfl rfl rfl rfl rfl ?_
      refine X_move rfl rfl rfl rfl ?_
      refine X_skip rfl rfl rfl ?_
      refine X_skip rfl rfl rfl ?_
      refine X_skip rfl rfl rfl ?_
      refine X_pick rfl rfl rfl rfl rfl ?_
      refine X_move rfl rfl rfl rfl ?_
      refine X_skip rfl rfl rfl ?_
      refine X_skip rfl rfl rfl ?_
      refine X_pick rfl rfl rfl rfl rfl ?_
      refine X_move rfl rfl rfl rfl ?_
      refine X_skip rfl rfl rfl ?_
      refine X_skip rfl rfl rfl ?_
      refine X_skip rfl rfl rfl ?_
      refine X_pick rfl rfl rfl rfl rfl ?_
      refine X_move rfl rfl rfl rfl ?_
      refine X_skip rfl rfl rfl ?_
      refine X_skip rfl rfl rfl ?_
      refine X_skip rfl rfl rfl ?_
      refine X_pick rfl rfl rfl rfl rfl ?_
      refine X_move rfl rfl rfl rfl ?_
      refine X_skip rfl rfl rfl ?_
      refine X_skip rfl rfl rfl ?_
      refine X_pick rfl rfl rfl rfl rfl ?_
      refine X_assign rfl rfl rfl rfl ?_
      refine XD_end ?_
      refine K_then ?_
      refine C_pick (.cons (k := 0) rfl .nil) ?_
      refine C_ret ?_
      refine K_end (.inr rfl) (.tmp rfl .nil) (fun w hw => ?_)
      refine ⟨_, _, rfl, (by first | exact Mem.le.refl _ | assumption | (repeat first | assumption | refine Mem.le.trans (by assumption) ?_)), hw.cnt (by intro zz; first | exact Nat.le_refl _ | (simp only [cnt_app, cnt_cons, cnt_nil, cat, List.append_eq, List.append_assoc, List.cons_append, List.nil_append, List.append_nil]; omega) | (simp only [cnt_app, cnt_cons, cnt_nil, cat, List.append_eq, List.append_assoc, List.cons_append, List.nil_append, List.append_nil, PeerV.segs]; omega)), ?_⟩
      clear hw
      first | rfl | (simp; done)

end Go.Proofs.YtbafnjniijodfaaDoor
/-
  Circles: arcs.
-/
set_option linter.unusedSimpArgs false
set_option linter.unusedVariables false
set_option linter.unnecessarySimpa false
set_option maxRecDepth 8000
set_option maxHeartbeats 1000000
namespace Go.Proofs.YtbafnjniijodfaaDoor
open Go.Esp
theorem F.ok10 : okFn Tryd.prog 10 = true := by kernel_rfl
theorem F.ok16 : okFn Tryd.prog 16 = true := by kernel_rfl
theorem F.ok17 : okFn Tryd.prog 17 = true := by kernel_rfl

theorem lawArcs_ok (M : Mem) (l : (Sl PeerV)) (id : Plc) (hl0 : SlK M PeerV.segs 21 l) (hM : M.dr = 0) : Esp.Fn Tryd.prog 5 [Sl.val l, aggV [idSeg id]] M (fun _ v => v = .bool true) := by
  obtain ⟨l_a, l_c, l_l⟩ := l
  have k_l : SlK M PeerV.segs 21 ⟨l_a, l_c, l_l⟩ := hl0
  have s_l : SlM M l_a (l_l.map PeerV.segs) 21 := k_l.h1
  have n_l : (l_l.map PeerV.segs).length = l_l.length := List.length_map ..
  have m_l : l_l.length ≤ 9223372036854775807 := k_l.h2
  have c_l : l_l.length ≤ l_c := k_l.h3
  refine fn_enter Tryd.func5 rfl Tryd.ntmps5 rfl ?_; intro H
  refine C_seq ?_
  refine C_region (l := [0, 1]) rfl ?_
  refine X_box rfl rfl rfl (by constructor) rfl ?_; intro b1
  refine X_assign rfl rfl rfl rfl ?_
  refine XD_end ?_
  refine K_then ?_
  refine C_pick (.cons (k := 4) rfl (.cons (k := 3) rfl (.cons (k := 0) rfl .nil))) ?_
  refine C_seq ?_
  refine C_seq ?_
  refine C_region (l := [0, 1, 2]) rfl ?_
  refine X_move rfl rfl rfl rfl ?_
  refine X_len_sl rfl rfl rfl rfl F.elem23 rfl ?_
  refine X_cmp rfl rfl rfl rfl rfl rfl ?_
  refine XD_end ?_
  refine K_then ?_
  refine C_pick (.cons (k := 13) rfl (.cons (k := 4) rfl (.cons (k := 3) rfl (.cons (k := 0) rfl .nil)))) ?_
  refine C_cond rfl (fun hc2 => ?_) (fun hc2 => ?_)
  · first | replace hc2 := dT hc2 | replace hc2 := dF hc2 | replace hc2 := nT hc2 | replace hc2 := nF hc2 | skip
    try simp only [PeerV.eta] at hc2
    first
    | (exfalso; omega)
    | (exfalso; simp [eqX] at hc2; done)
    | contradiction
    | skip
      refine C_seq ?_
      refine C_region (l := [0]) rfl ?_
      refine X_assign rfl rfl rfl rfl ?_
      refine XD_end ?_
      refine K_then ?_
      refine C_pick (.cons (k := 4) rfl (.cons (k := 3) rfl (.cons (k := 0) rfl .nil))) ?_
      refine C_ret ?_
      refine K_ret ?_
      refine K_end (.inr rfl) (.tmp rfl .nil) (fun w hw => ?_)
      refine ⟨_, _, rfl, (by first | exact Mem.le.refl _ | assumption | (repeat first | assumption | refine Mem.le.trans (by assumption) ?_)), hw.cnt (by intro zz; first | exact Nat.le_refl _ | (simp only [cnt_app, cnt_cons, cnt_nil, cat, List.append_eq, List.append_assoc, List.cons_append, List.nil_append, List.append_nil]; omega) | (simp only [cnt_app, cnt_cons, cnt_nil, cat, List.append_eq, List.append_assoc, List.cons_append, List.nil_append, List.append_nil, PeerV.segs]; omega)), ?_⟩
      clear hw
      first | rfl | exact congrArg Value.bool (decide_eq_true (by omega)) | (simp; done) | (simp; rfl) | (simp_all; done)
  · first | replace hc2 := dT hc2 | replace hc2 := dF hc2 | replace hc2 := nT hc2 | replace hc2 := nF hc2 | skip
    try simp only [PeerV.eta] at hc2
    first
    | (exfalso; omega)
    | (exfalso; simp [eqX] at hc2; done)
    | contradiction
    | skip
      refine C_skip ?_
      refine K_then ?_
      refine C_pick (.cons (k := 4) rfl (.cons (k := 3) rfl (.cons (k := 0) rfl .nil))) ?_
      refine C_seq ?_
      refine C_region (l := [0, 1, 2, 3, 4, 5, 6, 7]) rfl ?_
      refine X_move rfl rfl rfl rfl ?_
      first | refine X_load rfl rfl rfl (by repeat first | exact List.Mem.head _ | refine List.Mem.tail _ ?_ | refine List.mem_append_right _ ?_) F.lay32 rfl rfl rfl ?_ | refine X_load_el rfl rfl rfl (by first | assumption | exact SlM.mono (by assumption) (by assumption)) (by first | exact row_map (by omega) | exact List.getElem?_eq_getElem (by omega) | exact rfl | exact row_map (by first | (simp; done) | (simp; omega))) F.lay32 rfl rfl rfl ?_ | refine X_load_rd rfl rfl rfl (by assumption) (by first | exact row_map (by omega) | exact List.getElem?_eq_getElem (by omega) | exact rfl | exact row_map (by first | (simp; done) | (simp; omega))) F.lay32 rfl rfl rfl ?_ | refine X_load_mem rfl rfl rfl (by first | assumption | exact Mem.get_of (by assumption) (by repeat first | assumption | refine Mem.le.trans (by assumption) ?_)) F.lay32 rfl rfl rfl ?_ | refine X_load_osl rfl rfl rfl (by assumption) (by repeat first | exact Rem.here _ | exact Rem.two | apply Rem.skip | apply Rem.over) (by first | exact row_map (by omega) | exact List.getElem?_eq_getElem (by omega) | exact rfl | exact row_map (by first | (simp; done) | (simp; omega))) F.lay32 rfl rfl rfl ?_
      refine X_fs rfl rfl F.ok14 rfl (Owner_ok _ ⟨l_a, l_c, l_l⟩ id (k_l.mono (by first | exact Mem.le.refl _ | assumption | (repeat first | assumption | refine Mem.le.trans (by assumption) ?_)))) rfl ?_
      rintro _ hv
      obtain ⟨⟨ow, co⟩, howe⟩ : ∃ x, ownerR l_l id = x := ⟨_, rfl⟩
      replace hv : _ = ofII (ownerR l_l id) := hv
      rw [howe] at hv
      subst hv
      refine X_move rfl rfl rfl rfl ?_
      refine X_extract rfl rfl rfl rfl rfl ?_
      refine X_extract rfl rfl rfl rfl rfl ?_
      refine X_assign rfl rfl rfl rfl ?_
      refine X_assign rfl rfl rfl rfl ?_
      refine XD_end ?_
      refine K_then ?_
      refine C_pick (.cons (k := 6) rfl (.cons (k := 5) rfl (.cons (k := 4) rfl (.cons (k := 3) rfl (.cons (k := 0) rfl .nil))))) ?_
      refine C_seq ?_
      refine C_seq ?_
      refine C_region (l := [0, 1]) rfl ?_
      refine X_move rfl rfl rfl rfl ?_
      refine X_cmp rfl rfl rfl rfl rfl rfl ?_
      refine XD_end ?_
      refine K_then ?_
      refine C_pick (.cons (k := 21) rfl (.cons (k := 5) rfl (.cons (k := 4) rfl (.cons (k := 3) rfl (.cons (k := 0) rfl .nil))))) ?_
      refine C_cond rfl (fun hc3 => ?_) (fun hc3 => ?_)
      · first | replace hc3 := dT hc3 | replace hc3 := dF hc3 | replace hc3 := nT hc3 | replace hc3 := nF hc3 | skip
        try simp only [PeerV.eta] at hc3
        first
        | (exfalso; omega)
        | (exfalso; simp [eqX] at hc3; done)
        | contradiction
        | skip
          refine C_seq ?_
          have hcn : ¬ IsCircle l_l := fun h9 => by
            unfold ownerR at howe; rw [if_pos h9] at howe; cases howe; omega
          refine C_region (l := [0, 1, 2, 3, 4, 5, 6]) rfl ?_
          refine X_fn rfl rfl F.ok10 rfl (rounded_ok _ (Mem.le.loose (by first | exact Mem.le.refl _ | assumption | (repeat first | assumption | refine Mem.le.trans (by assumption) ?_)) hM)) rfl ?_
          rintro _ M9 hm9 rfl
          refine X_move rfl rfl rfl rfl ?_
          refine XD_part 23 rfl (fun hc4 => ?_) (fun hc4 => ?_)
          · first | replace hc4 := dT hc4 | replace hc4 := dF hc4 | replace hc4 := nT hc4 | replace hc4 := nF hc4 | skip
            try simp only [PeerV.eta] at hc4
            first
            | (exfalso; omega)
            | (exfalso; simp [eqX] at hc4; done)
            | contradiction
            | skip
              refine X_move rfl rfl rfl rfl ?_
              refine X_fs rfl rfl F.ok12 rfl (Circ_ok _ ⟨l_a, l_c, l_l⟩ (k_l.mono (by first | exact Mem.le.refl _ | assumption | (repeat first | assumption | refine Mem.le.trans (by assumption) ?_)))) rfl ?_
              rintro _ hv
              rw [decide_eq_false hcn] at hv
              subst hv
              refine X_not rfl rfl rfl rfl ?_
              refine X_pick rfl rfl rfl rfl rfl ?_
              refine X_assign rfl rfl rfl rfl ?_
              refine XD_end ?_
              refine K_then ?_
              refine C_pick (.cons (k := 4) rfl (.cons (k := 5) rfl (.cons (k := 3) rfl (.cons (k := 0) rfl .nil)))) ?_
              refine C_ret ?_
              refine K_ret ?_
              refine K_end (.inr rfl) (.tmp rfl .nil) (fun w hw => ?_)
              refine ⟨_, _, rfl, (by first | exact Mem.le.refl _ | assumption | (repeat first | assumption | refine Mem.le.trans (by assumption) ?_)), hw.cnt (by intro zz; first | exact Nat.le_refl _ | (simp only [cnt_app, cnt_cons, cnt_nil, cat, List.append_eq, List.append_assoc, List.cons_append, List.nil_append, List.append_nil]; omega) | (simp only [cnt_app, cnt_cons, cnt_nil, cat, List.append_eq, List.append_assoc, List.cons_append, List.nil_append, List.append_nil, PeerV.segs]; omega)), ?_⟩
              clear hw
              first | rfl | exact congrArg Value.bool (decide_eq_true (by omega)) | (simp; done) | (simp; rfl) | (simp_all; done)
          · first | replace hc4 := dT hc4 | replace hc4 := dF hc4 | replace hc4 := nT hc4 | replace hc4 := nF hc4 | skip
            try simp only [PeerV.eta] at hc4
            first | (exfalso; omega) | (exfalso; simp [eqX] at hc4; done) | contradiction
      · first | replace hc3 := dT hc3 | replace hc3 := dF hc3 | replace hc3 := nT hc3 | replace hc3 := nF hc3 | skip
        try simp only [PeerV.eta] at hc3
        first
        | (exfalso; omega)
        | (exfalso; simp [eqX] at hc3; done)
        | contradiction
        | skip
          refine C_skip ?_
          refine K_then ?_
          refine C_pick (.cons (k := 5) rfl (.cons (k := 4) rfl (.cons (k := 3) rfl (.cons (k := 0) rfl .nil)))) ?_
          refine C_seq ?_
          refine C_seq ?_
          have hc : IsCircle l_l := by
            unfold ownerR at howe; split at howe
            · assumption
            · cases howe; exfalso; omega
          have hc1 := hc.1
          obtain ⟨o9, hog⟩ : ∃ o, ownerI l_l id = o := ⟨_, rfl⟩
          have ho9 : o9 < l_l.length := by rw [← hog]; exact ownerI_lt (by omega)
          rw [show ownerR l_l id = (((o9 : Nat) : Int), 0) by unfold ownerR; rw [if_pos hc, hog]] at howe
          obtain ⟨rfl, rfl⟩ : ((o9 : Nat) : Int) = ow ∧ (0 : Int) = co := ⟨congrArg Prod.fst howe, congrArg Prod.snd howe⟩
          refine C_region (l := [0]) rfl ?_
          refine X_assign rfl rfl rfl rfl ?_
          refine XD_end ?_
          refine K_then ?_
          refine C_block ?_
          refine C_pick (.cons (k := 7) rfl (.cons (k := 5) rfl (.cons (k := 4) rfl (.cons (k := 3) rfl (.cons (k := 0) rfl .nil))))) ?_
          refine C_loopS (.succ .zero) (fun (k : Nat) z => z = [(7, .int .i64 (k : Int))] ∧ k ≤ l_l.length) (fun k => l_l.length - k) (0) (⟨rfl, by omega⟩) ?_
          rintro k _ ⟨rfl, hk⟩
          refine C_seq ?_
          refine C_seq ?_
          refine C_region (l := [0, 1, 2, 3]) rfl ?_
          refine X_move rfl rfl rfl rfl ?_
          refine X_move rfl rfl rfl rfl ?_
          refine X_len_sl rfl rfl rfl rfl F.elem23 rfl ?_
          refine X_cmp rfl rfl rfl rfl rfl rfl ?_
          refine XD_end ?_
          refine K_then ?_
          refine C_cond rfl (fun hc5 => ?_) (fun hc5 => ?_)
          · first | replace hc5 := dT hc5 | replace hc5 := dF hc5 | replace hc5 := nT hc5 | replace hc5 := nF hc5 | skip
            try simp only [PeerV.eta] at hc5
            first
            | (exfalso; omega)
            | (exfalso; simp [eqX] at hc5; done)
            | contradiction
            | skip
              refine C_skip ?_
              refine K_then ?_
              refine C_seq ?_
              refine C_block ?_
              refine C_seq ?_
              refine C_region (l := [0, 1, 2, 3, 4, 5, 6, 7, 8, 9, 10, 11]) rfl ?_
              refine X_move rfl rfl rfl rfl ?_
              refine X_move rfl rfl rfl rfl ?_
              refine X_fs rfl rfl F.ok16 rfl (Arc_ok _ ⟨l_a, l_c, l_l⟩ _ (k_l.mono (by first | exact Mem.le.refl _ | assumption | (repeat first | assumption | refine Mem.le.trans (by assumption) ?_)))) rfl ?_
              rintro _ hv
              replace hv : _ = ofArc (arcR l_l ((k : Nat) : Int)) := hv
              obtain ⟨p9, hp9⟩ : ∃ q, (k + l_l.length - 1) % l_l.length = q := ⟨_, rfl⟩
              have hpl : p9 < l_l.length := by rw [← hp9]; exact Nat.mod_lt _ (by omega)
              rw [arcR_yes hc (by omega)] at hv
              simp only [hp9] at hv
              have harc := arc_iff hc.2 (x := id) (i := k) (p := p9) (by omega) hpl hp9
              rw [hog] at harc
              subst hv
              refine X_move rfl rfl rfl rfl ?_
              refine X_extract rfl rfl rfl rfl rfl ?_
              refine X_extract rfl rfl rfl rfl rfl ?_
              refine X_extract rfl rfl rfl rfl rfl ?_
              refine X_alloc rfl rfl F.zero32 (by constructor) rfl ?_; intro b6
              refine X_alloc rfl rfl F.zero32 (by constructor) rfl ?_; intro b7
              refine X_store rfl rfl rfl rfl (by constructor) (by first | ((try simp only [cat, List.cons_append, List.nil_append, List.append_nil]); (repeat (first | exact flat_nil | refine flat_id ?_ | (refine flat_one ?_ ?_; rfl))); done) | exact PeerV.flat _ | exact PeerV.flat ⟨_, _⟩ | exact stFlat _ | exact phS_flat _ | exact phR_flat | (simp [flat, cat, Segs.cells, Seg.cells, Value.oneCell']; done)) (by repeat first | exact Upd.head | apply Upd.tail | apply Upd.over) F.lay32 rfl rfl ?_
              refine X_store rfl rfl rfl rfl (by constructor) (by first | ((try simp only [cat, List.cons_append, List.nil_append, List.append_nil]); (repeat (first | exact flat_nil | refine flat_id ?_ | (refine flat_one ?_ ?_; rfl))); done) | exact PeerV.flat _ | exact PeerV.flat ⟨_, _⟩ | exact stFlat _ | exact phS_flat _ | exact phR_flat | (simp [flat, cat, Segs.cells, Seg.cells, Value.oneCell']; done)) (by repeat first | exact Upd.head | apply Upd.tail | apply Upd.over) F.lay32 rfl rfl ?_
              refine X_assign rfl rfl rfl rfl ?_
              refine XD_end ?_
              refine K_then ?_
              refine C_seq ?_
              refine C_region_any (l := [0, 1, 2, 3, 4, 5, 6, 7, 8, 9, 10, 11, 12, 13, 14, 15, 16, 17, 18, 19, 20]) #[0, 1, 3, 7, 7, 7, 55, 119, 247, 511, 1023, 2047, 4095, 4095, 4095, 32767, 4095, 4095, 200703, 524287, 1048575] _ rfl (by kernel_rfl) (by kernel_rfl) St.drawn (fun _ h => h) ?_
              refine X_move rfl rfl rfl rfl ?_
              refine X_cmp rfl rfl rfl rfl rfl rfl ?_
              refine X_move rfl rfl rfl rfl ?_
              refine XD_part 43 rfl (fun hc8 => ?_) (fun hc8 => ?_)
              · first | replace hc8 := dT hc8 | replace hc8 := dF hc8 | replace hc8 := nT hc8 | replace hc8 := nF hc8 | skip
                try simp only [PeerV.eta] at hc8
                first | (exfalso; omega) | (exfalso; simp [eqX] at hc8; done) | contradiction
              · first | replace hc8 := dT hc8 | replace hc8 := dF hc8 | replace hc8 := nT hc8 | replace hc8 := nF hc8 | skip
                try simp only [PeerV.eta] at hc8
                first
                | (exfalso; omega)
                | (exfalso; simp [eqX] at hc8; done)
                | contradiction
                | skip
                  first | refine X_load rfl rfl rfl (by repeat first | exact List.Mem.head _ | refine List.Mem.tail _ ?_ | refine List.mem_append_right _ ?_) F.lay32 rfl rfl rfl ?_ | refine X_load_el rfl rfl rfl (by first | assumption | exact SlM.mono (by assumption) (by assumption)) (by first | exact row_map (by omega) | exact List.getElem?_eq_getElem (by omega) | exact rfl | exact row_map (by first | (simp; done) | (simp; omega))) F.lay32 rfl rfl rfl ?_ | refine X_load_rd rfl rfl rfl (by assumption) (by first | exact row_map (by omega) | exact List.getElem?_eq_getElem (by omega) | exact rfl | exact row_map (by first | (simp; done) | (simp; omega))) F.lay32 rfl rfl rfl ?_ | refine X_load_mem rfl rfl rfl (by first | assumption | exact Mem.get_of (by assumption) (by repeat first | assumption | refine Mem.le.trans (by assumption) ?_)) F.lay32 rfl rfl rfl ?_ | refine X_load_osl rfl rfl rfl (by assumption) (by repeat first | exact Rem.here _ | exact Rem.two | apply Rem.skip | apply Rem.over) (by first | exact row_map (by omega) | exact List.getElem?_eq_getElem (by omega) | exact rfl | exact row_map (by first | (simp; done) | (simp; omega))) F.lay32 rfl rfl rfl ?_
                  refine X_move rfl rfl rfl rfl ?_
                  refine X_move rfl rfl rfl rfl ?_
                  refine X_indexAddr rfl rfl rfl rfl F.elem23 (by first | rfl | exact (Int.toNat_of_nonneg (by omega)).symm) (by first | omega | (simp; done) | (simp; omega)) (by first | exact ⟨_, _, rfl⟩ | assumption | exact SlM.plain (by assumption) (by first | (simp; done) | (simp; omega)) | exact RdS.plain (by assumption) (by first | (simp; done) | (simp; omega)) | exact OSl.plain (by assumption) (by first | (simp; done) | (simp; omega))) rfl ?_
                  first | refine X_fieldAddr rfl rfl rfl F.foff38_1 rfl ?_ | refine X_fieldAddr_el rfl rfl rfl (by first | exact ⟨_, _, rfl⟩ | assumption | exact SlM.plain (by assumption) (by first | (simp; done) | (simp; omega)) | exact RdS.plain (by assumption) (by first | (simp; done) | (simp; omega)) | exact OSl.plain (by assumption) (by first | (simp; done) | (simp; omega))) F.foff38_1 rfl ?_
                  first | refine X_load rfl rfl rfl (by repeat first | exact List.Mem.head _ | refine List.Mem.tail _ ?_ | refine List.mem_append_right _ ?_) F.lay32 rfl rfl rfl ?_ | refine X_load_el rfl rfl rfl (by first | assumption | exact SlM.mono (by assumption) (by assumption)) (by first | exact row_map (by omega) | exact List.getElem?_eq_getElem (by omega) | exact rfl | exact row_map (by first | (simp; done) | (simp; omega))) F.lay32 rfl rfl rfl ?_ | refine X_load_rd rfl rfl rfl (by assumption) (by first | exact row_map (by omega) | exact List.getElem?_eq_getElem (by omega) | exact rfl | exact row_map (by first | (simp; done) | (simp; omega))) F.lay32 rfl rfl rfl ?_ | refine X_load_mem rfl rfl rfl (by first | assumption | exact Mem.get_of (by assumption) (by repeat first | assumption | refine Mem.le.trans (by assumption) ?_)) F.lay32 rfl rfl rfl ?_ | refine X_load_osl rfl rfl rfl (by assumption) (by repeat first | exact Rem.here _ | exact Rem.two | apply Rem.skip | apply Rem.over) (by first | exact row_map (by omega) | exact List.getElem?_eq_getElem (by omega) | exact rfl | exact row_map (by first | (simp; done) | (simp; omega))) F.lay32 rfl rfl rfl ?_
                  refine X_same (m := 20) rfl rfl rfl rfl rfl (by constructor) (by constructor) F.lay32 F.kinds32 rfl F.guard32 (fit_id fit_nil) (fit_id fit_nil) rfl rfl rfl ?_; intro c9 he10
                  replace he10 : c9 = true ↔ ¬ (Segs.cells _ = Segs.cells _) := he10
                  obtain rfl := neD he10 (cells_id1 (x := _) (y := _)); clear he10
                  refine X_pick rfl rfl rfl rfl rfl ?_
                  refine X_move rfl rfl rfl rfl ?_
                  refine XD_part 52 rfl (fun hc11 => ?_) (fun hc11 => ?_)
                  · first | replace hc11 := dT hc11 | replace hc11 := dF hc11 | replace hc11 := nT hc11 | replace hc11 := nF hc11 | skip
                    try simp only [PeerV.eta] at hc11
                    first | (exfalso; omega) | (exfalso; simp [eqX] at hc11; done) | contradiction
                  · first | replace hc11 := dT hc11 | replace hc11 := dF hc11 | replace hc11 := nT hc11 | replace hc11 := nF hc11 | skip
                    try simp only [PeerV.eta] at hc11
                    first
                    | (exfalso; omega)
                    | (exfalso; simp [eqX] at hc11; done)
                    | contradiction
                    | skip
                      first | refine X_load rfl rfl rfl (by repeat first | exact List.Mem.head _ | refine List.Mem.tail _ ?_ | refine List.mem_append_right _ ?_) F.lay32 rfl rfl rfl ?_ | refine X_load_el rfl rfl rfl (by first | assumption | exact SlM.mono (by assumption) (by assumption)) (by first | exact row_map (by omega) | exact List.getElem?_eq_getElem (by omega) | exact rfl | exact row_map (by first | (simp; done) | (simp; omega))) F.lay32 rfl rfl rfl ?_ | refine X_load_rd rfl rfl rfl (by assumption) (by first | exact row_map (by omega) | exact List.getElem?_eq_getElem (by omega) | exact rfl | exact row_map (by first | (simp; done) | (simp; omega))) F.lay32 rfl rfl rfl ?_ | refine X_load_mem rfl rfl rfl (by first | assumption | exact Mem.get_of (by assumption) (by repeat first | assumption | refine Mem.le.trans (by assumption) ?_)) F.lay32 rfl rfl rfl ?_ | refine X_load_osl rfl rfl rfl (by assumption) (by repeat first | exact Rem.here _ | exact Rem.two | apply Rem.skip | apply Rem.over) (by first | exact row_map (by omega) | exact List.getElem?_eq_getElem (by omega) | exact rfl | exact row_map (by first | (simp; done) | (simp; omega))) F.lay32 rfl rfl rfl ?_
                      first | refine X_load rfl rfl rfl (by repeat first | exact List.Mem.head _ | refine List.Mem.tail _ ?_ | refine List.mem_append_right _ ?_) F.lay32 rfl rfl rfl ?_ | refine X_load_el rfl rfl rfl (by first | assumption | exact SlM.mono (by assumption) (by assumption)) (by first | exact row_map (by omega) | exact List.getElem?_eq_getElem (by omega) | exact rfl | exact row_map (by first | (simp; done) | (simp; omega))) F.lay32 rfl rfl rfl ?_ | refine X_load_rd rfl rfl rfl (by assumption) (by first | exact row_map (by omega) | exact List.getElem?_eq_getElem (by omega) | exact rfl | exact row_map (by first | (simp; done) | (simp; omega))) F.lay32 rfl rfl rfl ?_ | refine X_load_mem rfl rfl rfl (by first | assumption | exact Mem.get_of (by assumption) (by repeat first | assumption | refine Mem.le.trans (by assumption) ?_)) F.lay32 rfl rfl rfl ?_ | refine X_load_osl rfl rfl rfl (by assumption) (by repeat first | exact Rem.here _ | exact Rem.two | apply Rem.skip | apply Rem.over) (by first | exact row_map (by omega) | exact List.getElem?_eq_getElem (by omega) | exact rfl | exact row_map (by first | (simp; done) | (simp; omega))) F.lay32 rfl rfl rfl ?_
                      first | refine X_load rfl rfl rfl (by repeat first | exact List.Mem.head _ | refine List.Mem.tail _ ?_ | refine List.mem_append_right _ ?_) F.lay32 rfl rfl rfl ?_ | refine X_load_el rfl rfl rfl (by first | assumption | exact SlM.mono (by assumption) (by assumption)) (by first | exact row_map (by omega) | exact List.getElem?_eq_getElem (by omega) | exact rfl | exact row_map (by first | (simp; done) | (simp; omega))) F.lay32 rfl rfl rfl ?_ | refine X_load_rd rfl rfl rfl (by assumption) (by first | exact row_map (by omega) | exact List.getElem?_eq_getElem (by omega) | exact rfl | exact row_map (by first | (simp; done) | (simp; omega))) F.lay32 rfl rfl rfl ?_ | refine X_load_mem rfl rfl rfl (by first | assumption | exact Mem.get_of (by assumption) (by repeat first | assumption | refine Mem.le.trans (by assumption) ?_)) F.lay32 rfl rfl rfl ?_ | refine X_load_osl rfl rfl rfl (by assumption) (by repeat first | exact Rem.here _ | exact Rem.two | apply Rem.skip | apply Rem.over) (by first | exact row_map (by omega) | exact List.getElem?_eq_getElem (by omega) | exact rfl | exact row_map (by first | (simp; done) | (simp; omega))) F.lay32 rfl rfl rfl ?_
                      refine X_fs rfl rfl F.ok17 rfl (Half_ok _ _ _ _) rfl ?_
                      rintro _ rfl
                      refine X_move rfl rfl rfl rfl ?_
                      refine X_move rfl rfl rfl rfl ?_
                      refine X_cmp rfl rfl rfl rfl rfl rfl ?_
                      refine X_eqb rfl rfl rfl rfl rfl Tryd.underlying4 rfl ?_
                      refine XD_is 60 rfl (congrArg Value.bool (show _ = false from by
                        by_cases h9 : k = o9
                        · rw [decide_eq_true (harc.2 h9), decide_eq_true (show (k : Int) = (o9 : Int) by omega)]; rfl
                        · rw [decide_eq_false (fun h8 => h9 (harc.1 h8)), decide_eq_false (show ¬ (k : Int) = (o9 : Int) by omega)]; rfl)) ?_
                      refine X_pick rfl rfl rfl rfl rfl ?_
                      refine XD_end ?_
                      refine K_then ?_
                      refine C_cond rfl (fun hc12 => ?_) (fun hc12 => ?_)
                      · first | replace hc12 := dT hc12 | replace hc12 := dF hc12 | replace hc12 := nT hc12 | replace hc12 := nF hc12 | skip
                        try simp only [PeerV.eta] at hc12
                        first | (exfalso; omega) | (exfalso; simp [eqX] at hc12; done) | contradiction
                      · first | replace hc12 := dT hc12 | replace hc12 := dF hc12 | replace hc12 := nT hc12 | replace hc12 := nF hc12 | skip
                        try simp only [PeerV.eta] at hc12
                        first
                        | (exfalso; omega)
                        | (exfalso; simp [eqX] at hc12; done)
                        | contradiction
                        | skip
                          refine C_skip ?_
                          refine K_out ?_
                          refine K_then ?_
                          refine C_region (l := [0, 1, 2]) rfl ?_
                          refine X_move rfl rfl rfl rfl ?_
                          refine X_ari rfl rfl rfl rfl rfl (by first | exact wrap_in (by decide) (by omega) | exact wrap_u64_in (by decide) (by omega) | exact wrap_u8_in (by decide) (by omega) | exact wrap_u32_in (by decide) (by omega) | exact wrap_u64 _ | exact wrap_u8 _ | exact wrap_u32 _ | exact rfl) rfl ?_
                          refine X_assign rfl rfl rfl rfl ?_
                          refine XD_end ?_
                          refine K_roundS (a' := [(7, _)]) (k + 1) (.cons (k := 7) rfl (.cons (k := 5) rfl (.cons (k := 4) rfl (.cons (k := 3) rfl (.cons (k := 0) rfl (.nil)))))) (fun w hw => by first | exact hw | exact hw.cnt (by intro zz; first | exact Nat.le_refl _ | (simp only [cnt_app, cnt_cons, cnt_nil, cat, List.append_eq, List.append_assoc, List.cons_append, List.nil_append, List.append_nil]; omega) | (simp only [cnt_app, cnt_cons, cnt_nil, cat, List.append_eq, List.append_assoc, List.cons_append, List.nil_append, List.append_nil, PeerV.segs]; omega))) ?_ ?_
                          · exact ⟨rfl, by omega⟩
                          · omega
          · first | replace hc5 := dT hc5 | replace hc5 := dF hc5 | replace hc5 := nT hc5 | replace hc5 := nF hc5 | skip
            try simp only [PeerV.eta] at hc5
            first
            | (exfalso; omega)
            | (exfalso; simp [eqX] at hc5; done)
            | contradiction
            | skip
              refine C_exit ?_
              refine K_exit ?_
              refine K_exit ?_
              refine K_hit ?_
              refine K_then ?_
              refine C_pick (.cons (k := 5) rfl (.cons (k := 4) rfl (.cons (k := 0) rfl .nil))) ?_
              refine C_seq ?_
              refine C_region (l := [0, 1, 2, 3, 4, 5, 6, 7, 8, 9, 10, 11]) rfl ?_
              refine X_fn rfl rfl F.ok10 rfl (rounded_ok _ (Mem.le.loose (by first | exact Mem.le.refl _ | assumption | (repeat first | assumption | refine Mem.le.trans (by assumption) ?_)) hM)) rfl ?_
              rintro _ M9 hm9 rfl
              refine X_move rfl rfl rfl rfl ?_
              refine XD_part 63 rfl (fun hc13 => ?_) (fun hc13 => ?_)
              · first | replace hc13 := dT hc13 | replace hc13 := dF hc13 | replace hc13 := nT hc13 | replace hc13 := nF hc13 | skip
                try simp only [PeerV.eta] at hc13
                first
                | (exfalso; omega)
                | (exfalso; simp [eqX] at hc13; done)
                | contradiction
                | skip
                  refine X_move rfl rfl rfl rfl ?_
                  refine X_cmp rfl rfl rfl rfl rfl rfl ?_
                  refine X_pick rfl rfl rfl rfl rfl ?_
                  refine X_move rfl rfl rfl rfl ?_
                  refine XD_part 67 rfl (fun hc14 => ?_) (fun hc14 => ?_)
                  · first | replace hc14 := dT hc14 | replace hc14 := dF hc14 | replace hc14 := nT hc14 | replace hc14 := nF hc14 | skip
                    try simp only [PeerV.eta] at hc14
                    first
                    | (exfalso; omega)
                    | (exfalso; simp [eqX] at hc14; done)
                    | contradiction
                    | skip
                      refine X_move rfl rfl rfl rfl ?_
                      refine X_move rfl rfl rfl rfl ?_
                      refine X_len_sl rfl rfl rfl rfl F.elem23 rfl ?_
                      refine X_cmp rfl rfl rfl rfl rfl rfl ?_
                      refine X_pick rfl rfl rfl rfl rfl ?_
                      refine X_assign rfl rfl rfl rfl ?_
                      refine XD_end ?_
                      refine K_then ?_
                      refine C_pick (.cons (k := 4) rfl .nil) ?_
                      refine C_ret ?_
                      refine K_end (.inr rfl) (.tmp rfl .nil) (fun w hw => ?_)
                      refine ⟨_, _, rfl, (by first | exact Mem.le.refl _ | assumption | (repeat first | assumption | refine Mem.le.trans (by assumption) ?_)), hw.cnt (by intro zz; first | exact Nat.le_refl _ | (simp only [cnt_app, cnt_cons, cnt_nil, cat, List.append_eq, List.append_assoc, List.cons_append, List.nil_append, List.append_nil]; omega) | (simp only [cnt_app, cnt_cons, cnt_nil, cat, List.append_eq, List.append_assoc, List.cons_append, List.nil_append, List.append_nil, PeerV.segs]; omega)), ?_⟩
                      clear hw
                      first | rfl | exact congrArg Value.bool (decide_eq_true (by omega)) | (simp; done) | (simp; rfl) | (simp_all; done)
                  · first | replace hc14 := dT hc14 | replace hc14 := dF hc14 | replace hc14 := nT hc14 | replace hc14 := nF hc14 | skip
                    try simp only [PeerV.eta] at hc14
                    first | (exfalso; omega) | (exfalso; simp [eqX] at hc14; done) | contradiction
              · first | replace hc13 := dT hc13 | replace hc13 := dF hc13 | replace hc13 := nT hc13 | replace hc13 := nF hc13 | skip
                try simp only [PeerV.eta] at hc13
                first | (exfalso; omega) | (exfalso; simp [eqX] at hc13; done) | contradiction

end Go.Proofs.YtbafnjniijodfaaDoor
/-
  Circles: as the document has them.
-/
set_option linter.unusedSimpArgs false
set_option linter.unusedVariables false
set_option linter.unnecessarySimpa false
set_option maxRecDepth 8000
set_option maxHeartbeats 1000000
namespace Go.Proofs.YtbafnjniijodfaaDoor
open Go.Esp
theorem F.ok19 : okFn Tryd.prog 19 = true := by kernel_rfl
theorem F.ok20 : okFn Tryd.prog 20 = true := by kernel_rfl
theorem F.ok21 : okFn Tryd.prog 21 = true := by kernel_rfl
theorem F.ok22 : okFn Tryd.prog 22 = true := by kernel_rfl

theorem lawDoes_ok (M : Mem) (l : (Sl PeerV)) (id : Plc) (i : Int) (r : Int) (hl0 : SlK M PeerV.segs 21 l) (hM : M.dr = 0) : Esp.Fn Tryd.prog 6 [Sl.val l, aggV [idSeg id], .int .i64 i, .int .i64 r] M (fun _ v => v = .bool true) := by
  obtain ⟨l_a, l_c, l_l⟩ := l
  have k_l : SlK M PeerV.segs 21 ⟨l_a, l_c, l_l⟩ := hl0
  have s_l : SlM M l_a (l_l.map PeerV.segs) 21 := k_l.h1
  have n_l : (l_l.map PeerV.segs).length = l_l.length := List.length_map ..
  have m_l : l_l.length ≤ 9223372036854775807 := k_l.h2
  have c_l : l_l.length ≤ l_c := k_l.h3
  obtain ⟨⟨ow, co⟩, howe⟩ : ∃ x, ownerR l_l id = x := ⟨_, rfl⟩
  obtain ⟨⟨CL, ce⟩, hcop⟩ : ∃ x, copiesR l_l id r = x := ⟨_, rfl⟩
  obtain ⟨⟨FL, fe⟩, hfin⟩ : ∃ x, fingersR l_l i = x := ⟨_, rfl⟩
  obtain ⟨⟨ax, ay, ae⟩, harce⟩ : ∃ x, arcR l_l i = x := ⟨_, rfl⟩
  refine fn_enter Tryd.func6 rfl Tryd.ntmps6 rfl ?_; intro H
  refine C_seq ?_
  refine C_region (l := [0, 1]) rfl ?_
  refine X_box rfl rfl rfl (by constructor) rfl ?_; intro b1
  refine X_assign rfl rfl rfl rfl ?_
  refine XD_end ?_
  refine K_then ?_
  refine C_pick (.cons (k := 8) rfl (.cons (k := 5) rfl (.cons (k := 0) rfl (.cons (k := 2) rfl (.cons (k := 3) rfl .nil))))) ?_
  refine C_seq ?_
  refine C_seq ?_
  refine C_region (l := [0, 1, 2]) rfl ?_
  refine X_move rfl rfl rfl rfl ?_
  refine X_len_sl rfl rfl rfl rfl F.elem23 rfl ?_
  refine X_cmp rfl rfl rfl rfl rfl rfl ?_
  refine XD_end ?_
  refine K_then ?_
  refine C_pick (.cons (k := 29) rfl (.cons (k := 8) rfl (.cons (k := 5) rfl (.cons (k := 0) rfl (.cons (k := 2) rfl (.cons (k := 3) rfl .nil)))))) ?_
  refine C_cond rfl (fun hc2 => ?_) (fun hc2 => ?_)
  · first | replace hc2 := dT hc2 | replace hc2 := dF hc2 | replace hc2 := nT hc2 | replace hc2 := nF hc2 | skip
    try simp only [PeerV.eta] at hc2
    first
    | (exfalso; omega)
    | (exfalso; simp [eqX] at hc2; done)
    | contradiction
    | skip
      refine C_seq ?_
      refine C_region (l := [0]) rfl ?_
      refine X_assign rfl rfl rfl rfl ?_
      refine XD_end ?_
      refine K_then ?_
      refine C_pick (.cons (k := 8) rfl (.cons (k := 5) rfl (.cons (k := 0) rfl (.cons (k := 2) rfl (.cons (k := 3) rfl .nil))))) ?_
      refine C_ret ?_
      refine K_ret ?_
      refine K_end (.inr rfl) (.tmp rfl .nil) (fun w hw => ?_)
      refine ⟨_, _, rfl, (by first | exact Mem.le.refl _ | assumption | (repeat first | assumption | refine Mem.le.trans (by assumption) ?_)), hw.cnt (by intro zz; first | exact Nat.le_refl _ | (simp only [cnt_app, cnt_cons, cnt_nil, cat, List.append_eq, List.append_assoc, List.cons_append, List.nil_append, List.append_nil]; omega) | (simp only [cnt_app, cnt_cons, cnt_nil, cat, List.append_eq, List.append_assoc, List.cons_append, List.nil_append, List.append_nil, PeerV.segs]; omega)), ?_⟩
      clear hw
      first | rfl | exact congrArg Value.bool (decide_eq_true (by omega)) | (simp; done) | (simp; rfl) | (simp_all; done)
  · first | replace hc2 := dT hc2 | replace hc2 := dF hc2 | replace hc2 := nT hc2 | replace hc2 := nF hc2 | skip
    try simp only [PeerV.eta] at hc2
    first
    | (exfalso; omega)
    | (exfalso; simp [eqX] at hc2; done)
    | contradiction
    | skip
      refine C_skip ?_
      refine K_then ?_
      refine C_pick (.cons (k := 8) rfl (.cons (k := 5) rfl (.cons (k := 0) rfl (.cons (k := 2) rfl (.cons (k := 3) rfl .nil))))) ?_
      refine C_seq ?_
      refine C_region (l := [0, 1, 2, 3, 4, 5, 6, 7]) rfl ?_
      refine X_move rfl rfl rfl rfl ?_
      first | refine X_load rfl rfl rfl (by repeat first | exact List.Mem.head _ | refine List.Mem.tail _ ?_ | refine List.mem_append_right _ ?_) F.lay32 rfl rfl rfl ?_ | refine X_load_el rfl rfl rfl (by first | assumption | exact SlM.mono (by assumption) (by assumption)) (by first | exact row_map (by omega) | exact List.getElem?_eq_getElem (by omega) | exact rfl | exact row_map (by first | (simp; done) | (simp; omega))) F.lay32 rfl rfl rfl ?_ | refine X_load_rd rfl rfl rfl (by assumption) (by first | exact row_map (by omega) | exact List.getElem?_eq_getElem (by omega) | exact rfl | exact row_map (by first | (simp; done) | (simp; omega))) F.lay32 rfl rfl rfl ?_ | refine X_load_mem rfl rfl rfl (by first | assumption | exact Mem.get_of (by assumption) (by repeat first | assumption | refine Mem.le.trans (by assumption) ?_)) F.lay32 rfl rfl rfl ?_ | refine X_load_osl rfl rfl rfl (by assumption) (by repeat first | exact Rem.here _ | exact Rem.two | apply Rem.skip | apply Rem.over) (by first | exact row_map (by omega) | exact List.getElem?_eq_getElem (by omega) | exact rfl | exact row_map (by first | (simp; done) | (simp; omega))) F.lay32 rfl rfl rfl ?_
      refine X_fs rfl rfl F.ok14 rfl (Owner_ok _ ⟨l_a, l_c, l_l⟩ id (k_l.mono (by first | exact Mem.le.refl _ | assumption | (repeat first | assumption | refine Mem.le.trans (by assumption) ?_)))) rfl ?_
      rintro _ hv
      replace hv : _ = ofII (ownerR l_l id) := hv
      rw [howe] at hv
      subst hv
      refine X_move rfl rfl rfl rfl ?_
      refine X_extract rfl rfl rfl rfl rfl ?_
      refine X_extract rfl rfl rfl rfl rfl ?_
      refine X_assign rfl rfl rfl rfl ?_
      refine X_assign rfl rfl rfl rfl ?_
      refine XD_end ?_
      refine K_then ?_
      refine C_pick (.cons (k := 10) rfl (.cons (k := 9) rfl (.cons (k := 8) rfl (.cons (k := 5) rfl (.cons (k := 0) rfl (.cons (k := 2) rfl (.cons (k := 3) rfl .nil))))))) ?_
      refine C_seq ?_
      refine C_region (l := [0, 1, 2, 3, 4, 5, 6, 7]) rfl ?_
      refine X_move rfl rfl rfl rfl ?_
      first | refine X_load rfl rfl rfl (by repeat first | exact List.Mem.head _ | refine List.Mem.tail _ ?_ | refine List.mem_append_right _ ?_) F.lay32 rfl rfl rfl ?_ | refine X_load_el rfl rfl rfl (by first | assumption | exact SlM.mono (by assumption) (by assumption)) (by first | exact row_map (by omega) | exact List.getElem?_eq_getElem (by omega) | exact rfl | exact row_map (by first | (simp; done) | (simp; omega))) F.lay32 rfl rfl rfl ?_ | refine X_load_rd rfl rfl rfl (by assumption) (by first | exact row_map (by omega) | exact List.getElem?_eq_getElem (by omega) | exact rfl | exact row_map (by first | (simp; done) | (simp; omega))) F.lay32 rfl rfl rfl ?_ | refine X_load_mem rfl rfl rfl (by first | assumption | exact Mem.get_of (by assumption) (by repeat first | assumption | refine Mem.le.trans (by assumption) ?_)) F.lay32 rfl rfl rfl ?_ | refine X_load_osl rfl rfl rfl (by assumption) (by repeat first | exact Rem.here _ | exact Rem.two | apply Rem.skip | apply Rem.over) (by first | exact row_map (by omega) | exact List.getElem?_eq_getElem (by omega) | exact rfl | exact row_map (by first | (simp; done) | (simp; omega))) F.lay32 rfl rfl rfl ?_
      refine X_fs rfl rfl F.ok18 rfl (rOwner_ok _ ⟨l_a, l_c, l_l⟩ id (k_l.mono (by first | exact Mem.le.refl _ | assumption | (repeat first | assumption | refine Mem.le.trans (by assumption) ?_)))) rfl ?_
      rintro _ hv
      replace hv : _ = ofII (ownerR l_l id) := hv
      rw [howe] at hv
      subst hv
      refine X_move rfl rfl rfl rfl ?_
      refine X_extract rfl rfl rfl rfl rfl ?_
      refine X_extract rfl rfl rfl rfl rfl ?_
      refine X_assign rfl rfl rfl rfl ?_
      refine X_assign rfl rfl rfl rfl ?_
      refine XD_end ?_
      refine K_then ?_
      refine C_pick (.cons (k := 12) rfl (.cons (k := 11) rfl (.cons (k := 10) rfl (.cons (k := 9) rfl (.cons (k := 8) rfl (.cons (k := 5) rfl (.cons (k := 0) rfl (.cons (k := 2) rfl (.cons (k := 3) rfl .nil))))))))) ?_
      refine C_seq ?_
      refine C_region (l := [0, 1, 2, 3, 4, 5, 6, 7, 8]) rfl ?_
      refine X_move rfl rfl rfl rfl ?_
      first | refine X_load rfl rfl rfl (by repeat first | exact List.Mem.head _ | refine List.Mem.tail _ ?_ | refine List.mem_append_right _ ?_) F.lay32 rfl rfl rfl ?_ | refine X_load_el rfl rfl rfl (by first | assumption | exact SlM.mono (by assumption) (by assumption)) (by first | exact row_map (by omega) | exact List.getElem?_eq_getElem (by omega) | exact rfl | exact row_map (by first | (simp; done) | (simp; omega))) F.lay32 rfl rfl rfl ?_ | refine X_load_rd rfl rfl rfl (by assumption) (by first | exact row_map (by omega) | exact List.getElem?_eq_getElem (by omega) | exact rfl | exact row_map (by first | (simp; done) | (simp; omega))) F.lay32 rfl rfl rfl ?_ | refine X_load_mem rfl rfl rfl (by first | assumption | exact Mem.get_of (by assumption) (by repeat first | assumption | refine Mem.le.trans (by assumption) ?_)) F.lay32 rfl rfl rfl ?_ | refine X_load_osl rfl rfl rfl (by assumption) (by repeat first | exact Rem.here _ | exact Rem.two | apply Rem.skip | apply Rem.over) (by first | exact row_map (by omega) | exact List.getElem?_eq_getElem (by omega) | exact rfl | exact row_map (by first | (simp; done) | (simp; omega))) F.lay32 rfl rfl rfl ?_
      refine X_move rfl rfl rfl rfl ?_
      refine X_fn rfl rfl F.ok15 rfl (Copies_ok _ ⟨l_a, l_c, l_l⟩ id r (k_l.mono (by first | exact Mem.le.refl _ | assumption | (repeat first | assumption | refine Mem.le.trans (by assumption) ?_)))) rfl ?_
      rintro _ M1 hm1 hv
      replace hv : IntsE _ _ (copiesR l_l id r) := hv
      rw [hcop] at hv
      obtain ⟨⟨a1, c1, l1⟩, rfl, h1, k1⟩ := hv
      simp only at h1
      subst h1
      refine X_move rfl rfl rfl rfl ?_
      refine X_extract rfl rfl rfl rfl rfl ?_
      refine X_extract rfl rfl rfl rfl rfl ?_
      refine X_assign rfl rfl rfl rfl ?_
      refine X_assign rfl rfl rfl rfl ?_
      refine XD_end ?_
      refine K_then ?_
      refine C_pick (.cons (k := 14) rfl (.cons (k := 13) rfl (.cons (k := 12) rfl (.cons (k := 11) rfl (.cons (k := 10) rfl (.cons (k := 9) rfl (.cons (k := 8) rfl (.cons (k := 5) rfl (.cons (k := 0) rfl (.cons (k := 2) rfl (.cons (k := 3) rfl .nil))))))))))) ?_
      refine C_seq ?_
      refine C_region (l := [0, 1, 2, 3, 4, 5, 6, 7, 8]) rfl ?_
      refine X_move rfl rfl rfl rfl ?_
      first | refine X_load rfl rfl rfl (by repeat first | exact List.Mem.head _ | refine List.Mem.tail _ ?_ | refine List.mem_append_right _ ?_) F.lay32 rfl rfl rfl ?_ | refine X_load_el rfl rfl rfl (by first | assumption | exact SlM.mono (by assumption) (by assumption)) (by first | exact row_map (by omega) | exact List.getElem?_eq_getElem (by omega) | exact rfl | exact row_map (by first | (simp; done) | (simp; omega))) F.lay32 rfl rfl rfl ?_ | refine X_load_rd rfl rfl rfl (by assumption) (by first | exact row_map (by omega) | exact List.getElem?_eq_getElem (by omega) | exact rfl | exact row_map (by first | (simp; done) | (simp; omega))) F.lay32 rfl rfl rfl ?_ | refine X_load_mem rfl rfl rfl (by first | assumption | exact Mem.get_of (by assumption) (by repeat first | assumption | refine Mem.le.trans (by assumption) ?_)) F.lay32 rfl rfl rfl ?_ | refine X_load_osl rfl rfl rfl (by assumption) (by repeat first | exact Rem.here _ | exact Rem.two | apply Rem.skip | apply Rem.over) (by first | exact row_map (by omega) | exact List.getElem?_eq_getElem (by omega) | exact rfl | exact row_map (by first | (simp; done) | (simp; omega))) F.lay32 rfl rfl rfl ?_
      refine X_move rfl rfl rfl rfl ?_
      refine X_fn rfl rfl F.ok19 rfl (rCopies_ok _ ⟨l_a, l_c, l_l⟩ id r (k_l.mono (by first | exact Mem.le.refl _ | assumption | (repeat first | assumption | refine Mem.le.trans (by assumption) ?_)))) rfl ?_
      rintro _ M2 hm2 hv
      replace hv : IntsE _ _ (copiesR l_l id r) := hv
      rw [hcop] at hv
      obtain ⟨⟨a2, c2, l2⟩, rfl, h2, k2⟩ := hv
      simp only at h2
      subst h2
      refine X_move rfl rfl rfl rfl ?_
      refine X_extract rfl rfl rfl rfl rfl ?_
      refine X_extract rfl rfl rfl rfl rfl ?_
      refine X_assign rfl rfl rfl rfl ?_
      refine X_assign rfl rfl rfl rfl ?_
      refine XD_end ?_
      refine K_then ?_
      refine C_pick (.cons (k := 16) rfl (.cons (k := 15) rfl (.cons (k := 14) rfl (.cons (k := 13) rfl (.cons (k := 12) rfl (.cons (k := 11) rfl (.cons (k := 10) rfl (.cons (k := 9) rfl (.cons (k := 8) rfl (.cons (k := 0) rfl (.cons (k := 2) rfl .nil))))))))))) ?_
      refine C_seq ?_
      refine C_region (l := [0, 1, 2, 3, 4, 5, 6, 7]) rfl ?_
      refine X_move rfl rfl rfl rfl ?_
      refine X_move rfl rfl rfl rfl ?_
      refine X_fn rfl rfl F.ok20 rfl (Fingers_ok _ ⟨l_a, l_c, l_l⟩ i (k_l.mono (by first | exact Mem.le.refl _ | assumption | (repeat first | assumption | refine Mem.le.trans (by assumption) ?_)))) rfl ?_
      rintro _ M3 hm3 hv
      replace hv : IntsE _ _ (fingersR l_l i) := hv
      rw [hfin] at hv
      obtain ⟨⟨a3, c3, l3⟩, rfl, h3, k3⟩ := hv
      simp only at h3
      subst h3
      refine X_move rfl rfl rfl rfl ?_
      refine X_extract rfl rfl rfl rfl rfl ?_
      refine X_extract rfl rfl rfl rfl rfl ?_
      refine X_assign rfl rfl rfl rfl ?_
      refine X_assign rfl rfl rfl rfl ?_
      refine XD_end ?_
      refine K_then ?_
      refine C_pick (.cons (k := 18) rfl (.cons (k := 17) rfl (.cons (k := 16) rfl (.cons (k := 15) rfl (.cons (k := 14) rfl (.cons (k := 13) rfl (.cons (k := 12) rfl (.cons (k := 11) rfl (.cons (k := 10) rfl (.cons (k := 9) rfl (.cons (k := 8) rfl (.cons (k := 0) rfl (.cons (k := 2) rfl .nil))))))))))))) ?_
      refine C_seq ?_
      refine C_region (l := [0, 1, 2, 3, 4, 5, 6, 7]) rfl ?_
      refine X_move rfl rfl rfl rfl ?_
      refine X_move rfl rfl rfl rfl ?_
      refine X_fn rfl rfl F.ok21 rfl (rFingers_ok _ ⟨l_a, l_c, l_l⟩ i (k_l.mono (by first | exact Mem.le.refl _ | assumption | (repeat first | assumption | refine Mem.le.trans (by assumption) ?_)))) rfl ?_
      rintro _ M4 hm4 hv
      replace hv : IntsE _ _ (fingersR l_l i) := hv
      rw [hfin] at hv
      obtain ⟨⟨a4, c4, l4⟩, rfl, h4, k4⟩ := hv
      simp only at h4
      subst h4
      refine X_move rfl rfl rfl rfl ?_
      refine X_extract rfl rfl rfl rfl rfl ?_
      refine X_extract rfl rfl rfl rfl rfl ?_
      refine X_assign rfl rfl rfl rfl ?_
      refine X_assign rfl rfl rfl rfl ?_
      refine XD_end ?_
      refine K_then ?_
      refine C_pick (.cons (k := 20) rfl (.cons (k := 19) rfl (.cons (k := 18) rfl (.cons (k := 17) rfl (.cons (k := 16) rfl (.cons (k := 15) rfl (.cons (k := 14) rfl (.cons (k := 13) rfl (.cons (k := 12) rfl (.cons (k := 11) rfl (.cons (k := 10) rfl (.cons (k := 9) rfl (.cons (k := 8) rfl (.cons (k := 0) rfl (.cons (k := 2) rfl .nil))))))))))))))) ?_
      refine C_seq ?_
      refine C_region (l := [0, 1, 2, 3, 4, 5, 6, 7, 8, 9, 10, 11]) rfl ?_
      refine X_move rfl rfl rfl rfl ?_
      refine X_move rfl rfl rfl rfl ?_
      refine X_fs rfl rfl F.ok16 rfl (Arc_ok _ ⟨l_a, l_c, l_l⟩ _ (k_l.mono (by first | exact Mem.le.refl _ | assumption | (repeat first | assumption | refine Mem.le.trans (by assumption) ?_)))) rfl ?_
      rintro _ hv
      replace hv : _ = ofArc (arcR l_l i) := hv
      rw [harce] at hv
      subst hv
      refine X_move rfl rfl rfl rfl ?_
      refine X_extract rfl rfl rfl rfl rfl ?_
      refine X_extract rfl rfl rfl rfl rfl ?_
      refine X_extract rfl rfl rfl rfl rfl ?_
      refine X_alloc rfl rfl F.zero32 (by constructor) rfl ?_; intro b3
      refine X_alloc rfl rfl F.zero32 (by constructor) rfl ?_; intro b4
      refine X_store rfl rfl rfl rfl (by constructor) (by first | ((try simp only [cat, List.cons_append, List.nil_append, List.append_nil]); (repeat (first | exact flat_nil | refine flat_id ?_ | (refine flat_one ?_ ?_; rfl))); done) | exact PeerV.flat _ | exact PeerV.flat ⟨_, _⟩ | exact stFlat _ | exact phS_flat _ | exact phR_flat | (simp [flat, cat, Segs.cells, Seg.cells, Value.oneCell']; done)) (by repeat first | exact Upd.head | apply Upd.tail | apply Upd.over) F.lay32 rfl rfl ?_
      refine X_store rfl rfl rfl rfl (by constructor) (by first | ((try simp only [cat, List.cons_append, List.nil_append, List.append_nil]); (repeat (first | exact flat_nil | refine flat_id ?_ | (refine flat_one ?_ ?_; rfl))); done) | exact PeerV.flat _ | exact PeerV.flat ⟨_, _⟩ | exact stFlat _ | exact phS_flat _ | exact phR_flat | (simp [flat, cat, Segs.cells, Seg.cells, Value.oneCell']; done)) (by repeat first | exact Upd.head | apply Upd.tail | apply Upd.over) F.lay32 rfl rfl ?_
      refine X_assign rfl rfl rfl rfl ?_
      refine XD_end ?_
      refine K_then ?_
      refine C_pick (.cons (k := 23) rfl (.cons (k := 22) rfl (.cons (k := 21) rfl (.cons (k := 20) rfl (.cons (k := 19) rfl (.cons (k := 18) rfl (.cons (k := 17) rfl (.cons (k := 16) rfl (.cons (k := 15) rfl (.cons (k := 14) rfl (.cons (k := 13) rfl (.cons (k := 12) rfl (.cons (k := 11) rfl (.cons (k := 10) rfl (.cons (k := 9) rfl (.cons (k := 8) rfl (.cons (k := 0) rfl (.cons (k := 2) rfl .nil)))))))))))))))))) ?_
      refine C_seq ?_
      refine C_region (l := [0, 1, 2, 3, 4, 5, 6, 7, 8, 9, 10, 11]) rfl ?_
      refine X_move rfl rfl rfl rfl ?_
      refine X_move rfl rfl rfl rfl ?_
      refine X_fs rfl rfl F.ok22 rfl (rArc_ok _ ⟨l_a, l_c, l_l⟩ _ (k_l.mono (by first | exact Mem.le.refl _ | assumption | (repeat first | assumption | refine Mem.le.trans (by assumption) ?_)))) rfl ?_
      rintro _ hv
      replace hv : _ = ofArc (arcR l_l i) := hv
      rw [harce] at hv
      subst hv
      refine X_move rfl rfl rfl rfl ?_
      refine X_extract rfl rfl rfl rfl rfl ?_
      refine X_extract rfl rfl rfl rfl rfl ?_
      refine X_extract rfl rfl rfl rfl rfl ?_
      refine X_alloc rfl rfl F.zero32 (by constructor) rfl ?_; intro b5
      refine X_alloc rfl rfl F.zero32 (by constructor) rfl ?_; intro b6
      refine X_store rfl rfl rfl rfl (by constructor) (by first | ((try simp only [cat, List.cons_append, List.nil_append, List.append_nil]); (repeat (first | exact flat_nil | refine flat_id ?_ | (refine flat_one ?_ ?_; rfl))); done) | exact PeerV.flat _ | exact PeerV.flat ⟨_, _⟩ | exact stFlat _ | exact phS_flat _ | exact phR_flat | (simp [flat, cat, Segs.cells, Seg.cells, Value.oneCell']; done)) (by repeat first | exact Upd.head | apply Upd.tail | apply Upd.over) F.lay32 rfl rfl ?_
      refine X_store rfl rfl rfl rfl (by constructor) (by first | ((try simp only [cat, List.cons_append, List.nil_append, List.append_nil]); (repeat (first | exact flat_nil | refine flat_id ?_ | (refine flat_one ?_ ?_; rfl))); done) | exact PeerV.flat _ | exact PeerV.flat ⟨_, _⟩ | exact stFlat _ | exact phS_flat _ | exact phR_flat | (simp [flat, cat, Segs.cells, Seg.cells, Value.oneCell']; done)) (by repeat first | exact Upd.head | apply Upd.tail | apply Upd.over) F.lay32 rfl rfl ?_
      refine X_assign rfl rfl rfl rfl ?_
      refine XD_end ?_
      refine K_then ?_
      refine C_pick (.cons (k := 26) rfl (.cons (k := 25) rfl (.cons (k := 24) rfl (.cons (k := 23) rfl (.cons (k := 22) rfl (.cons (k := 21) rfl (.cons (k := 20) rfl (.cons (k := 19) rfl (.cons (k := 18) rfl (.cons (k := 17) rfl (.cons (k := 16) rfl (.cons (k := 15) rfl (.cons (k := 14) rfl (.cons (k := 13) rfl (.cons (k := 12) rfl (.cons (k := 11) rfl (.cons (k := 10) rfl (.cons (k := 9) rfl (.cons (k := 8) rfl .nil))))))))))))))))))) ?_
      refine C_seq ?_
      refine C_region (l := [0, 1, 2, 3, 4, 5, 6, 7, 8, 9, 10, 11, 12, 13, 14, 15, 16, 17, 18, 19, 20, 21, 22, 23, 24, 25, 26, 27, 28, 29, 30, 31, 32, 33, 34, 35, 36, 37, 38, 39, 40, 41, 42, 43, 44, 45, 46]) rfl ?_
      refine X_fn rfl rfl F.ok10 rfl (rounded_ok _ (Mem.le.loose (by first | exact Mem.le.refl _ | assumption | (repeat first | assumption | refine Mem.le.trans (by assumption) ?_)) hM)) rfl ?_
      rintro _ M9 hm9 rfl
      refine X_move rfl rfl rfl rfl ?_
      refine XD_part 83 rfl (fun hc7 => ?_) (fun hc7 => ?_)
      · first | replace hc7 := dT hc7 | replace hc7 := dF hc7 | replace hc7 := nT hc7 | replace hc7 := nF hc7 | skip
        try simp only [PeerV.eta] at hc7
        first
        | (exfalso; omega)
        | (exfalso; simp [eqX] at hc7; done)
        | contradiction
        | skip
          refine X_move rfl rfl rfl rfl ?_
          refine X_move rfl rfl rfl rfl ?_
          refine X_cmp rfl rfl rfl rfl rfl rfl ?_
          refine X_pick rfl rfl rfl rfl rfl ?_
          refine X_move rfl rfl rfl rfl ?_
          refine XD_part 88 rfl (fun hc8 => ?_) (fun hc8 => ?_)
          · first | replace hc8 := dT hc8 | replace hc8 := dF hc8 | replace hc8 := nT hc8 | replace hc8 := nF hc8 | skip
            try simp only [PeerV.eta] at hc8
            first
            | (exfalso; omega)
            | (exfalso; simp [eqX] at hc8; done)
            | contradiction
            | skip
              refine X_move rfl rfl rfl rfl ?_
              refine X_move rfl rfl rfl rfl ?_
              refine X_cmp rfl rfl rfl rfl rfl rfl ?_
              refine X_pick rfl rfl rfl rfl rfl ?_
              refine X_move rfl rfl rfl rfl ?_
              refine XD_part 93 rfl (fun hc9 => ?_) (fun hc9 => ?_)
              · first | replace hc9 := dT hc9 | replace hc9 := dF hc9 | replace hc9 := nT hc9 | replace hc9 := nF hc9 | skip
                try simp only [PeerV.eta] at hc9
                first
                | (exfalso; omega)
                | (exfalso; simp [eqX] at hc9; done)
                | contradiction
                | skip
                  refine X_move rfl rfl rfl rfl ?_
                  refine X_move rfl rfl rfl rfl ?_
                  refine X_fs rfl rfl F.ok23 rfl (Ints_ok _ ⟨a1, c1, _⟩ ⟨a2, c2, _⟩ (k1.mono (by first | exact Mem.le.refl _ | assumption | (repeat first | assumption | refine Mem.le.trans (by assumption) ?_))) (k2.mono (by first | exact Mem.le.refl _ | assumption | (repeat first | assumption | refine Mem.le.trans (by assumption) ?_)))) rfl ?_
                  rintro _ hv
                  rw [decide_eq_true rfl] at hv
                  subst hv
                  refine X_pick rfl rfl rfl rfl rfl ?_
                  refine X_move rfl rfl rfl rfl ?_
                  refine XD_part 98 rfl (fun hc10 => ?_) (fun hc10 => ?_)
                  · first | replace hc10 := dT hc10 | replace hc10 := dF hc10 | replace hc10 := nT hc10 | replace hc10 := nF hc10 | skip
                    try simp only [PeerV.eta] at hc10
                    first
                    | (exfalso; omega)
                    | (exfalso; simp [eqX] at hc10; done)
                    | contradiction
                    | skip
                      refine X_move rfl rfl rfl rfl ?_
                      refine X_move rfl rfl rfl rfl ?_
                      refine X_cmp rfl rfl rfl rfl rfl rfl ?_
                      refine X_pick rfl rfl rfl rfl rfl ?_
                      refine X_move rfl rfl rfl rfl ?_
                      refine XD_part 103 rfl (fun hc11 => ?_) (fun hc11 => ?_)
                      · first | replace hc11 := dT hc11 | replace hc11 := dF hc11 | replace hc11 := nT hc11 | replace hc11 := nF hc11 | skip
                        try simp only [PeerV.eta] at hc11
                        first
                        | (exfalso; omega)
                        | (exfalso; simp [eqX] at hc11; done)
                        | contradiction
                        | skip
                          refine X_move rfl rfl rfl rfl ?_
                          refine X_move rfl rfl rfl rfl ?_
                          refine X_fs rfl rfl F.ok23 rfl (Ints_ok _ ⟨a3, c3, _⟩ ⟨a4, c4, _⟩ (k3.mono (by first | exact Mem.le.refl _ | assumption | (repeat first | assumption | refine Mem.le.trans (by assumption) ?_))) (k4.mono (by first | exact Mem.le.refl _ | assumption | (repeat first | assumption | refine Mem.le.trans (by assumption) ?_)))) rfl ?_
                          rintro _ hv
                          rw [decide_eq_true rfl] at hv
                          subst hv
                          refine X_pick rfl rfl rfl rfl rfl ?_
                          refine X_move rfl rfl rfl rfl ?_
                          refine XD_part 108 rfl (fun hc12 => ?_) (fun hc12 => ?_)
                          · first | replace hc12 := dT hc12 | replace hc12 := dF hc12 | replace hc12 := nT hc12 | replace hc12 := nF hc12 | skip
                            try simp only [PeerV.eta] at hc12
                            first
                            | (exfalso; omega)
                            | (exfalso; simp [eqX] at hc12; done)
                            | contradiction
                            | skip
                              refine X_move rfl rfl rfl rfl ?_
                              refine X_move rfl rfl rfl rfl ?_
                              refine X_cmp rfl rfl rfl rfl rfl rfl ?_
                              refine X_pick rfl rfl rfl rfl rfl ?_
                              refine X_move rfl rfl rfl rfl ?_
                              refine XD_part 113 rfl (fun hc13 => ?_) (fun hc13 => ?_)
                              · first | replace hc13 := dT hc13 | replace hc13 := dF hc13 | replace hc13 := nT hc13 | replace hc13 := nF hc13 | skip
                                try simp only [PeerV.eta] at hc13
                                first
                                | (exfalso; omega)
                                | (exfalso; simp [eqX] at hc13; done)
                                | contradiction
                                | skip
                                  first | refine X_load rfl rfl rfl (by repeat first | exact List.Mem.head _ | refine List.Mem.tail _ ?_ | refine List.mem_append_right _ ?_) F.lay32 rfl rfl rfl ?_ | refine X_load_el rfl rfl rfl (by first | assumption | exact SlM.mono (by assumption) (by assumption)) (by first | exact row_map (by omega) | exact List.getElem?_eq_getElem (by omega) | exact rfl | exact row_map (by first | (simp; done) | (simp; omega))) F.lay32 rfl rfl rfl ?_ | refine X_load_rd rfl rfl rfl (by assumption) (by first | exact row_map (by omega) | exact List.getElem?_eq_getElem (by omega) | exact rfl | exact row_map (by first | (simp; done) | (simp; omega))) F.lay32 rfl rfl rfl ?_ | refine X_load_mem rfl rfl rfl (by first | assumption | exact Mem.get_of (by assumption) (by repeat first | assumption | refine Mem.le.trans (by assumption) ?_)) F.lay32 rfl rfl rfl ?_ | refine X_load_osl rfl rfl rfl (by assumption) (by repeat first | exact Rem.here _ | exact Rem.two | apply Rem.skip | apply Rem.over) (by first | exact row_map (by omega) | exact List.getElem?_eq_getElem (by omega) | exact rfl | exact row_map (by first | (simp; done) | (simp; omega))) F.lay32 rfl rfl rfl ?_
                                  first | refine X_load rfl rfl rfl (by repeat first | exact List.Mem.head _ | refine List.Mem.tail _ ?_ | refine List.mem_append_right _ ?_) F.lay32 rfl rfl rfl ?_ | refine X_load_el rfl rfl rfl (by first | assumption | exact SlM.mono (by assumption) (by assumption)) (by first | exact row_map (by omega) | exact List.getElem?_eq_getElem (by omega) | exact rfl | exact row_map (by first | (simp; done) | (simp; omega))) F.lay32 rfl rfl rfl ?_ | refine X_load_rd rfl rfl rfl (by assumption) (by first | exact row_map (by omega) | exact List.getElem?_eq_getElem (by omega) | exact rfl | exact row_map (by first | (simp; done) | (simp; omega))) F.lay32 rfl rfl rfl ?_ | refine X_load_mem rfl rfl rfl (by first | assumption | exact Mem.get_of (by assumption) (by repeat first | assumption | refine Mem.le.trans (by assumption) ?_)) F.lay32 rfl rfl rfl ?_ | refine X_load_osl rfl rfl rfl (by assumption) (by repeat first | exact Rem.here _ | exact Rem.two | apply Rem.skip | apply Rem.over) (by first | exact row_map (by omega) | exact List.getElem?_eq_getElem (by omega) | exact rfl | exact row_map (by first | (simp; done) | (simp; omega))) F.lay32 rfl rfl rfl ?_
                                  refine X_same (m := 20) rfl rfl rfl rfl rfl (by constructor) (by constructor) F.lay32 F.kinds32 rfl F.guard32 (fit_id fit_nil) (fit_id fit_nil) rfl rfl rfl ?_; intro c14 he15
                                  replace he15 : c14 = true ↔ Segs.cells _ = Segs.cells _ := he15
                                  obtain rfl := eqD he15 (cells_id1 (x := _) (y := _)); clear he15
                                  refine X_pick rfl rfl rfl rfl rfl ?_
                                  refine X_move rfl rfl rfl rfl ?_
                                  refine XD_part 118 rfl (fun hc16 => ?_) (fun hc16 => ?_)
                                  · first | replace hc16 := dT hc16 | replace hc16 := dF hc16 | replace hc16 := nT hc16 | replace hc16 := nF hc16 | skip
                                    try simp only [PeerV.eta] at hc16
                                    first
                                    | (exfalso; omega)
                                    | (exfalso; simp [eqX] at hc16; done)
                                    | contradiction
                                    | skip
                                      first | refine X_load rfl rfl rfl (by repeat first | exact List.Mem.head _ | refine List.Mem.tail _ ?_ | refine List.mem_append_right _ ?_) F.lay32 rfl rfl rfl ?_ | refine X_load_el rfl rfl rfl (by first | assumption | exact SlM.mono (by assumption) (by assumption)) (by first | exact row_map (by omega) | exact List.getElem?_eq_getElem (by omega) | exact rfl | exact row_map (by first | (simp; done) | (simp; omega))) F.lay32 rfl rfl rfl ?_ | refine X_load_rd rfl rfl rfl (by assumption) (by first | exact row_map (by omega) | exact List.getElem?_eq_getElem (by omega) | exact rfl | exact row_map (by first | (simp; done) | (simp; omega))) F.lay32 rfl rfl rfl ?_ | refine X_load_mem rfl rfl rfl (by first | assumption | exact Mem.get_of (by assumption) (by repeat first | assumption | refine Mem.le.trans (by assumption) ?_)) F.lay32 rfl rfl rfl ?_ | refine X_load_osl rfl rfl rfl (by assumption) (by repeat first | exact Rem.here _ | exact Rem.two | apply Rem.skip | apply Rem.over) (by first | exact row_map (by omega) | exact List.getElem?_eq_getElem (by omega) | exact rfl | exact row_map (by first | (simp; done) | (simp; omega))) F.lay32 rfl rfl rfl ?_
                                      first | refine X_load rfl rfl rfl (by repeat first | exact List.Mem.head _ | refine List.Mem.tail _ ?_ | refine List.mem_append_right _ ?_) F.lay32 rfl rfl rfl ?_ | refine X_load_el rfl rfl rfl (by first | assumption | exact SlM.mono (by assumption) (by assumption)) (by first | exact row_map (by omega) | exact List.getElem?_eq_getElem (by omega) | exact rfl | exact row_map (by first | (simp; done) | (simp; omega))) F.lay32 rfl rfl rfl ?_ | refine X_load_rd rfl rfl rfl (by assumption) (by first | exact row_map (by omega) | exact List.getElem?_eq_getElem (by omega) | exact rfl | exact row_map (by first | (simp; done) | (simp; omega))) F.lay32 rfl rfl rfl ?_ | refine X_load_mem rfl rfl rfl (by first | assumption | exact Mem.get_of (by assumption) (by repeat first | assumption | refine Mem.le.trans (by assumption) ?_)) F.lay32 rfl rfl rfl ?_ | refine X_load_osl rfl rfl rfl (by assumption) (by repeat first | exact Rem.here _ | exact Rem.two | apply Rem.skip | apply Rem.over) (by first | exact row_map (by omega) | exact List.getElem?_eq_getElem (by omega) | exact rfl | exact row_map (by first | (simp; done) | (simp; omega))) F.lay32 rfl rfl rfl ?_
                                      refine X_same (m := 20) rfl rfl rfl rfl rfl (by constructor) (by constructor) F.lay32 F.kinds32 rfl F.guard32 (fit_id fit_nil) (fit_id fit_nil) rfl rfl rfl ?_; intro c17 he18
                                      replace he18 : c17 = true ↔ Segs.cells _ = Segs.cells _ := he18
                                      obtain rfl := eqD he18 (cells_id1 (x := _) (y := _)); clear he18
                                      refine X_pick rfl rfl rfl rfl rfl ?_
                                      refine X_move rfl rfl rfl rfl ?_
                                      refine XD_part 123 rfl (fun hc19 => ?_) (fun hc19 => ?_)
                                      · first | replace hc19 := dT hc19 | replace hc19 := dF hc19 | replace hc19 := nT hc19 | replace hc19 := nF hc19 | skip
                                        try simp only [PeerV.eta] at hc19
                                        first
                                        | (exfalso; omega)
                                        | (exfalso; simp [eqX] at hc19; done)
                                        | contradiction
                                        | skip
                                          refine X_move rfl rfl rfl rfl ?_
                                          refine X_move rfl rfl rfl rfl ?_
                                          refine X_cmp rfl rfl rfl rfl rfl rfl ?_
                                          refine X_pick rfl rfl rfl rfl rfl ?_
                                          refine X_assign rfl rfl rfl rfl ?_
                                          refine XD_end ?_
                                          refine K_then ?_
                                          refine C_pick (.cons (k := 8) rfl .nil) ?_
                                          refine C_ret ?_
                                          refine K_end (.inr rfl) (.tmp rfl .nil) (fun w hw => ?_)
                                          refine ⟨_, _, rfl, (by first | exact Mem.le.refl _ | assumption | (repeat first | assumption | refine Mem.le.trans (by assumption) ?_)), hw.cnt (by intro zz; first | exact Nat.le_refl _ | (simp only [cnt_app, cnt_cons, cnt_nil, cat, List.append_eq, List.append_assoc, List.cons_append, List.nil_append, List.append_nil]; omega) | (simp only [cnt_app, cnt_cons, cnt_nil, cat, List.append_eq, List.append_assoc, List.cons_append, List.nil_append, List.append_nil, PeerV.segs]; omega)), ?_⟩
                                          clear hw
                                          first | rfl | exact congrArg Value.bool (decide_eq_true (by omega)) | (simp; done) | (simp; rfl) | (simp_all; done)
                                      · first | replace hc19 := dT hc19 | replace hc19 := dF hc19 | replace hc19 := nT hc19 | replace hc19 := nF hc19 | skip
                                        try simp only [PeerV.eta] at hc19
                                        first | (exfalso; omega) | (exfalso; simp [eqX] at hc19; done) | contradiction
                                  · first | replace hc16 := dT hc16 | replace hc16 := dF hc16 | replace hc16 := nT hc16 | replace hc16 := nF hc16 | skip
                                    try simp only [PeerV.eta] at hc16
                                    first | (exfalso; omega) | (exfalso; simp [eqX] at hc16; done) | contradiction
                              · first | replace hc13 := dT hc13 | replace hc13 := dF hc13 | replace hc13 := nT hc13 | replace hc13 := nF hc13 | skip
                                try simp only [PeerV.eta] at hc13
                                first | (exfalso; omega) | (exfalso; simp [eqX] at hc13; done) | contradiction
                          · first | replace hc12 := dT hc12 | replace hc12 := dF hc12 | replace hc12 := nT hc12 | replace hc12 := nF hc12 | skip
                            try simp only [PeerV.eta] at hc12
                            first | (exfalso; omega) | (exfalso; simp [eqX] at hc12; done) | contradiction
                      · first | replace hc11 := dT hc11 | replace hc11 := dF hc11 | replace hc11 := nT hc11 | replace hc11 := nF hc11 | skip
                        try simp only [PeerV.eta] at hc11
                        first | (exfalso; omega) | (exfalso; simp [eqX] at hc11; done) | contradiction
                  · first | replace hc10 := dT hc10 | replace hc10 := dF hc10 | replace hc10 := nT hc10 | replace hc10 := nF hc10 | skip
                    try simp only [PeerV.eta] at hc10
                    first | (exfalso; omega) | (exfalso; simp [eqX] at hc10; done) | contradiction
              · first | replace hc9 := dT hc9 | replace hc9 := dF hc9 | replace hc9 := nT hc9 | replace hc9 := nF hc9 | skip
                try simp only [PeerV.eta] at hc9
                first | (exfalso; omega) | (exfalso; simp [eqX] at hc9; done) | contradiction
          · first | replace hc8 := dT hc8 | replace hc8 := dF hc8 | replace hc8 := nT hc8 | replace hc8 := nF hc8 | skip
            try simp only [PeerV.eta] at hc8
            first | (exfalso; omega) | (exfalso; simp [eqX] at hc8; done) | contradiction
      · first | replace hc7 := dT hc7 | replace hc7 := dF hc7 | replace hc7 := nT hc7 | replace hc7 := nF hc7 | skip
        try simp only [PeerV.eta] at hc7
        first | (exfalso; omega) | (exfalso; simp [eqX] at hc7; done) | contradiction

end Go.Proofs.YtbafnjniijodfaaDoor
